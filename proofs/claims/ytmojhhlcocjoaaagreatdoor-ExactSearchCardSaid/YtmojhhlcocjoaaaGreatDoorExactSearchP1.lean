/- packed and squeezed by programs (see wip/) -/
import Derived.Test.YtmojhhlcocjoaaaGreatDoorRows
import Derived.WalkKit
import Derived.ProofKit
import Derived.OpenShut
import Derived.BigQuiet
import Derived.Deep.QuietTactic
import Derived.Deep.Slices
import Derived.Lib.Hide
import Derived.Lib.SmallJoins
import Derived.Deep.RegionHeld3
import Derived.StillTailTactics
import Derived.Deep.RegionLaw
import Derived.WalkSpells
import Derived.Deep.DeepFit
import Derived.JoinedCond
import Derived.Maps.AppendAt
import Derived.RegionTactic
import Derived.Deep.DeepCutAuto
import Derived.Shelf.Abstract
import Derived.Lib.VarintBits
set_option maxRecDepth 100000
set_option maxHeartbeats 16000000
set_option linter.unusedVariables false
set_option linter.unusedSimpArgs false
namespace Go.Proofs.YtmojhhlcocjoaaaGreatDoor
open Go.RowKit Go.ChangeShapes Go.WideShapes Go.ChangeAt
abbrev Ext (w w':World) : Prop:=Below w.heap.size w w'
theorem Hd {p:Prop}(h:p) : Hid p:=Lib.hid h
theorem Ext.rf (w:World) : Ext w w:=Below.refl _ _
theorem Ext.tr {a b c:World}(h:Ext a b)(k:Ext b c) : Ext a c:=Below.trans h (Below.mono k h.size)
theorem Ext.drewN {a b:World}(h:Ext a b)(n:Nat) : Ext a (b.drewN n):=⟨h.os,h.tape,h.output,h.size,h.block⟩
theorem Ext.drew {a b:World}(h:Ext a b) : Ext a b.drew:=Below.drew h
theorem Ext.alloc {a b:World}(h:Ext a b)(o:Obj) : Ext a (b.alloc o):=Below.alloc h h.size o
theorem Ext.setNew {a b:World}(h:Ext a b){p:Addr}(hp:a.heap.size<=p.block)(u:Value) : Ext a (b.setCell p u):=Below.setCell h hp u
theorem Ext.cells {W w1:World}(hb:Ext W w1) : (∀ b o,b<W.heap.size->w1.cell? ⟨b,o,none⟩=W.cell? ⟨b,o,none⟩)/\(∀ b o,b<W.heap.size->w1.frozen? ⟨b,o,none⟩=W.frozen? ⟨b,o,none⟩) :=
 ⟨fun b o h=>hb.cell (p:=⟨b,o,none⟩) h,fun b o h=>hb.frozen (p:=⟨b,o,none⟩) h⟩
def RdI (w:World)(A:Option Addr)(xs:List Int) : Prop :=
 xs=[]\/∃ b off,A=some ⟨b,off,none⟩/\b<w.heap.size/\∀ j x,xs[j]?=some x->w.cell? ⟨b,off+j,none⟩=some (.int .i64 x)
theorem RdI.at {w:World}{A:Option Addr}{xs:List Int}(h:RdI w A xs){k:Nat}(hk:k<xs.length) :
  ∃ b off x,A=some ⟨b,off,none⟩/\b<w.heap.size/\w.cell? ⟨b,off+k,none⟩=some (.int .i64 x)/\Hid (xs[k]?=some x)/\Hid (xs.drop k=x::xs.drop (k+1)):=by
 rcases h with rfl | ⟨b,off,rfl,hb,hc⟩
 ·simp at hk
 ·have e:xs[k]?=some xs[k]:=List.getElem?_eq_getElem hk
  exact⟨b,off,xs[k],rfl,hb,hc k _ e,e,List.drop_eq_getElem_cons hk⟩
theorem RdI.ext {w w':World}{A:Option Addr}{xs:List Int}(h:RdI w A xs)(hb:Ext w w') : RdI w' A xs:=by
 rcases h with rfl | ⟨b,off,rfl,hb',hc⟩
 ·exact .inl rfl
 ·exact .inr ⟨b,off,rfl,by have:=hb.size;omega,fun j x hj=>by rw[hb.cell hb'];exact hc j x hj⟩
theorem RdI.take {w:World}{A:Option Addr}{xs:List Int}(h:RdI w A xs)(n:Nat) : RdI w A (xs.take n):=by
 rcases h with rfl | ⟨b,off,rfl,hb',hc⟩
 ·exact .inl (by simp)
 ·exact .inr ⟨b,off,rfl,hb',fun j x hj=>hc j x (by rw[List.getElem?_take] at hj;split at hj<;>simp_all)⟩
def Blk (w:World)(g:Nat)(t:TypeId)(cs:Array Value) : Prop:=w.heap[g]?=some (.cells cs t (0,0))
section
variable {w w':World} {g:Nat} {t:TypeId} {cs:Array Value}
theorem Blk.lt (h:Blk w g t cs) : g<w.heap.size:=(Array.getElem?_eq_some_iff.1 h).1
theorem Blk.cell (h:Blk w g t cs)(i:Nat) : w.cell? ⟨g,i,none⟩=cs[i]?:=cell_of_row w g i cs t (0,0) h
theorem Blk.c0 {w:World}{g:Nat}{t:TypeId}{v0:Value}{r:List Value}(h:Blk w g t (List.toArray (v0::r))) : w.cell? ⟨g,0,none⟩=some v0:=h.cell 0
theorem Blk.c1 {w:World}{g:Nat}{t:TypeId}{v0 v1:Value}{r:List Value}(h:Blk w g t (List.toArray (v0::v1::r))) : w.cell? ⟨g,1,none⟩=some v1:=h.cell 1
theorem Blk.c2 {w:World}{g:Nat}{t:TypeId}{v0 v1 v2:Value}{r:List Value}(h:Blk w g t (List.toArray (v0::v1::v2::r))) : w.cell? ⟨g,2,none⟩=some v2:=h.cell 2
theorem Blk.c3 {w:World}{g:Nat}{t:TypeId}{v0 v1 v2 v3:Value}{r:List Value}(h:Blk w g t (List.toArray (v0::v1::v2::v3::r))) : w.cell? ⟨g,3,none⟩=some v3:=h.cell 3
theorem Blk.c4 {w:World}{g:Nat}{t:TypeId}{v0 v1 v2 v3 v4:Value}{r:List Value}(h:Blk w g t (List.toArray (v0::v1::v2::v3::v4::r))) : w.cell? ⟨g,4,none⟩=some v4:=h.cell 4
theorem Blk.c5 {w:World}{g:Nat}{t:TypeId}{v0 v1 v2 v3 v4 v5:Value}{r:List Value}(h:Blk w g t (List.toArray (v0::v1::v2::v3::v4::v5::r))) : w.cell? ⟨g,5,none⟩=some v5:=h.cell 5
theorem Blk.c6 {w:World}{g:Nat}{t:TypeId}{v0 v1 v2 v3 v4 v5 v6:Value}{r:List Value}(h:Blk w g t (List.toArray (v0::v1::v2::v3::v4::v5::v6::r))) : w.cell? ⟨g,6,none⟩=some v6:=h.cell 6
theorem Blk.c7 {w:World}{g:Nat}{t:TypeId}{v0 v1 v2 v3 v4 v5 v6 v7:Value}{r:List Value}(h:Blk w g t (List.toArray (v0::v1::v2::v3::v4::v5::v6::v7::r))) : w.cell? ⟨g,7,none⟩=some v7:=h.cell 7
theorem Blk.c8 {w:World}{g:Nat}{t:TypeId}{v0 v1 v2 v3 v4 v5 v6 v7 v8:Value}{r:List Value}(h:Blk w g t (List.toArray (v0::v1::v2::v3::v4::v5::v6::v7::v8::r))) : w.cell? ⟨g,8,none⟩=some v8:=h.cell 8
theorem Blk.c9 {w:World}{g:Nat}{t:TypeId}{v0 v1 v2 v3 v4 v5 v6 v7 v8 v9:Value}{r:List Value}(h:Blk w g t (List.toArray (v0::v1::v2::v3::v4::v5::v6::v7::v8::v9::r))) : w.cell? ⟨g,9,none⟩=some v9:=h.cell 9
theorem Blk.c10 {w:World}{g:Nat}{t:TypeId}{v0 v1 v2 v3 v4 v5 v6 v7 v8 v9 v10:Value}{r:List Value}(h:Blk w g t (List.toArray (v0::v1::v2::v3::v4::v5::v6::v7::v8::v9::v10::r))) : w.cell? ⟨g,10,none⟩=some v10:=h.cell 10
theorem Blk.c11 {w:World}{g:Nat}{t:TypeId}{v0 v1 v2 v3 v4 v5 v6 v7 v8 v9 v10 v11:Value}{r:List Value}(h:Blk w g t (List.toArray (v0::v1::v2::v3::v4::v5::v6::v7::v8::v9::v10::v11::r))) : w.cell? ⟨g,11,none⟩=some v11:=h.cell 11
theorem Blk.free (h:Blk w g t cs)(i:Nat) : w.frozen? ⟨g,i,none⟩=false:=by
 unfold Blk at h;simp[World.frozen?,h]
theorem Blk.new (h:g=w.heap.size) : Blk (w.alloc (.cells cs t)) g t cs:=by subst h;exact heap_alloc_new w _
theorem Blk.drew (h:Blk w g t cs) : Blk w.drew g t cs:=h
theorem Blk.drewN (h:Blk w g t cs)(n:Nat) : Blk (w.drewN n) g t cs:=h
theorem Blk.alloc (h:Blk w g t cs)(o:Obj) : Blk (w.alloc o) g t cs:=(Below.heap_alloc w o g h.lt).trans h
theorem Blk.set (h:Blk w g t cs)(i:Nat)(u:Value) : Blk (w.setCell ⟨g,i,none⟩ u) g t (cs.setIfInBounds i u):=by
 unfold Blk at h ⊢;simp[World.setCell,Array.getElem?_modify,h]
theorem Blk.far (h:Blk w g t cs){p:Addr}(hp:g≠p.block)(u:Value) : Blk (w.setCell p u) g t cs:=(Below.heap_setCell w p u g hp).trans h
theorem Blk.ext (h:Blk w g t cs)(hb:Ext w w') : Blk w' g t cs:=(hb.block g h.lt).trans h
theorem Blk.below {B:Nat}(h:Blk w g t cs)(hb:Below B w w')(hg:g<B) : Blk w' g t cs:=(hb.block g hg).trans h
theorem Blk.ne {g':Nat}{t':TypeId}{cs':Array Value}(h:Blk w g t cs)(h':Blk w g' t' cs')(hne:t≠t') : g≠g':=by
 rintro rfl;unfold Blk at h h';rw[h] at h'
 injection h' with h'
 injection h' with _ ht
 exact hne ht
theorem Blk.same {cs':Array Value}{t':TypeId}(h:Blk w g t cs)(h':Blk w g t' cs') : cs=cs':=by
 unfold Blk at h h';rw[h] at h'
 injection h' with h'
 injection h' with hc
end
theorem RdI.blk {w:World}{b:Nat}{cs:Array Value}{t:TypeId}{xs:List Int}(h:Blk w b t cs)(hx:cs.toList=xs.map (Value.int .i64)) : RdI w (some ⟨b,0,none⟩) xs:=by
 refine .inr ⟨_,_,rfl,h.lt,fun j x hj=>?_⟩;rw[h.cell];have:cs.toList[0+j]?=some (.int .i64 x):=by rw[hx];simp[hj]
 simpa using this
def Ints (xs:List Int) : Prop:=∀ x∈xs,-9223372036854775808<=x/\x<=9223372036854775807
theorem ZQ : 0<=maxLen:=by simp only[maxLen];omega
theorem Ints.nil : Ints []:=fun x hx=>absurd hx List.not_mem_nil
theorem Ints.take {xs:List Int}(h:Ints xs)(n:Nat) : Ints (xs.take n):=fun x hx=>h x (List.mem_of_mem_take hx)
theorem Ints.get {xs:List Int}(h:Ints xs){k:Nat}{x:Int}(hk:xs[k]?=some x) : -9223372036854775808<=x/\x<=9223372036854775807:=h x (List.mem_of_getElem? hk)
theorem VO {α:Type}{xs:List α}{k:Nat}(h:xs.length<=k) : Hid (xs.drop k=[]):=List.drop_of_length_le h
theorem Zel {w:World}{A:Option Addr}{xs:List Int}(m:Nat)(h:RdI w A xs)(hi:Ints xs) : ∃ ps:List Int,RdI w A ps/\Ints ps/\ps.length<=m/\ps.length<=xs.length/\Hid (ps=xs.take m)/\(if (m:Int)<(xs.length:Int) then(m:Int) else(xs.length:Int))=(ps.length:Int):=by
 refine⟨xs.take m,h.take m,hi.take m,List.length_take_le _ _,by simp only[List.length_take];omega,rfl,?_⟩;simp only[List.length_take];split<;>omega
theorem getD_some {α:Type}{xs:List α}{k:Nat}{x d:α}(h:xs[k]?=some x) : xs.getD k d=x:=by simp[List.getD,h]
theorem Yv {k:IntKind}{a b:Int}(h:a=b) : Ending.returned (.int k a)=.returned (.int k b):=by rw[h]
theorem QR {a b:Bool}(h:a=b) : Ending.returned (.bool a)=.returned (.bool b):=by rw[h]
theorem own : ownKnob Tryz.prog.godebug=none:=by kernel_rfl
theorem Zem : laidOutB Tryz.prog=true:=by kernel_rfl
theorem ZeV : Tryz.prog.underlying 4=some .bool:=Tryz.underlying4
theorem Vb : Tryz.prog.cellsOf 3=1:=by kernel_rfl
theorem JT {ts:List TypeId}(h:ts.all (fun t=>Tryz.prog.readableRec t&&decide (t<Tryz.prog.types.size))=true) : ∀ t∈ts,Tryz.prog.readableRec t=true/\t<Tryz.prog.types.size:=fun t ht=>by
 have:=List.all_eq_true.1 h t ht
 simpa using this
theorem ZeW {x:Int}(h:(Lit.int .i64 x).wf=true) : -9223372036854775808<=x/\x<=9223372036854775807:=by
 simpa [Lit.wf,IntKind.min,IntKind.max,IntKind.signed,IntKind.bits] using h
section
variable {H:Type} {enc:TypeId×Value->H}
theorem UD {W W':World}(hb:Ext W W') : ∀ {ts:List TypeId} {vs:List Value} {ds:List (DataW H)} {p:List MemPlace},(∀ t∈ts,Tryz.prog.readableRec t=true/\t<Tryz.prog.types.size) ->
  DataW.TrodAll enc Tryz.prog W 0 (fun _=>true) true ts vs ds p->(∀ x∈p,x.block<W.heap.size)->DataW.TrodAll enc Tryz.prog W' 0 (fun b=>decide (b<W.heap.size)) true ts vs ds p
 | [],[],[],_,_,h,_=>by simpa [DataW.TrodAll] using h
 | t::ts,v::vs,d::ds,_,hr,h,hlt=>by
  obtain⟨p,q,h0,h1,rfl⟩:=h;exact⟨p,q,Below.trod Zem (hr t (by simp)).1 (hr t (by simp)).2 h0 hb (fun x hx=>hlt x (by simp[hx])),UD hb (fun t ht=>hr t (by simp[ht])) h1 (fun x hx=>hlt x (by simp[hx])),rfl⟩
 | [],_::_,_,_,_,h,_=>by simp[DataW.TrodAll] at h
 | [],[],_::_,_,_,h,_=>by simp[DataW.TrodAll] at h
 | _::_,[],_,_,_,h,_=>by simp[DataW.TrodAll] at h
 | _::_,_::_,[],_,_,h,_=>by simp[DataW.TrodAll] at h
theorem Zdh {f:Func}{s:ChangeSpec}{W W':World}{args:Array Value}{ds gs:List (DataW H)}{before:List MemPlace}
  (hW:DataW.Whole enc Tryz.prog f.params.toList s.vars false W args.toList ds gs before) (hvars:s.vars=[]) (hr:f.resultTypes=#[4])
  (hs:(s.fn H (ds++gs)).results=[.lit (.bool true)]) (ha:(s.fn H (ds++gs)).args=ds) (hv:(s.fn H (ds++gs)).vars=[])
  (hp:∀ t∈f.params.toList,Tryz.prog.readableRec t=true/\t<Tryz.prog.types.size) (hb:Ext W W') :
  s.post enc Tryz.prog f false true false false W args (.bool true) W':=by
 have hW':=hW;obtain⟨p,q,hA,hV,rfl,hz,hn⟩:=hW;rw[hvars] at hV;obtain⟨rfl,rfl⟩:=trodVars_none hV;have hlt:∀ x∈p,x.block<W.heap.size:=fun x hx=>by simpa using hW'.lt x (by simp[hx])
 refine⟨ds,[],p++[],[],p,[],hW',?_,?_,?_,hb.frame _,fun h=>by cases h⟩
 ·rw[hs,hr]
  exact trodAll_cons_mk (shut_bool ZeV _) trodAll_mk0
 ·rw[ha]
  exact UD hb hp hA hlt
 ·rw[hv,hvars]
  simp[DataW.TrodVars]
end
end Go.Proofs.YtmojhhlcocjoaaaGreatDoor
namespace Go.Proofs.YtmojhhlcocjoaaaGreatDoor
open Go.RowKit Go.ChangeShapes Go.WideShapes Go.ChangeAt
theorem Yp : (Tryz.prog.info? 3).map (fun i=>(i.zero,i.size,i.bytes))=some (some (.int .i64 0),1,8):=by kernel_rfl
def OwI (w:World)(base:Nat)(A:Option Addr)(c:Nat)(xs:List Int) : Prop:=w.ownsRow base 3 1 (.slice A xs.length c) xs.length (xs.map (Value.int .i64))
def bl (A:Option Addr) : Option Nat:=A.map (·.block)
theorem YY (A:Option Addr)(n c:Nat) : (Value.slice A n c).ownBlock=bl A:=by cases A<;>rfl
section
variable {w w':World} {base:Nat} {A:Option Addr} {c:Nat} {xs:List Int}
theorem OwI.nil (w:World)(base:Nat) : OwI w base none 0 []:=World.ownsRow_nil _ _ _ _
theorem OwI.cases (h:OwI w base A c xs) : (A=none/\c=0/\xs=[])\/∃ g cur,A=some ⟨g,0,none⟩/\base<=g/\w.heap[g]?=some (.cells cur 3 (0,0))/\xs.length<=c/\c<=maxLen/\cur.size=c*1/\cur.toList.take (xs.length*1)=xs.map (Value.int .i64):=by
 rcases h.2 with⟨hv,h0⟩ | ⟨g,cap,cur,hv,hb,hg,hn,hm,hs,ht⟩
 ·have:xs=[]:=List.eq_nil_of_length_eq_zero h0
  subst this
  injection hv with h1 _ h3
  exact .inl ⟨h1,h3,rfl⟩
 ·injection hv with h1 _ h3
  subst h1 h3;exact .inr ⟨g,cur,rfl,hb,hg,hn,hm,hs,ht⟩
theorem OwI.mk {g:Nat}{cur:Array Value}(hb:base<=g)(hg:w.heap[g]?=some (.cells cur 3 (0,0)))(hn:xs.length<=c)(hm:c<=maxLen)(hs:cur.size=c*1)(ht:cur.toList.take (xs.length*1)=xs.map (Value.int .i64)) : OwI w base (some ⟨g,0,none⟩) c xs :=
 ⟨by simp,.inr ⟨g,c,cur,rfl,hb,hg,hn,hm,hs,ht⟩⟩
theorem OwI.le (h:OwI w base A c xs) : xs.length<=c/\c<=maxLen:=by
 rcases h.cases with⟨rfl,rfl,rfl⟩ | ⟨g,cur,rfl,hb,hg,hn,hm,_⟩
 ·exact⟨Nat.le_refl _,ZQ⟩
 ·exact⟨hn,hm⟩
theorem OwI.read (h:OwI w base A c xs) : RdI w A xs:=by
 rcases h.cases with⟨rfl,rfl,rfl⟩ | ⟨g,cur,rfl,hb,hg,hn,hm,hs,ht⟩
 ·exact .inl rfl
 ·have hlt:=(Array.getElem?_eq_some_iff.1 hg).1
  refine .inr ⟨g,0,rfl,hlt,fun j x hj=>?_⟩;rw[cell_of_row w g _ cur _ (0,0) hg];have hj':(xs.map (Value.int .i64))[j]?=some (.int .i64 x):=by simp[hj]
  rw[<-ht,List.getElem?_take] at hj';split at hj'
  ·simpa using hj'
  ·cases hj'
theorem OwI.keep (h:OwI w base A c xs)(hb:∀ g,bl A=some g->w'.heap[g]?=w.heap[g]?) : OwI w' base A c xs:=by
 rcases h.cases with⟨rfl,rfl,rfl⟩ | ⟨g,cur,rfl,hb',hg,hn,hm,hs,ht⟩
 ·exact OwI.nil _ _
 ·exact .mk hb' ((hb g rfl).trans hg) hn hm hs ht
theorem OwI.lt (h:OwI w base A c xs) : ∀ k,bl A=some k->base<=k/\k<w.heap.size:=by
 intro k hk;rcases h.cases with⟨rfl,rfl,rfl⟩ | ⟨g,cur,rfl,hb',hg,_⟩
 ·simp[bl] at hk
 ·simp[bl] at hk
  subst hk;exact⟨hb',(Array.getElem?_eq_some_iff.1 hg).1⟩
theorem OwI.ext (h:OwI w base A c xs)(hb:Ext w w') : OwI w' base A c xs:=h.keep fun g hg=>hb.block g (h.lt g hg).2
theorem OwI.more {base':Nat}(h:OwI w base A c xs)(hb:base'<=base) : OwI w base' A c xs:=by
 rcases h.cases with⟨rfl,rfl,rfl⟩ | ⟨g,cur,rfl,hb',hg,hn,hm,hs,ht⟩
 ·exact OwI.nil _ _
 ·exact .mk (Nat.le_trans hb hb') hg hn hm hs ht
theorem OwI.at (h:OwI w base A c xs){k:Nat}(hk:k<xs.length) :
  ∃ g x,A=some ⟨g,0,none⟩/\base<=g/\g<w.heap.size/\w.cell? ⟨g,k,none⟩=some (.int .i64 x)/\w.frozen? ⟨g,k,none⟩=false/\Hid (xs[k]?=some x) /\
   Hid (∀ y,OwI (w.setCell ⟨g,k,none⟩ (.int .i64 y)) base A c (xs.set k y)):=by
 rcases h.cases with⟨rfl,rfl,rfl⟩ | ⟨g,cur,rfl,hb,hg,hn,hm,hs,ht⟩
 ·simp at hk
 ·have hlt:=(Array.getElem?_eq_some_iff.1 hg).1
  have hxk:xs[k]?=some xs[k]:=List.getElem?_eq_getElem hk;have hc:w.cell? ⟨g,k,none⟩=some (.int .i64 xs[k]):=by
   rw[cell_of_row w g _ cur _ (0,0) hg];have hj':(xs.map (Value.int .i64))[k]?=some (.int .i64 xs[k]):=by simp[hxk]
   rw[<-ht,List.getElem?_take] at hj';split at hj'
   ·simpa using hj'
   ·cases hj'
  refine⟨g,xs[k],rfl,hb,hlt,hc,by simp[World.frozen?,hg],hxk,fun y=>.mk (cur:=cur.setIfInBounds k (.int .i64 y)) hb ?_ (by simpa using hn) hm (by simpa using hs) ?_⟩
  ·simp[World.setCell,Array.getElem?_modify,hg]
  ·simp only[List.length_set,Array.toList_setIfInBounds,List.map_set,<-ht]
   rw[List.take_set]
theorem OwI.cell {g:Nat}(h:OwI w base (some ⟨g,0,none⟩) c xs){k:Nat}(hk:k<xs.length) :
  ∃ x,w.cell? ⟨g,k,none⟩=some (.int .i64 x)/\w.frozen? ⟨g,k,none⟩=false/\base<=g/\Hid (xs[k]?=some x)/\Hid (∀ y,OwI (w.setCell ⟨g,k,none⟩ (.int .i64 y)) base (some ⟨g,0,none⟩) c (xs.set k y)):=by
 obtain⟨g',x,hv,hb,hlt,hc,hf,hx,hs⟩:=h.at hk
 injection hv with h1
 injection h1 with h1
 subst h1;exact⟨x,hc,hf,hb,hx,hs⟩
theorem OwI.new {cs:Array Value}(hx:cs.toList=xs.map (Value.int .i64))(hb:base<=w.heap.size)(hm:xs.length<=maxLen) : OwI (w.alloc (.cells cs 3)) base (some ⟨w.heap.size,0,none⟩) xs.length xs:=by
 refine .mk (cur:=cs) hb (heap_alloc_new w _) (Nat.le_refl _) hm ?_ ?_
 ·rw[<-Array.length_toList,hx];simp
 ·rw[hx,List.take_of_length_le (by simp)]
end
theorem Ext.grow {a w w':World}{row:Option Nat}(h:Ext a w)(hg:w.grownBy w' row)(hr:∀ k,row=some k->a.heap.size<=k) : Ext a w':=Below.grown h hg h.size hr
theorem Ext.grownNone {a w w':World}(h:Ext a w)(hg:w.grownBy w' none) : Ext a w':=h.grow hg (fun k hk=>by cases hk)
structure Mod (S:Nat->Prop)(w w':World) : Prop where
 os:w'.os=w.os
 tape:w'.tape=w.tape
 output:w'.output=w.output
 size:w.heap.size<=w'.heap.size
 block:∀ k,k<w.heap.size->¬S k->w'.heap[k]?=w.heap[k]?
theorem Mod.of_ext {S:Nat->Prop}{w w':World}(h:Ext w w') : Mod S w w':=⟨h.os,h.tape,h.output,h.size,fun k hk _=>h.block k hk⟩
theorem Mod.rf {S:Nat->Prop}(w:World) : Mod S w w:=⟨rfl,rfl,rfl,Nat.le_refl _,fun _ _ _=>rfl⟩
theorem Mod.tr {S:Nat->Prop}{a b c:World}(h:Mod S a b)(k:Mod S b c) : Mod S a c :=
 ⟨k.os.trans h.os,k.tape.trans h.tape,k.output.trans h.output,Nat.le_trans h.size k.size,fun i hi hs=>(k.block i (Nat.lt_of_lt_of_le hi h.size) hs).trans (h.block i hi hs)⟩
theorem Mod.tr' {S S':Nat->Prop}{a b c:World}(h:Mod S a b)(k:Mod S' b c)(hS:∀ i,i<a.heap.size->S' i->S i) : Mod S a c :=
 ⟨k.os.trans h.os,k.tape.trans h.tape,k.output.trans h.output,Nat.le_trans h.size k.size,fun i hi hs=>(k.block i (Nat.lt_of_lt_of_le hi h.size) (fun h'=>hs (hS i hi h'))).trans (h.block i hi hs)⟩
theorem Mod.mono {S S':Nat->Prop}{a b:World}(h:Mod S a b)(hS:∀ i,i<a.heap.size->S i->S' i) : Mod S' a b :=
 ⟨h.os,h.tape,h.output,h.size,fun i hi hs=>h.block i hi (fun h'=>hs (hS i hi h'))⟩
theorem Mod.drewN {S:Nat->Prop}{a b:World}(h:Mod S a b)(n:Nat) : Mod S a (b.drewN n):=⟨h.os,h.tape,h.output,h.size,h.block⟩
theorem Mod.drew {S:Nat->Prop}{a b:World}(h:Mod S a b) : Mod S a b.drew:=⟨h.os,h.tape,h.output,h.size,h.block⟩
theorem Mod.alloc {S:Nat->Prop}{a b:World}(h:Mod S a b)(o:Obj) : Mod S a (b.alloc o):=h.tr (Mod.of_ext ((Ext.rf b).alloc o))
theorem Mod.set {S:Nat->Prop}{a b:World}(h:Mod S a b){p:Addr}(hp:S p.block\/a.heap.size<=p.block)(u:Value) : Mod S a (b.setCell p u) :=
 ⟨h.os,h.tape,h.output,by simpa [World.setCell] using h.size,fun i hi hs=>(Below.heap_setCell b p u i (by
  rintro rfl;rcases hp with hp | hp
  ·exact hs hp
  ·omega)).trans (h.block i hi hs)⟩
theorem Mod.below {S:Nat->Prop}{w w':World}(h:Mod S w w'){B:Nat}(hB:B<=w.heap.size)(hS:∀ k,k<B->¬S k) : Below B w w':=⟨h.os,h.tape,h.output,h.size,fun k hk=>h.block k (by omega) (hS k hk)⟩
theorem Ext.mod {S:Nat->Prop}{a w w':World}(h:Ext a w)(hm:Mod S w w')(hS:∀ k,k<a.heap.size->¬S k) : Ext a w':=Below.trans h (hm.below h.size hS)
theorem Mod.ext {S:Nat->Prop}{a w w':World}(h:Mod S a w)(hm:Ext w w') : Mod S a w':=h.tr (Mod.of_ext hm)
theorem Mod.grown {w w':World}{row:Option Nat}{S:Nat->Prop}(h:w.grownBy w' row)(hS:∀ g,row=some g->S g) : Mod S w w' :=
 ⟨h.os,h.tape,h.output,h.size,fun k hk hs=>h.block k hk (fun e=>hs (hS k e.symm))⟩
theorem Blk.mod {S:Nat->Prop}{w w':World}{g:Nat}{t:TypeId}{cs:Array Value}(h:Blk w g t cs)(hm:Mod S w w')(hg:¬S g) : Blk w' g t cs:=(hm.block g h.lt hg).trans h
theorem OwI.mod {S:Nat->Prop}{w w':World}{base:Nat}{A:Option Addr}{c:Nat}{xs:List Int}(h:OwI w base A c xs)(hm:Mod S w w')(hg:∀ g,bl A=some g->¬S g) : OwI w' base A c xs :=
 h.keep fun g hA=>hm.block g (h.lt g hA).2 (hg g hA)
theorem OwI.ne {w:World}{base:Nat}{A:Option Addr}{c:Nat}{xs:List Int}{g:Nat}{t:TypeId}{cs:Array Value}(h:OwI w base A c xs)(hg:Blk w g t cs)(ht:t≠3) : ∀ k,bl A=some k->¬k=g:=by
 rintro k hk rfl;rcases h.cases with⟨rfl,rfl,rfl⟩ | ⟨g',cur,rfl,hb',hh,_⟩
 ·simp[bl] at hk
 ·simp[bl] at hk
  subst hk;exact Blk.ne (show Blk w g' _ _ from hh) hg (Ne.symm ht) rfl
theorem OwI.far {w:World}{base:Nat}{A:Option Addr}{c:Nat}{xs:List Int}{g:Nat}{t:TypeId}{cs:Array Value}(h:OwI w base A c xs)(hg:Blk w g t cs)(ht:t≠3)(i:Nat)(u:Value) : OwI (w.setCell ⟨g,i,none⟩ u) base A c xs :=
 h.mod (S:=fun x=>x=g) (Mod.set (S:=fun x=>x=g) (p:=⟨g,i,none⟩) (Mod.rf w) (.inl rfl) u) (h.ne hg ht)
section
variable (w:World)
theorem Vc (base:Nat)(ty:TypeId)(A:Option Addr)(n cA:Nat)(xs ys:List Int)(B:Option Addr)(c:Nat)(hn:n=xs.length)(hown:OwI w base A cA xs)(hr:RdI w B ys)(hlen:xs.length+ys.length<=2^44)(hbase:base<=w.heap.size) :
  ∃ A' c' w',(Builtin.append_ #[22,22] ty #[.slice A n cA,.slice B ys.length c]).run Tryz.prog w=.ok (.slice A' (xs++ys).length c') w'/\OwI w' base A' c' (xs++ys)/\w.grownBy w' (bl A)/\(bl A'=bl A\/∃ g,bl A'=some g/\w.heap.size<=g):=by
 subst hn;obtain⟨i0,hi,hz0,hz1,hz2⟩:=info_parts Yp;have hmax:xs.length+ys.length<=maxLen:=by simp only[maxLen];omega
 rcases B with _ | ad
 ·have hy:ys=[]:=by
   rcases hr with h | ⟨b,off,h,_⟩
   ·exact h
   ·cases h
  subst hy;refine⟨A,cA,w,?_,by simpa using hown,⟨rfl,rfl,rfl,Nat.le_refl _,fun _ _ _=>rfl⟩,.inl rfl⟩;have hle:=hown.le.1;simp[Builtin.append_,run_underlying Tryz.underlying22,sizeOf,typeInfo,hi,Builtin.lenOf,Builtin.firstCells,hle]
  cases A<;>simp[storeCells]
 ·have hnews:∀ j u,(ys.map (Value.int .i64))[j]?=some u->w.cell? (ad.add j)=some u:=by
   intro j u hu;rw[List.getElem?_map] at hu;obtain⟨x,hx,rfl⟩:=Option.map_eq_some_iff.1 hu;rcases hr with rfl | ⟨b,off,h,_,hc⟩
   ·simp at hx
   ·injection h with h
    subst h;rw[add_plain];exact hc j x hx
  obtain⟨v',w',hrun,h2,h3,_,h5⟩:=run_append_own_at (P:=Tryz.prog) w base 22 ty 3 i0 _ 1 8 Tryz.underlying22 hi hz0 hz1 hz2 rfl (by decide) _ xs.length _ hown ad ys.length c (ys.map (Value.int .i64)) (by simp) hnews (by simp[Value.oneCell']) hmax (by omega) hbase;rw[YY] at h3 h5;have hv:∃ A' c',v'=.slice A' (xs++ys).length c':=by
   rcases h2.2 with⟨rfl,h0⟩ | ⟨g,cap,cur,rfl,_⟩
   ·exact⟨none,0,by rw[List.length_append,h0]⟩
   ·exact⟨some ⟨g,0,none⟩,cap,by simp⟩
  obtain⟨A',c',rfl⟩:=hv;rw[YY] at h5;refine⟨A',c',w',hrun,by simpa [OwI] using h2,h3,?_⟩;rcases h5 with h5 | h5
  ·exact .inl h5
  ·exact .inr ⟨_,h5,Nat.le_refl _⟩
theorem Yw {ops:Array Oper}{rest:List Oper}{o:Oper}{a:Act}{Q:Exit->Act->World->Prop}(hgd:o.guard=none)(s x:Operand)
  (ho:o.op=.call { callee:=.builtin .append,args:=#[s,x],argTypes:=#[22,22] })
  (base:Nat) (A:Option Addr) (n cA:Nat) (xs ys:List Int) (B:Option Addr) (c:Nat) (hs:a.eval s=.slice A n cA) (hx:a.eval x=.slice B ys.length c) (hn:n=xs.length) (hown:OwI w base A cA xs) (hr:RdI w B ys) (hlen:xs.length+ys.length<=2^44) (hbase:base<=w.heap.size)
  (h:∀ A' c' w',OwI w' base A' c' (xs++ys)->w.grownBy w' (bl A)->(bl A'=bl A\/∃ g,bl A'=some g/\w.heap.size<=g)->wpList Tryz.prog ops Q rest (a.put o.dst (.slice A' (xs++ys).length c')) w'):wpList Tryz.prog ops Q (o::rest) a w :=
 wpList_plain hgd fun _ hK=>by
  obtain⟨A',c',w',hrun,h2,h3,h4⟩:=Vc w base o.type A n cA xs ys B c hn hown hr hlen hbase;unfold Oper.wp execOp;simp only[ho,resolve,invoke,builtin,Sem.run_bind,Sem.run_pure,Result.andThen_ok,List.map_toArray,List.map_cons,List.map_nil,hs,hx,hrun];exact hK _ _ (h A' c' w' h2 h3 h4)
theorem Wg {ops:Array Oper}{o:Oper}{a:Act}{K:Act->World->Prop}{Q:Exit->Act->World->Prop}{E:Prop}(hgd:o.guard=none)(s x:Operand)
  (ho:o.op=.call { callee:=.builtin .append,args:=#[s,x],argTypes:=#[22,22] })
  (base:Nat) (A:Option Addr) (n cA:Nat) (xs ys:List Int) (B:Option Addr) (c:Nat) (hs:a.eval s=.slice A n cA) (hx:a.eval x=.slice B ys.length c) (hn:n=xs.length) (hown:OwI w base A cA xs) (hr:RdI w B ys) (hlen:xs.length+ys.length<=2^44) (hbase:base<=w.heap.size)
  (h:∀ A' c' w',OwI w' base A' c' (xs++ys)->w.grownBy w' (bl A)->(bl A'=bl A\/∃ g,bl A'=some g/\w.heap.size<=g)->K (a.put o.dst (.slice A' (xs++ys).length c')) w') :
  if Region.wanted o (yielded ops a.tmps)=true then Oper.wp Tryz.prog o a w K Q else E:=by
 have hw:Region.wanted o (yielded ops a.tmps)=true:=by simp[Region.wanted,hgd]
 rw[if_pos hw];obtain⟨A',c',w',hrun,h2,h3,h4⟩:=Vc w base o.type A n cA xs ys B c hn hown hr hlen hbase;unfold Oper.wp execOp;simp only[ho,resolve,invoke,builtin,Sem.run_bind,Sem.run_pure,Result.andThen_ok,List.map_toArray,List.map_cons,List.map_nil,hs,hx,hrun];exact h A' c' w' h2 h3 h4
theorem Wh {ops:Array Oper}{rest:List Oper}{o:Oper}{a:Act}{Q:Exit->Act->World->Prop}(hgd:o.guard=none)(l c:Operand)(hop:o.op=Op.makeSlice 22 l c)
  (base:Nat) (L C:Int) (n:Nat) (hl:a.eval l=.int .i64 L) (hc:a.eval c=.int .i64 C) (hL:L=(n:Int)) (hC:C=(n:Int)) (hn:n<=2^44) (hbase:base<=w.heap.size)
  (hK:∀ w',OwI w' base (some ⟨w.heap.size,0,none⟩) n (List.replicate n 0)->w.grownBy w' none->wpList Tryz.prog ops Q rest (a.put o.dst (.slice (some ⟨w.heap.size,0,none⟩) n n)) w') :
  wpList Tryz.prog ops Q (o::rest) a w:=by
 obtain⟨i0,hi,hz0,hz1,hz2⟩:=info_parts Yp;refine wpList_make_full w hgd l c _ hop base 3 i0 _ 1 Tryz.underlying22 hi hz0 hz1 .i64 .i64 L C n hl hc hL hC (by rw[hz2];omega) (by simp only[maxLen];omega) hbase (fun w' h2 h3=>hK w' ?_ h3);have e:(madeCells (Value.int .i64 0).cells (n*1)).toList=(List.replicate n (0:Int)).map (Value.int .i64):=by
  simp[madeCells,Value.cells,List.map_const',Nat.mod_one]
 rw[e] at h2
 simpa [OwI] using h2
end
theorem ZbM (u:World)(A:Option Addr)(n c:Nat) : (binOp .eql 22 (.slice A n c) (.slice none 0 0)).run Tryz.prog u=.ok (.bool A.isNone) u:=Lib.run_eql_slice_nil u _ 3 _ _ _ _ _ Tryz.underlying22
theorem OwI.empty {w:World}{base g:Nat}(h:Blk w g 3 #[])(hb:base<=g) : OwI w base (some ⟨g,0,none⟩) 0 []:=.mk hb h (Nat.le_refl _) ZQ rfl rfl
theorem Blk.grown {w w':World}{g:Nat}{t:TypeId}{cs:Array Value}{row:Option Nat}(h:Blk w g t cs)(hb:w.grownBy w' row)(hg:row≠some g) : Blk w' g t cs:=(hb.block g h.lt (fun e=>hg e.symm)).trans h
section
variable (w:World)
theorem ZaV (base:Nat)(ty:TypeId)(g:Nat)(ys:List Int)(B:Option Addr)(c:Nat)(hg:Blk w g 3 #[])(hb:base<=g)(hr:RdI w B ys)(hlen:ys.length<=2^44) :
  ∃ A' c' w',(Builtin.append_ #[22,22] ty #[.slice (some ⟨g,0,none⟩) 0 0,.slice B ys.length c]).run Tryz.prog w=.ok (.slice A' ys.length c') w'/\OwI w' base A' c' ys/\Ext w w':=by
 obtain⟨i0,hi,hz0,hz1,hz2⟩:=info_parts Yp
 by_cases hy:ys=[]
 ·subst hy
  refine⟨some ⟨g,0,none⟩,0,w,?_,.empty hg hb,Ext.rf _⟩;rcases B with _ | ad
  ·simp[Builtin.append_,run_underlying Tryz.underlying22,sizeOf,typeInfo,hi,Builtin.lenOf,Builtin.firstCells,storeCells]
  ·simp[Builtin.append_,run_underlying Tryz.underlying22,sizeOf,typeInfo,hi,Builtin.lenOf,Builtin.firstCells,storeCells,loadCells,loadCellsFrom]
 ·have h0:0<ys.length:=List.length_pos_iff.2 hy
  obtain⟨b,off,rfl,hc⟩:∃ b off,B=some ⟨b,off,none⟩/\∀ j x,ys[j]?=some x->w.cell? ⟨b,off+j,none⟩=some (.int .i64 x):=by
   rcases hr with h | ⟨b,off,h,_,hc⟩
   ·exact absurd h hy
   ·exact⟨b,off,h,hc⟩
  have hnews:∀ j u,(ys.map (Value.int .i64))[j]?=some u->w.cell? ((⟨b,off,none⟩:Addr).add j)=some u:=by
   intro j u hu;rw[List.getElem?_map] at hu;obtain⟨x,hx,rfl⟩:=Option.map_eq_some_iff.1 hu;rw[add_plain];exact hc j x hx
  have hrun:=run_append_grow (P:=Tryz.prog) w 22 ty 3 i0 _ Tryz.underlying22 hi hz0 ⟨g,0,none⟩ 0 0 [] (by simp) (fun j u h=>by simp at h) ⟨b,off,none⟩ ys.length c (ys.map (Value.int .i64)) (by simp[hz1]) hnews (by omega) (by omega) (growslice_fits (by omega) (by rw[hz2];omega));have hge:=grownCap_ge w (0+ys.length) 0 3;have hle:=grownCap_le_maxLen w (0+ys.length) 0 3 (by simp only[maxLen];omega);simp only[Nat.zero_add,List.nil_append] at hrun hge hle;refine⟨_,_,_,hrun,.mk (cur:=_) (Nat.le_trans hb (Nat.le_of_lt hg.lt)) (heap_alloc_new w.drew _) hge hle ?_ ?_,((Ext.rf w).drew).alloc _⟩
  ·simp[Builtin.zeroCells,Value.cells];omega
  ·simp[Builtin.zeroCells,Value.cells]
theorem ZaW {ops:Array Oper}{rest:List Oper}{o:Oper}{a:Act}{Q:Exit->Act->World->Prop}(hgd:o.guard=none)(s x:Operand)
  (ho:o.op=.call { callee:=.builtin .append,args:=#[s,x],argTypes:=#[22,22] })
  (base g:Nat) (ys:List Int) (B:Option Addr) (c:Nat) (hs:a.eval s=.slice (some ⟨g,0,none⟩) 0 0) (hx:a.eval x=.slice B ys.length c) (hg:Blk w g 3 #[]) (hb:base<=g) (hr:RdI w B ys) (hlen:ys.length<=2^44)
  (h:∀ A' c' w',OwI w' base A' c' ys->Ext w w'->wpList Tryz.prog ops Q rest (a.put o.dst (.slice A' ys.length c')) w'):wpList Tryz.prog ops Q (o::rest) a w :=
 wpList_plain hgd fun _ hK=>by
  obtain⟨A',c',w',hrun,h2,h3⟩:=ZaV w base o.type g ys B c hg hb hr hlen;unfold Oper.wp execOp;simp only[ho,resolve,invoke,builtin,Sem.run_bind,Sem.run_pure,Result.andThen_ok,List.map_toArray,List.map_cons,List.map_nil,hs,hx,hrun];exact hK _ _ (h A' c' w' h2 h3)
end
theorem Vd (A:Option Addr)(c:Nat)(xs:List Int)(w:World)(hx:RdI w A xs)(hl:xs.length<=2^44) :
  Calls Tryz.prog 35 #[.slice A xs.length c] w fun e w'=>∃ A' c',e=.returned (.slice A' xs.length c')/\OwI w' w.heap.size A' c' xs/\Ext w w':=by
 rcases A with _ | ⟨b,off,sp⟩
 ·have h0:xs=[]:=by
   rcases hx with h | ⟨_,_,h,_⟩
   ·exact h
   ·cases h
  subst h0;clear hl hx;have hnil:=fun u:World=>ZbM u none 0 c
  simp only[List.length_nil];go_enter Tryz.func35,Tryz.ntmps35;go_wp2;go_ret;exact⟨_,_,rfl,OwI.nil _ _,Ext.rf _⟩
 ·have hnil:=fun u:World=>ZbM u (some ⟨b,off,sp⟩) xs.length c
  go_enter Tryz.func35,Tryz.ntmps35;go_wp2_with (at_builtin;refine Yw _ rfl _ _ rfl w.heap.size (some ⟨w.heap.size,0,none⟩) 0 0 [] xs (some ⟨b,off,sp⟩) c rfl rfl rfl (by exact OwI.new (xs:=[]) rfl (Nat.le_refl _) ZQ) (by exact hx.ext ((Ext.rf _).alloc _)) (by simpa using hl) (by simp) ?_;rintro A1 c1 w1 hown hg _);go_ret;exact⟨_,_,rfl,hown,((Ext.rf w).alloc _).grow hg (by intro k hk;simp[bl] at hk;omega)⟩
end Go.Proofs.YtmojhhlcocjoaaaGreatDoor
namespace Go.Proofs.YtmojhhlcocjoaaaGreatDoor
open Go.RowKit Go.ChangeShapes Go.WideShapes Go.ChangeAt Go.Deep
def RdE {α:Type}(size:Nat)(R:World->List Value->α->Prop)(w:World)(A:Option Addr)(xs:List α) : Prop :=
 xs=[]\/∃ b off,A=some ⟨b,off,none⟩/\b<w.heap.size/\∀ i x,xs[i]?=some x->∃ cs:List Value,R w cs x/\cs.length=size/\∀ j v,cs[j]?=some v->w.cell? ⟨b,off+i*size+j,none⟩=some v
section
variable {α:Type} {size:Nat} {R:World->List Value->α->Prop} {w w':World} {A:Option Addr} {xs:List α}
theorem RdE.ext (h:RdE size R w A xs)(hb:Ext w w')(hR:∀ cs x,R w cs x->R w' cs x) : RdE size R w' A xs:=by
 rcases h with rfl | ⟨b,off,rfl,hlt,hc⟩
 ·exact .inl rfl
 ·refine .inr ⟨b,off,rfl,Nat.lt_of_lt_of_le hlt hb.size,fun i x hi=>?_⟩
  obtain⟨cs,h1,h2,h3⟩:=hc i x hi;exact⟨cs,hR _ _ h1,h2,fun j v hj=>by rw[hb.cell hlt];exact h3 j v hj⟩
theorem RdE.at (h:RdE size R w A xs){i:Nat}(hi:i<xs.length) : ∃ b off cs x,A=some ⟨b,off,none⟩/\b<w.heap.size/\R w cs x/\cs.length=size/\(∀ j v,cs[j]?=some v->w.cell? ⟨b,off+i*size+j,none⟩=some v)/\Hid (xs[i]?=some x):=by
 rcases h with rfl | ⟨b,off,rfl,hlt,hc⟩
 ·simp at hi
 ·obtain⟨cs,h1,h2,h3⟩:=hc i xs[i] (List.getElem?_eq_getElem hi)
  exact⟨b,off,cs,xs[i],rfl,hlt,h1,h2,h3,List.getElem?_eq_getElem hi⟩
end
section
variable {H:Type} {enc:TypeId×Value->H} {W:World}
def Js {α:Type}(enc:TypeId×Value->H)(W:World)(e:TypeId)(R:World->List Value->α->Prop) : Prop :=
 ∀ (fuel:Nat) (cs:List Value) (x:DataW H×List MemPlace),DataW.trod enc Tryz.prog W 0 (fun _=>true) true fuel e cs=some x->∃ a:α,R W cs a
theorem Zdi {α:Type}{n:Nat}{P:Nat->α->Prop}(h:∀ i,i<n->∃ a,P i a) : ∃ xs:List α,xs.length=n/\∀ i x,xs[i]?=some x->P i x:=by
 induction n with
 | zero=>exact⟨[],rfl,fun i x hx=>by simp at hx⟩
 | succ n ih =>
  obtain⟨xs,h1,h2⟩:=ih fun i hi=>h i (by omega)
  obtain⟨a,ha⟩:=h n (by omega);refine⟨xs++[a],by simp[h1],fun i x hx=>?_⟩
  by_cases hi:i<xs.length
  ·rw[List.getElem?_append_left hi] at hx
   exact h2 i x hx
  ·rw[List.getElem?_append_right (by omega)] at hx
   obtain⟨h0,hx⟩:=List.getElem?_eq_some_iff.1 hx;have:i=n:=by simp at h0;omega
   subst this;simp at hx;subst hx;exact ha
theorem Zdj {α:Type}{t e:TypeId}{size:Nat}{R:World->List Value->α->Prop}(ht:Tryz.prog.underlying t=some (.slice e))(hsz:Tryz.prog.cellsOf e=size)(h0:0<size)(hR:Js enc W e R)
  {fuel:Nat} {cs:List Value} {x:DataW H×List MemPlace} (h:DataW.trod enc Tryz.prog W 0 (fun _=>true) true fuel t cs=some x) :
  ∃ (A:Option Addr) (xs:List α) (c:Nat),cs=[.slice A xs.length c]/\RdE size R W A xs/\xs.length<=c/\c<=maxLen:=by
 rcases open_slice ht h with⟨rfl,_⟩ | ⟨a,len,cap,m,n,D,Pl,rfl,_,hl,hm,hmm,_,hi⟩
 ·exact⟨none,[],0,rfl,.inl rfl,Nat.le_refl 0,ZQ⟩
 ·simp only[if_true] at hmm
  subst hmm;have each:∀ i,i<len->∃ y:α,∃ cs':List Value,R W cs' y/\cs'.length=size/\∀ j v,cs'[j]?=some v->W.cell? (a.add (i*size+j))=some v:=by
   intro i hil;obtain⟨cs',hc,ht'⟩:=hi i (by omega);obtain⟨y,hy⟩:=hR _ _ _ ht';obtain⟨_,hcl,hat⟩:=World.cells?_some hc;refine⟨y,cs',hy,by rw[hcl,hsz],fun j v hj=>?_⟩;have hjl:j<Tryz.prog.cellsOf e:=by rw[<-hcl];exact(List.getElem?_eq_some_iff.1 hj).1
   have:=hat j hjl;rw[hj,hsz,Go.Deep.add_add] at this;exact this
  obtain⟨xs,hx1,hx2⟩:=Zdi each;subst hx1;refine⟨some a,xs,_,rfl,?_,hl,hm⟩
  by_cases hx0:xs=[]
  ·exact .inl hx0
  ·obtain⟨y0,hy0⟩:∃ y,xs[0]?=some y:=by
    cases xs with
    | nil=>exact absurd rfl hx0
    | cons y ys=>exact⟨y,rfl⟩
   obtain⟨cs0,_,hl0,hc0⟩:=hx2 0 y0 hy0;have hv:cs0[0]?=some (cs0[0]'(by omega)):=List.getElem?_eq_getElem (by omega);have hcell:=hc0 0 _ hv;obtain⟨b,off,spot⟩:=a;have hspot:spot=none:=by simpa [Addr.add] using World.cell?_spot hcell
   subst hspot;refine .inr ⟨b,off,rfl,by simpa [Addr.add] using World.block_lt_of_cell? W _ hcell,fun i y hy=>?_⟩;obtain⟨cs',h1,h2,h3⟩:=hx2 i y hy;exact⟨cs',h1,h2,fun j v hj=>by rw[Nat.add_assoc,<-add_plain];exact h3 j v hj⟩
def Zfi (_:World)(cs:List Value)(x:Int) : Prop:=cs=[.int .i64 x]/\-9223372036854775808<=x/\x<=9223372036854775807
theorem Ve : Js enc W 3 Zfi:=fun fuel cs x h=>by
 obtain⟨n,rfl,_,hw⟩:=DataW.trod_int Tryz.underlying3 h;exact⟨n,rfl,ZeW hw⟩
def RInts (w:World)(cs:List Value)(l:List Int) : Prop:=∃ A c,cs=[.slice A l.length c]/\RdI w A l/\Ints l/\l.length<=c/\c<=maxLen
theorem RInts.ext {w w':World}{cs:List Value}{l:List Int}(h:RInts w cs l)(hb:Ext w w') : RInts w' cs l:=by
 obtain⟨A,c,h1,h2,h3⟩:=h;exact⟨A,c,h1,h2.ext hb,h3⟩
theorem Vs : Js enc W 22 RInts:=fun fuel cs x h=>by
 obtain⟨A,xs,c,rfl,h1,h2,h3⟩:=Zdj Tryz.underlying22 Vb (by omega) Ve h;refine⟨xs,A,c,rfl,?_,?_,h2,h3⟩
 ·rcases h1 with rfl | ⟨b,off,rfl,hb,hc⟩
  ·exact .inl rfl
  ·refine .inr ⟨b,off,rfl,hb,fun j x hj=>?_⟩
   obtain⟨cs,⟨rfl,_⟩,_,hcell⟩:=hc j x hj;have:=hcell 0 _ rfl
   simpa using this
 ·intro x hx
  rcases h1 with rfl | ⟨b,off,rfl,hb,hc⟩
  ·cases hx
  ·obtain⟨i,hi,rfl⟩:=List.mem_iff_getElem.1 hx
   obtain⟨cs,⟨_,hbd⟩,_⟩:=hc i xs[i] (List.getElem?_eq_getElem hi);exact hbd
theorem Zdk {t:TypeId}{fs:Array Field}{fuel:Nat}{cs:List Value}{x:DataW H×List MemPlace}(ht:Tryz.prog.underlying t=some (.struct fs))(h:DataW.trod enc Tryz.prog W 0 (fun _=>true) true fuel t cs=some x) :
  cs.length=Tryz.prog.cellsOf t/\∀ (i:Nat) (f:Field),fs[i]?=some f->∃ n y,DataW.trod enc Tryz.prog W 0 (fun _=>true) true n f.type ((cs.drop f.offset).take (Tryz.prog.cellsOf f.type))=some y:=by
 obtain⟨xs,n,_,_,hlen,hl,hf⟩:=DataW.trod_struct ht h;refine⟨hlen,fun i f hi=>?_⟩;have hlt:i<xs.length:=by rw[hl];exact(Array.getElem?_eq_some_iff.1 hi).1
 exact⟨n,xs[i],by rw[hf i f hi];exact List.getElem?_eq_getElem hlt⟩
theorem XU {t:TypeId}{fs:Array Field}{fuel:Nat}{cs:List Value}{x:DataW H×List MemPlace}(ht:Tryz.prog.underlying t=some (.struct fs))(h:DataW.trod enc Tryz.prog W 0 (fun _=>true) true fuel t cs=some x)
  (i:Nat) (ft:TypeId) (o s:Nat) (hf:(fs[i]?).map (fun f=>(f.type,f.offset))=some (ft,o)) (hs:Tryz.prog.cellsOf ft=s):∃ n y,DataW.trod enc Tryz.prog W 0 (fun _=>true) true n ft ((cs.drop o).take s)=some y:=by
 obtain⟨f,hf1,hf2⟩:=Option.map_eq_some_iff.1 hf;simp only[Prod.mk.injEq] at hf2;obtain⟨rfl,rfl⟩:=hf2;subst hs;exact(Zdk ht h).2 i f hf1
end
end Go.Proofs.YtmojhhlcocjoaaaGreatDoor
namespace Go.Proofs.YtmojhhlcocjoaaaGreatDoor
open Go.RowKit Go.ChangeShapes Go.WideShapes Go.ChangeAt
def RdV (w:World)(e:TypeId)(A:Option Addr)(vs:List Value) : Prop :=
 vs=[]\/∃ b off cur,A=some ⟨b,off,none⟩/\w.heap[b]?=some (.cells cur e (0,0))/\∀ j v,vs[j]?=some v->cur[off+j]?=some v
def RdC (w:World)(A:Option Addr)(vs:List Value) : Prop :=
 vs=[]\/∃ b off,A=some ⟨b,off,none⟩/\b<w.heap.size/\∀ j v,vs[j]?=some v->w.cell? ⟨b,off+j,none⟩=some v
section
variable {w w':World} {e:TypeId} {A:Option Addr} {vs:List Value}
theorem RdV.nil (w:World)(e:TypeId)(A:Option Addr) : RdV w e A []:=.inl rfl
theorem RdV.rdC (h:RdV w e A vs) : RdC w A vs:=by
 rcases h with rfl | ⟨b,off,cur,rfl,hb,hc⟩
 ·exact .inl rfl
 ·exact .inr ⟨b,off,rfl,(Array.getElem?_eq_some_iff.1 hb).1,fun j v hj=>by rw[cell_of_row w b _ cur e (0,0) hb];exact hc j v hj⟩
theorem RdC.ext (h:RdC w A vs)(hb:Ext w w') : RdC w' A vs:=by
 rcases h with rfl | ⟨b,off,rfl,hlt,hc⟩
 ·exact .inl rfl
 ·exact .inr ⟨b,off,rfl,Nat.lt_of_lt_of_le hlt hb.size,fun j v hj=>by rw[hb.cell hlt];exact hc j v hj⟩
theorem RdV.keep (h:RdV w e A vs)(hb:∀ b,bl A=some b->w'.heap[b]?=w.heap[b]?) : RdV w' e A vs:=by
 rcases h with rfl | ⟨b,off,cur,rfl,hh,hc⟩
 ·exact .inl rfl
 ·exact .inr ⟨b,off,cur,rfl,(hb b rfl).trans hh,hc⟩
theorem RdV.lt (h:RdV w e A vs)(hne:vs≠[]) : ∀ b,bl A=some b->b<w.heap.size:=by
 intro b hb;rcases h with rfl | ⟨b',off,cur,rfl,hh,hc⟩
 ·exact absurd rfl hne
 ·simp[bl] at hb
  subst hb;exact(Array.getElem?_eq_some_iff.1 hh).1
theorem RdV.ext (h:RdV w e A vs)(hx:Ext w w') : RdV w' e A vs:=by
 rcases h with rfl | ⟨b,off,cur,rfl,hh,hc⟩
 ·exact .inl rfl
 ·exact .inr ⟨b,off,cur,rfl,(hx.block b (Array.getElem?_eq_some_iff.1 hh).1).trans hh,hc⟩
theorem RdV.mod {S:Nat->Prop}(h:RdV w e A vs)(hm:Mod S w w')(hS:∀ k cur,w.heap[k]?=some (.cells cur e (0,0))->¬S k) : RdV w' e A vs:=by
 rcases h with rfl | ⟨b,off,cur,rfl,hh,hc⟩
 ·exact .inl rfl
 ·exact .inr ⟨b,off,cur,rfl,(hm.block b (Array.getElem?_eq_some_iff.1 hh).1 (hS b cur hh)).trans hh,hc⟩
theorem RdV.blk {b:Nat}{cs:Array Value}(h:Blk w b e cs) : RdV w e (some ⟨b,0,none⟩) cs.toList :=
 .inr ⟨b,0,cs,rfl,h,fun j v hj=>by simpa using hj⟩
theorem RdV.at (h:RdV w e A vs){j:Nat}(hj:j<vs.length) : ∃ b off v,A=some ⟨b,off,none⟩/\b<w.heap.size/\w.cell? ⟨b,off+j,none⟩=some v/\Hid (vs[j]?=some v):=by
 rcases h.rdC with rfl | ⟨b,off,rfl,hlt,hc⟩
 ·simp at hj
 ·exact⟨b,off,vs[j],rfl,hlt,hc j _ (List.getElem?_eq_getElem hj),List.getElem?_eq_getElem hj⟩
theorem RdV.form (h:RdV w e A vs)(hne:vs≠[]) : ∃ b off,A=some ⟨b,off,none⟩/\b<w.heap.size/\∀ j v,vs[j]?=some v->w.cell? ⟨b,off+j,none⟩=some v:=by
 rcases h.rdC with rfl | ⟨b,off,rfl,hlt,hc⟩
 ·exact absurd rfl hne
 ·exact⟨b,off,rfl,hlt,hc⟩
theorem RdV.drop (h:RdV w e A vs)(k:Nat) : RdV w e (A.map (·.add k)) (vs.drop k):=by
 rcases h with rfl | ⟨b,off,cur,rfl,hh,hc⟩
 ·exact .inl (by simp)
 ·refine .inr ⟨b,off+k,cur,by simp[add_plain],hh,fun j v hj=>?_⟩
  rw[List.getElem?_drop] at hj;rw[Nat.add_assoc];exact hc _ v hj
theorem RdV.take (h:RdV w e A vs)(k:Nat) : RdV w e A (vs.take k):=by
 rcases h with rfl | ⟨b,off,cur,rfl,hh,hc⟩
 ·exact .inl (by simp)
 ·refine .inr ⟨b,off,cur,rfl,hh,fun j v hj=>?_⟩
  rw[List.getElem?_take] at hj;split at hj
  ·exact hc j v hj
  ·cases hj
end
def OwV (w:World)(base:Nat)(e:TypeId)(size:Nat)(A:Option Addr)(n c:Nat)(vs:List Value) : Prop:=w.ownsRow base e size (.slice A n c) n vs
section
variable {w w':World} {base:Nat} {e:TypeId} {size:Nat} {A:Option Addr} {n c:Nat} {vs:List Value}
theorem OwV.nil (w:World)(base:Nat)(e:TypeId)(size:Nat) : OwV w base e size none 0 0 []:=World.ownsRow_nil _ _ _ _
theorem OwV.cases (h:OwV w base e size A n c vs) : (A=none/\c=0/\n=0/\vs=[])\/∃ g cur,A=some ⟨g,0,none⟩/\base<=g/\w.heap[g]?=some (.cells cur e (0,0))/\n<=c/\c<=maxLen/\cur.size=c*size/\cur.toList.take (n*size)=vs:=by
 rcases h.2 with⟨hv,h0⟩ | ⟨g,cap,cur,hv,hb,hg,hn,hm,hs,ht⟩
 ·injection hv with h1 _ h3
  have:=h.1;rw[h0,Nat.zero_mul] at this;exact .inl ⟨h1,h3,h0,List.eq_nil_of_length_eq_zero this⟩
 ·injection hv with h1 _ h3
  subst h1 h3;exact .inr ⟨g,cur,rfl,hb,hg,hn,hm,hs,ht⟩
theorem OwV.mk {g:Nat}{cur:Array Value}(hb:base<=g)(hg:w.heap[g]?=some (.cells cur e (0,0)))(hn:n<=c)(hm:c<=maxLen)(hs:cur.size=c*size)(ht:cur.toList.take (n*size)=vs) : OwV w base e size (some ⟨g,0,none⟩) n c vs :=
 ⟨by rw[<-ht,List.length_take,Array.length_toList,hs];exact Nat.min_eq_left (Nat.mul_le_mul_right _ hn),.inr ⟨g,c,cur,rfl,hb,hg,hn,hm,hs,ht⟩⟩
theorem OwV.le (h:OwV w base e size A n c vs) : n<=c/\c<=maxLen:=by
 rcases h.cases with⟨rfl,rfl,rfl,rfl⟩ | ⟨g,cur,rfl,hb,hg,hn,hm,_⟩
 ·exact⟨Nat.le_refl _,ZQ⟩
 ·exact⟨hn,hm⟩
theorem OwV.len (h:OwV w base e size A n c vs) : vs.length=n*size:=h.1
theorem OwV.read (h:OwV w base e size A n c vs) : RdV w e A vs:=by
 rcases h.cases with⟨rfl,rfl,rfl,rfl⟩ | ⟨g,cur,rfl,hb,hg,hn,hm,hs,ht⟩
 ·exact .inl rfl
 ·refine .inr ⟨g,0,cur,rfl,hg,fun j v hj=>?_⟩
  rw[<-ht,List.getElem?_take] at hj;split at hj
  ·simpa using hj
  ·cases hj
theorem OwV.keep (h:OwV w base e size A n c vs)(hb:∀ g,bl A=some g->w'.heap[g]?=w.heap[g]?) : OwV w' base e size A n c vs:=by
 rcases h.cases with⟨rfl,rfl,rfl,rfl⟩ | ⟨g,cur,rfl,hb',hg,hn,hm,hs,ht⟩
 ·exact OwV.nil _ _ _ _
 ·exact .mk hb' ((hb g rfl).trans hg) hn hm hs ht
theorem OwV.lt (h:OwV w base e size A n c vs) : ∀ k,bl A=some k->base<=k/\k<w.heap.size:=by
 intro k hk;rcases h.cases with⟨rfl,rfl,rfl,rfl⟩ | ⟨g,cur,rfl,hb',hg,_⟩
 ·simp[bl] at hk
 ·simp[bl] at hk
  subst hk;exact⟨hb',(Array.getElem?_eq_some_iff.1 hg).1⟩
theorem OwV.ext (h:OwV w base e size A n c vs)(hb:Ext w w') : OwV w' base e size A n c vs:=h.keep fun g hg=>hb.block g (h.lt g hg).2
theorem OwV.more {base':Nat}(h:OwV w base e size A n c vs)(hb:base'<=base) : OwV w base' e size A n c vs:=by
 rcases h.cases with⟨rfl,rfl,rfl,rfl⟩ | ⟨g,cur,rfl,hb',hg,hn,hm,hs,ht⟩
 ·exact OwV.nil _ _ _ _
 ·exact .mk (Nat.le_trans hb hb') hg hn hm hs ht
theorem OwV.mod {S:Nat->Prop}(h:OwV w base e size A n c vs)(hm:Mod S w w')(hg:∀ g,bl A=some g->¬S g) : OwV w' base e size A n c vs :=
 h.keep fun g hA=>hm.block g (h.lt g hA).2 (hg g hA)
theorem OwV.ne {g:Nat}{t:TypeId}{cs:Array Value}(h:OwV w base e size A n c vs)(hg:Blk w g t cs)(ht:t≠e) : ∀ k,bl A=some k->¬k=g:=by
 rintro k hk rfl;rcases h.cases with⟨rfl,rfl,rfl,rfl⟩ | ⟨g',cur,rfl,hb',hh,_⟩
 ·simp[bl] at hk
 ·simp[bl] at hk
  subst hk;exact Blk.ne (show Blk w g' _ _ from hh) hg (Ne.symm ht) rfl
theorem OwV.set {g:Nat}(h:OwV w base e size (some ⟨g,0,none⟩) n c vs){j:Nat}(hj:j<vs.length)(u:Value) :
  w.cell? ⟨g,j,none⟩=vs[j]?/\w.frozen? ⟨g,j,none⟩=false/\base<=g/\OwV (w.setCell ⟨g,j,none⟩ u) base e size (some ⟨g,0,none⟩) n c (vs.set j u):=by
 rcases h.cases with⟨h0,_⟩ | ⟨g',cur,hA,hb,hg,hn,hm,hs,ht⟩
 ·cases h0
 ·injection hA with hA
  injection hA with hA
  subst hA;refine⟨?_,by simp[World.frozen?,hg],hb,.mk (cur:=cur.setIfInBounds j u) hb ?_ hn hm (by simpa using hs) ?_⟩
  ·rw[cell_of_row w g _ cur _ (0,0) hg,<-ht,List.getElem?_take,if_pos]
   ·simp
   ·rw[<-ht,List.length_take] at hj
    omega
  ·simp[World.setCell,Array.getElem?_modify,hg]
  ·simp only[Array.toList_setIfInBounds,<-ht]
   rw[List.take_set]
theorem OwV.full {g:Nat}{cs:Array Value}(h:Blk w g e cs)(hb:base<=g)(hs:cs.size=n*size)(hm:n<=maxLen) : OwV w base e size (some ⟨g,0,none⟩) n n cs.toList :=
 .mk hb h (Nat.le_refl _) hm hs (List.take_of_length_le (by rw[Array.length_toList,hs];exact Nat.le_refl _))
end
section
variable (w:World) {t e:TypeId} {i:TypeInfo} {z:Value} {size bytes:Nat} (ht:Tryz.prog.underlying t=some (.slice e)) (hi:Tryz.prog.info? e=some i) (hz:i.zero=some z) (hsize:i.size=size) (hby:i.bytes=bytes) (hzs:z.cells.size=size) (hsz:0<size)
include ht hi hz hsize hby hzs hsz
theorem Vf (base:Nat)(ty:TypeId)(A:Option Addr)(n cA:Nat)(xs:List Value)(B:Option Addr)(m c:Nat)(ys:List Value)(hown:OwV w base e size A n cA xs)(hr:RdC w B ys)(hm:ys.length=m*size)(h1:∀ u∈ys,u.oneCell'=true)
  (h63:n+m<=maxLen) (hbytes:(n+m)*bytes<=140737488355328) (hbase:base<=w.heap.size) :
  ∃ A' c' w',(Builtin.append_ #[t,t] ty #[.slice A n cA,.slice B m c]).run Tryz.prog w=.ok (.slice A' (n+m) c') w'/\OwV w' base e size A' (n+m) c' (xs++ys)/\w.grownBy w' (bl A)/\(bl A'=bl A\/bl A'=some w.heap.size):=by
 rcases B with _ | ad
 ·have hy:ys=[]:=by
   rcases hr with h | ⟨b,off,h,_⟩
   ·exact h
   ·cases h
  subst hy;have hm0:m=0:=by
   simp only[List.length_nil] at hm;rcases Nat.eq_zero_or_pos m with h | h
   ·exact h
   ·have:=Nat.mul_pos h hsz;omega
  subst hm0;refine⟨A,cA,w,?_,by simpa using hown,⟨rfl,rfl,rfl,Nat.le_refl _,fun _ _ _=>rfl⟩,.inl rfl⟩;have hle:=hown.le.1;simp[Builtin.append_,run_underlying ht,sizeOf,typeInfo,hi,Builtin.lenOf,Builtin.firstCells,hle]
  cases A<;>simp[storeCells]
 ·have hnews:∀ j u,ys[j]?=some u->w.cell? (ad.add j)=some u:=by
   intro j u hu;rcases hr with rfl | ⟨b,off,h,_,hc⟩
   ·simp at hu
   ·injection h with h
    subst h;rw[add_plain];exact hc j u hu
  obtain⟨v',w',hrun,h2,h3,_,h5⟩:=run_append_own_at (P:=Tryz.prog) w base t ty e i z size bytes ht hi hz hsize hby hzs hsz _ n _ hown ad m c ys hm hnews h1 h63 hbytes hbase;rw[YY] at h3 h5;have hv:∃ A' c',v'=.slice A' (n+m) c':=by
   rcases h2.2 with⟨rfl,h0⟩ | ⟨g,cap,cur,rfl,_⟩
   ·exact⟨none,0,by rw[h0]⟩
   ·exact⟨some ⟨g,0,none⟩,cap,rfl⟩
  obtain⟨A',c',rfl⟩:=hv;rw[YY] at h5;exact⟨A',c',w',hrun,h2,h3,h5⟩
theorem JU (base:Nat)(ty:TypeId)(g n:Nat)(cs:Array Value)(B:Option Addr)(m c:Nat)(ys:List Value)(hg:Blk w g e cs)(hb:base<=g)(hn:cs.size=n*size)(hr:RdC w B ys)(hm:ys.length=m*size)(h1:∀ u∈ys,u.oneCell'=true)
  (h63:n+m<=maxLen) (hbytes:(n+m)*bytes<=140737488355328) :
  ∃ A' c' w',(Builtin.append_ #[t,t] ty #[.slice (some ⟨g,0,none⟩) n n,.slice B m c]).run Tryz.prog w=.ok (.slice A' (n+m) c') w'/\OwV w' base e size A' (n+m) c' (cs.toList++ys)/\Ext w w':=by
 by_cases hy:ys=[]
 ·subst hy
  have hm0:m=0:=by
   simp only[List.length_nil] at hm;rcases Nat.eq_zero_or_pos m with h | h
   ·exact h
   ·have:=Nat.mul_pos h hsz;omega
  subst hm0;refine⟨some ⟨g,0,none⟩,n,w,?_,by simpa using OwV.full hg hb hn (by simpa using h63),Ext.rf _⟩;rcases B with _ | ad
  ·simp[Builtin.append_,run_underlying ht,sizeOf,typeInfo,hi,Builtin.lenOf,Builtin.firstCells,storeCells]
  ·simp[Builtin.append_,run_underlying ht,sizeOf,typeInfo,hi,Builtin.lenOf,Builtin.firstCells,storeCells,loadCells,loadCellsFrom]
 ·have hm0:0<m:=by
   rcases Nat.eq_zero_or_pos m with h | h
   ·rw[h,Nat.zero_mul] at hm
    exact absurd (List.eq_nil_of_length_eq_zero hm) hy
   ·exact h
  obtain⟨b,off,rfl,hc⟩:∃ b off,B=some ⟨b,off,none⟩/\∀ j x,ys[j]?=some x->w.cell? ⟨b,off+j,none⟩=some x:=by
   rcases hr with h | ⟨b,off,h,_,hc⟩
   ·exact absurd h hy
   ·exact⟨b,off,h,hc⟩
  have hnews:∀ j u,ys[j]?=some u->w.cell? ((⟨b,off,none⟩:Addr).add j)=some u:=by
   intro j u hu;rw[add_plain];exact hc j u hu
  have holds:∀ j u,cs.toList[j]?=some u->w.cell? ((⟨g,0,none⟩:Addr).add j)=some u:=by
   intro j u hu;rw[add_plain,hg.cell]
   simpa using hu
  subst hsize hby;have hrun:=run_append_grow (P:=Tryz.prog) w t ty e i z ht hi hz ⟨g,0,none⟩ n n cs.toList (by rw[Array.length_toList];exact hn) holds ⟨b,off,none⟩ m c ys hm hnews (by omega) (by have h:=h63;simp only[maxLen] at h;omega) (growslice_fits (by omega) hbytes);have hge:=grownCap_ge w (n+m) n e;have hle:=grownCap_le_maxLen w (n+m) n e h63;have hlen:(cs.toList++ys).length=(n+m)*i.size:=by rw[List.length_append,Array.length_toList,hn,hm,Nat.add_mul]
  refine⟨_,_,_,hrun,.mk (cur:=_) (Nat.le_trans hb (Nat.le_of_lt hg.lt)) (heap_alloc_new w.drew _) hge hle ?_ ?_,((Ext.rf w).drew).alloc _⟩
  ·simp only[Array.size_append,List.size_toArray,size_zeroCells,hzs,Array.length_toList,hn,hm,<-Nat.add_mul]
   congr 1
   omega
  ·simp only[Array.toList_append,List.append_assoc]
   rw[<-List.append_assoc,<-hlen];exact List.take_left
theorem Ui {ops:Array Oper}{rest:List Oper}{o:Oper}{a:Act}{Q:Exit->Act->World->Prop}(hgd:o.guard=none)(s x:Operand)
  (ho:o.op=.call { callee:=.builtin .append,args:=#[s,x],argTypes:=#[t,t] })
  (base:Nat) (A:Option Addr) (n cA:Nat) (xs:List Value) (B:Option Addr) (m c:Nat) (ys:List Value) (hs:a.eval s=.slice A n cA) (hx:a.eval x=.slice B m c) (hown:OwV w base e size A n cA xs) (hr:RdC w B ys) (hm:ys.length=m*size) (h1:∀ u∈ys,u.oneCell'=true)
  (h63:n+m<=maxLen) (hbytes:(n+m)*bytes<=140737488355328) (hbase:base<=w.heap.size)
  (h:∀ A' c' w',OwV w' base e size A' (n+m) c' (xs++ys)->w.grownBy w' (bl A)->(bl A'=bl A\/bl A'=some w.heap.size)->wpList Tryz.prog ops Q rest (a.put o.dst (.slice A' (n+m) c')) w'):wpList Tryz.prog ops Q (o::rest) a w :=
 wpList_plain hgd fun _ hK=>by
  obtain⟨A',c',w',hrun,h2,h3,h4⟩:=Vf w ht hi hz hsize hby hzs hsz base o.type A n cA xs B m c ys hown hr hm h1 h63 hbytes hbase;unfold Oper.wp execOp;simp only[ho,resolve,invoke,builtin,Sem.run_bind,Sem.run_pure,Result.andThen_ok,List.map_toArray,List.map_cons,List.map_nil,hs,hx,hrun];exact hK _ _ (h A' c' w' h2 h3 h4)
theorem ZaX {ops:Array Oper}{o:Oper}{a:Act}{K:Act->World->Prop}{Q:Exit->Act->World->Prop}{E:Prop}(hgd:o.guard=none)(s x:Operand)
  (ho:o.op=.call { callee:=.builtin .append,args:=#[s,x],argTypes:=#[t,t] })
  (base:Nat) (A:Option Addr) (n cA:Nat) (xs:List Value) (B:Option Addr) (m c:Nat) (ys:List Value) (hs:a.eval s=.slice A n cA) (hx:a.eval x=.slice B m c) (hown:OwV w base e size A n cA xs) (hr:RdC w B ys) (hm:ys.length=m*size) (h1:∀ u∈ys,u.oneCell'=true)
  (h63:n+m<=maxLen) (hbytes:(n+m)*bytes<=140737488355328) (hbase:base<=w.heap.size)
  (h:∀ A' c' w',OwV w' base e size A' (n+m) c' (xs++ys)->w.grownBy w' (bl A)->(bl A'=bl A\/bl A'=some w.heap.size)->K (a.put o.dst (.slice A' (n+m) c')) w'):if Region.wanted o (yielded ops a.tmps)=true then Oper.wp Tryz.prog o a w K Q else E:=by
 have hw:Region.wanted o (yielded ops a.tmps)=true:=by simp[Region.wanted,hgd]
 rw[if_pos hw];obtain⟨A',c',w',hrun,h2,h3,h4⟩:=Vf w ht hi hz hsize hby hzs hsz base o.type A n cA xs B m c ys hown hr hm h1 h63 hbytes hbase;unfold Oper.wp execOp;simp only[ho,resolve,invoke,builtin,Sem.run_bind,Sem.run_pure,Result.andThen_ok,List.map_toArray,List.map_cons,List.map_nil,hs,hx,hrun];exact h A' c' w' h2 h3 h4
end
end Go.Proofs.YtmojhhlcocjoaaaGreatDoor
namespace Go.Proofs.YtmojhhlcocjoaaaGreatDoor
open Go.RowKit Go.ChangeShapes Go.WideShapes Go.ChangeAt
def ofT (w:World)(base:Nat)(ts:List TypeId)(k:Nat) : Prop:=base<=k/\∃ cs t,w.heap[k]?=some (.cells cs t (0,0))/\t∈ts
def ModT (base:Nat)(ts:List TypeId)(w w':World) : Prop:=Mod (ofT w base ts) w w'
section
variable {base:Nat} {ts:List TypeId} {w w' w2:World}
theorem ModT.rf (w:World) : ModT base ts w w:=Mod.rf w
theorem ModT.of_ext (h:Ext w w') : ModT base ts w w':=Mod.of_ext h
theorem ModT.tr (h:ModT base ts w w')(k:ModT base ts w' w2) : ModT base ts w w2:=by
 refine Mod.tr' h k fun i hi hs=>?_
 by_cases ho:ofT w base ts i
 ·exact ho
 ·obtain⟨hb,cs,t,hc,ht⟩:=hs
  exact⟨hb,cs,t,(h.block i hi ho).symm.trans hc,ht⟩
theorem ModT.ext (h:ModT base ts w w')(k:Ext w' w2) : ModT base ts w w2:=h.tr (.of_ext k)
theorem ModT.set (w:World){g:Nat}{t:TypeId}{cs:Array Value}(hg:Blk w g t cs)(ht:t∈ts)(hb:base<=g)(i:Nat)(u:Value) : ModT base ts w (w.setCell ⟨g,i,none⟩ u) :=
 Mod.set (p:=⟨g,i,none⟩) (Mod.rf w) (.inl ⟨hb,cs,t,hg,ht⟩) u
theorem ModT.size (h:ModT base ts w w') : w.heap.size<=w'.heap.size:=Mod.size h
theorem ModT.more {ts':List TypeId}{base':Nat}(h:ModT base ts w w')(hb:base'<=base)(ht:∀ t∈ts,t∈ts') : ModT base' ts' w w' :=
 Mod.mono h fun _ _ ⟨h1,cs,t,h2,h3⟩=>⟨Nat.le_trans hb h1,cs,t,h2,ht t h3⟩
theorem Ext.modT {w0:World}(h:Ext w0 w)(k:ModT base ts w w')(hb:w0.heap.size<=base) : Ext w0 w':=h.mod k fun _ hk hs=>by have:=hs.1;omega
theorem Blk.modT {g:Nat}{t:TypeId}{cs:Array Value}(h:Blk w g t cs)(k:ModT base ts w w')(ht:t∉ts) : Blk w' g t cs :=
 h.mod k fun hs=>by
  obtain⟨_,cs',t',h1,h2⟩:=hs;rw[h] at h1
  injection h1 with h1
  injection h1 with _ h1
  subst h1;exact ht h2
theorem RdV.modT {e:TypeId}{A:Option Addr}{vs:List Value}(h:RdV w e A vs)(k:ModT base ts w w')(ht:e∉ts) : RdV w' e A vs :=
 h.mod k fun b cur hb hs=>by
  obtain⟨_,cs',t',h1,h2⟩:=hs;rw[hb] at h1
  injection h1 with h1
  injection h1 with _ h1
  subst h1;exact ht h2
theorem OwI.modT {base':Nat}{A:Option Addr}{c:Nat}{xs:List Int}(h:OwI w base' A c xs)(k:ModT base ts w w')(ht:3∉ts) : OwI w' base' A c xs :=
 h.keep fun g hg=>by
  rcases h.cases with⟨rfl,rfl,rfl⟩ | ⟨g',cur,rfl,hb',hh,_⟩
  ·simp[bl] at hg
  ·simp[bl] at hg
   subst hg;exact k.block g' (Array.getElem?_eq_some_iff.1 hh).1 fun hs=>by
    obtain⟨_,cs',t',h1,h2⟩:=hs;rw[hh] at h1
    injection h1 with h1
    injection h1 with _ h1
    subst h1;exact ht h2
theorem OwV.modT {base':Nat}{e:TypeId}{size n c:Nat}{A:Option Addr}{vs:List Value}(h:OwV w base' e size A n c vs)(k:ModT base ts w w')(ht:e∉ts) : OwV w' base' e size A n c vs :=
 h.keep fun g hg=>by
  rcases h.cases with⟨rfl,rfl,rfl,rfl⟩ | ⟨g',cur,rfl,hb',hh,_⟩
  ·simp[bl] at hg
  ·simp[bl] at hg
   subst hg;exact k.block g' (Array.getElem?_eq_some_iff.1 hh).1 fun hs=>by
    obtain⟨_,cs',t',h1,h2⟩:=hs;rw[hh] at h1
    injection h1 with h1
    injection h1 with _ h1
    subst h1;exact ht h2
theorem RdI.modT {A:Option Addr}{xs:List Int}(h:RdI w A xs)(k:ModT base ts w w')(hb:∀ b,bl A=some b->b<base) : RdI w' A xs:=by
 rcases h with rfl | ⟨b,off,rfl,hlt,hc⟩
 ·exact .inl rfl
 ·refine .inr ⟨b,off,rfl,Nat.lt_of_lt_of_le hlt k.size,fun j x hj=>?_⟩
  have h1:=hb b rfl;rw[<-hc j x hj];exact World.cell?_of_block (k.block b hlt fun hs=>by have:=hs.1;omega)
end
end Go.Proofs.YtmojhhlcocjoaaaGreatDoor
namespace Go.Proofs.YtmojhhlcocjoaaaGreatDoor
open Go.RowKit
def Zj (a0:Act) : List (Nat×Option Tmp)->(Nat->Value)->Act
 | [],_=>a0
 | p::ps,u=>(Zj a0 ps u).put p.2 (u p.1)
def upd (u:Nat->Value)(i:Nat)(v:Value) : Nat->Value:=fun j=>if j=i then v else u j
def Xf (ops:Array Oper)(rem:List (Nat×Option Tmp))(i:Nat) : List Nat :=
 match ops[i]? with
 | none=>[]
 | some o=>(o.after.toList.filter fun e=>Region.binds .any e&&(rem.map (·.1)).contains e.on).map (·.on)
theorem Zm {ops:Array Oper}{rem:List (Nat×Option Tmp)}{i j:Nat}(h:(Xf ops rem i).contains j=true) : j∈Xf ops rem i:=by simpa using h
theorem Act.put_put_ne (a:Act){x y:Option Tmp}(v u:Value)(h:∀ d,x=some d->y≠some d) : (a.put x v).put y u=(a.put y u).put x v:=Act.put_comm a v u h
theorem Act.put_twice (a:Act)(x:Option Tmp)(v u:Value) : (a.put x v).put x u=a.put x u:=by
 cases x with
 | none=>rfl
 | some d=>simp[Act.put,Array.setIfInBounds_setIfInBounds]
theorem U0 (a0:Act)(i:Nat)(d:Option Tmp)(u:Nat->Value)(v:Value) : ∀ (rem:List (Nat×Option Tmp)),(rem.map (·.1)).Nodup->(rem.filterMap (·.2)).Nodup->(i,d)∈rem ->
  (Zj a0 rem u).put d v=Zj a0 rem (upd u i v)
 | [],_,_,h=>by cases h
 | p::ps,hn,hd,h=>by
  have same:∀ (qs:List (Nat×Option Tmp)),i∉qs.map (·.1)->Zj a0 qs (upd u i v)=Zj a0 qs u:=by
   intro qs
   induction qs with
   | nil=>intro _;rfl
   | cons q qs ih =>
    intro hq;simp only[List.map_cons,List.mem_cons,not_or] at hq;simp only[Zj,ih hq.2,upd,if_neg (Ne.symm hq.1)]
  rcases List.mem_cons.1 h with rfl | h'
  ·have hni:i∉ps.map (·.1):=by simpa using (List.nodup_cons.1 hn).1
   simp only[Zj,same ps hni,upd,if_true];exact Act.put_twice _ _ _ _
  ·have hpi:p.1≠i:=by
    rintro rfl;exact(List.nodup_cons.1 hn).1 (List.mem_map.2 ⟨_,h',rfl⟩)
   have hd':(ps.filterMap (·.2)).Nodup:=by
    cases hp:p.2 with
    | none=>simpa [List.filterMap_cons,hp] using hd
    | some t=>rw[List.filterMap_cons,hp] at hd;exact(List.nodup_cons.1 hd).2
   have ih:=U0 a0 i d u v ps (List.nodup_cons.1 hn).2 hd' h';simp only[Zj,upd,if_neg hpi];rw[<-ih];refine Act.put_put_ne _ _ _ ?_;intro t ht hdt;rw[List.filterMap_cons,ht] at hd;exact(List.nodup_cons.1 hd).1 (List.mem_filterMap.2 ⟨(i,d),h',hdt⟩)
theorem Zdl (a:Act)(d:Tmp) : a.put (some d) (a.tmps.getD d undef)=a:=by
 have:a.tmps.setIfInBounds d (a.tmps.getD d undef)=a.tmps:=by
  apply Array.ext_getElem?;intro j;rw[Array.getElem?_setIfInBounds];split
  ·rename_i h
   subst h;split
   ·rename_i h;simp[Array.getD,h]
   ·rename_i h;simp[Array.getElem?_eq_none (Nat.le_of_not_lt h)]
  ·rfl
 show ({ a with tmps:=a.tmps.setIfInBounds d (a.tmps.getD d undef) }:Act)=a;rw[this]
theorem U3 (a0:Act)(u:Nat->Value)(i:Nat)(v:Value) : ∀ (qs:List (Nat×Option Tmp)),i∉qs.map (·.1)->Zj a0 qs (upd u i v)=Zj a0 qs u
 | [],_=>rfl
 | q::qs,hq=>by
  simp only[List.map_cons,List.mem_cons,not_or] at hq;simp only[Zj,U3 a0 u i v qs hq.2,upd,if_neg (Ne.symm hq.1)]
theorem UE (a0:Act) : ∀ (rem:List (Nat×Option Tmp)),(rem.map (·.1)).Nodup->∃ u,Zj a0 rem u=a0
 | [],_=>⟨fun _=>undef,rfl⟩
 | p::ps,hn=>by
  obtain⟨u,hu⟩:=UE a0 ps (List.nodup_cons.1 hn).2;have hni:p.1∉ps.map (·.1):=(List.nodup_cons.1 hn).1;refine⟨upd u p.1 (match p.2 with | some d=>a0.tmps.getD d undef | none=>undef),?_⟩;simp only[Zj,U3 a0 u _ _ ps hni,hu,upd,if_true]
  cases p.2 with
  | none=>rfl
  | some d=>exact Zdl a0 d
section
variable {P:Program} {ops:Array Oper} {Q:Exit->Act->World->Prop}
def WF (listed:Array Bool)(rem:List (Nat×Option Tmp)) : Nat:=(rem.filter fun p => !listed.getD p.1 true).length
def Wi (ops:Array Oper)(rs:List Nat) : Nat->Nat->Nat->Bool
 | 0,_,_=>false
 | f+1,i,q=>match ops[i]? with
  | none=>false
  | some o=>o.after.toList.any (fun e=>Region.binds .any e&&(e.on==q || (rs.contains e.on&&Wi ops rs f e.on q)))
theorem Wj {listed:Array Bool}{rs:List Nat}(hcl:∀ p∈rs,listed.getD p true=true->∀ o,ops[p]?=some o->∀ e∈o.after.toList,Region.binds .any e=true->listed.getD e.on true=true) :
  ∀ (f i:Nat),(∀ o,ops[i]?=some o->∀ e∈o.after.toList,Region.binds .any e=true->listed.getD e.on true=true)->∀ q,Wi ops rs f i q=true->listed.getD q true=true:=by
 intro f
 induction f with
 | zero=>intro i _ q h;cases h
 | succ f ih =>
  intro i hi q h;unfold Wi at h
  cases ho:ops[i]? with
  | none=>rw[ho] at h;cases h
  | some o =>
   rw[ho] at h;obtain⟨e,he,h⟩:=List.any_eq_true.1 h;simp only[Bool.and_eq_true,Bool.or_eq_true,beq_iff_eq] at h;obtain⟨hb,h⟩:=h;have h1:=hi o ho e he hb;rcases h with rfl | ⟨h2,h3⟩
   ·exact h1
   ·exact ih e.on (hcl e.on (by simpa using h2) h1) q h3
theorem Vt {listed:Array Bool}{i:Nat}(h:((ops[i]?.map fun o=>o.after.all fun e => !Region.binds .any e || listed.getD e.on false).getD false)=true) :
  ∀ o,ops[i]?=some o->∀ e∈o.after.toList,Region.binds .any e=true->listed.getD e.on true=true:=by
 intro o ho e he hb;rw[ho] at h;simp only[Option.map_some,Option.getD_some,Array.all_eq_true_iff_forall_mem] at h;have:=h e (by simpa using he);rw[hb] at this;simp only[Bool.not_true,Bool.false_or] at this
 by_cases hlt:e.on<listed.size
 ·simp only[Array.getD,hlt,dif_pos] at this ⊢
  simpa using this
 ·simp[Array.getD,hlt]
def Wk (ops:Array Oper)(listed listed1:Array Bool)(rem:List (Nat×Option Tmp)) : Bool :=
 decide ((rem.map (·.1)).Nodup)&&decide ((rem.filterMap (·.2)).Nodup)&&decide (listed.size=ops.size)&&decide (listed1.size=ops.size) &&
 rem.all (fun p=>match ops[p.1]? with
  | none=>false
  | some o=>(o.dst==p.2)&&o.after.all (fun e => !Region.binds .any e || (decide (e.on<p.1)&&((rem.map (·.1)).contains e.on || listed.getD e.on true)))) &&
 (List.range ops.size).all (fun i=>if (rem.map (·.1)).contains i then !listed.getD i true&&listed1.getD i true
  else(listed1.getD i true==listed.getD i true)&&(listed.getD i true || rem.all (fun p=>Wi ops (rem.map (·.1)) (rem.length+1) i p.1) || (match ops[i]? with
   | none=>false
   | some o=>o.after.any (fun e=>Region.binds .any e&&decide (e.on<ops.size) && !listed.getD e.on true && !(rem.map (·.1)).contains e.on))))
def Zdm (ops:Array Oper)(rem:List (Nat×Option Tmp))(kill:Nat->List Nat)(i j:Nat) : Bool :=
 decide (i≠j) && !(kill j).contains i&&(kill j).all (fun k => !Wi ops (rem.map (·.1)) (rem.length+1) i k) && !Wi ops (rem.map (·.1)) (rem.length+1) j i
def ZaY (ops:Array Oper)(rem:List (Nat×Option Tmp))(kill:Nat->List Nat) : Bool :=
 rem.all fun p=>(Xf ops rem p.1).all fun j=>(kill j).all fun k=>k==p.1
theorem UG {σ:Type}(rem:List (Nat×Option Tmp))(kill:Nat->List Nat)(R:σ->World->Prop)(V:Nat->Value->σ->World->Prop)(Stab:Nat->σ->World->σ->World->Prop){listed0:Array Bool}(listed1:Array Bool)(hok:Wk ops listed0 listed1 rem=true)(hkill:ZaY ops rem kill=true)
  (stab:∀ i j v s w s' w',Zdm ops rem kill i j=true->V j v s w->Stab i s w s' w'->V j v s' w')
  {a0:Act}
  (step:∀ p∈rem,∀ u s w,R s w->(∀ j∈Xf ops rem p.1,V j (u j) s w)->∀ K:Act->World->Prop,(∀ v s' w',V p.1 v s' w'->R s' w'->Stab p.1 s w s' w'->K ((Zj a0 rem u).put p.2 v) w')->wpOp P ops Q p.1 K (Zj a0 rem u) w)
  (n:Nat) (done:∀ u s w,R s w->(∀ p∈rem,kill p.1=[]->V p.1 (u p.1) s w)->wpAny P .any ops Q n listed1 (Zj a0 rem u) w) {s0:σ} {w0:World} (hR:R s0 w0) :
  wpAny P .any ops Q (rem.length+n) listed0 a0 w0:=by
 simp only[Wk,Bool.and_eq_true,decide_eq_true_eq] at hok;obtain⟨⟨⟨⟨⟨hn,hdn⟩,hsz⟩,hsz1⟩,hall⟩,hcomp⟩:=hok;have hall:=List.all_eq_true.1 hall;have hcomp:=List.all_eq_true.1 hcomp;have hmem:∀ i∈rem.map (·.1),listed0.getD i true=false/\i<ops.size:=by
  intro i hi;obtain⟨p,hp,rfl⟩:=List.mem_map.1 hi;have h1:=hall p hp;have hlt:p.1<ops.size:=by
   rcases Nat.lt_or_ge p.1 ops.size with h | h
   ·exact h
   ·rw[Array.getElem?_eq_none h] at h1;simp at h1
  have:=hcomp p.1 (List.mem_range.2 hlt);have hc:(rem.map (·.1)).contains p.1=true:=by simpa using hi
  rw[hc] at this;simp only[if_true,Bool.and_eq_true,Bool.not_eq_true'] at this;exact⟨this.1,hlt⟩
 have hone:∀ i∈rem.map (·.1),listed1.getD i true=true:=by
  intro i hi;have:=hcomp i (List.mem_range.2 (hmem i hi).2);have hc:(rem.map (·.1)).contains i=true:=by simpa using hi
  rw[hc] at this;simp only[if_true,Bool.and_eq_true] at this;exact this.2
 have hrest:∀ i,i<ops.size->i∉rem.map (·.1)->listed1.getD i true=listed0.getD i true/\((listed0.getD i true=true\/∀ p∈rem,Wi ops (rem.map (·.1)) (rem.length+1) i p.1=true)\/∃ o,ops[i]?=some o/\∃ e∈o.after.toList,Region.binds .any e=true/\e.on<ops.size/\listed0.getD e.on true=false/\e.on∉rem.map (·.1)):=by
  intro i hi hni;have:=hcomp i (List.mem_range.2 hi);have hc:(rem.map (·.1)).contains i=false:=by
   cases h:(rem.map (·.1)).contains i with
   | false=>rfl
   | true=>exact absurd (by simpa using h) hni
  rw[hc] at this;simp only[Bool.false_eq_true,if_false,Bool.and_eq_true,beq_iff_eq,Bool.or_eq_true] at this;refine⟨this.1,?_⟩;rcases this.2 with(h | h) | h
  ·exact .inl (.inl h)
  ·exact .inl (.inr fun p hp=>List.all_eq_true.1 h p hp)
  ·right
   rw[Array.getElem?_eq_getElem hi] at h;refine⟨ops[i],Array.getElem?_eq_getElem hi,?_⟩;simp only[Array.any_toList.symm,List.any_eq_true,Bool.and_eq_true,decide_eq_true_eq,Bool.not_eq_true'] at h;obtain⟨e,he,⟨⟨h1,h2⟩,h3⟩,h4⟩:=h;exact⟨e,he,h1,h2,h3,by simpa using h4⟩
 suffices H:∀ k (listed:Array Bool) (u:Nat->Value) (s:σ) (w:World),listed.size=ops.size->R s w->(∀ i,i<ops.size->i∉rem.map (·.1)->listed.getD i true=listed0.getD i true) ->
   (∀ p∈rem,listed.getD p.1 true=true->(∀ k∈kill p.1,listed.getD k true=false)->V p.1 (u p.1) s w)->(∀ p∈rem.map (·.1),listed.getD p true=true->∀ o,ops[p]?=some o->∀ e∈o.after.toList,Region.binds .any e=true->listed.getD e.on true=true)->WF listed rem=k->wpAny P .any ops Q (k+n) listed (Zj a0 rem u) w by
  obtain⟨u,hu⟩:=UE a0 rem hn;have hopen:WF listed0 rem=rem.length:=by
   unfold WF;rw[List.filter_eq_self.2];intro p hp;simp[(hmem p.1 (List.mem_map.2 ⟨p,hp,rfl⟩)).1]
  have h:=H rem.length listed0 u s0 w0 hsz hR (fun i hi hni=>rfl) (fun p hp hl _=>by
   have:=(hmem p.1 (List.mem_map.2 ⟨p,hp,rfl⟩)).1;rw[this] at hl
   cases hl) (fun p hp hl=>by
   rw[(hmem p hp).1] at hl
   cases hl) hopen
  rwa [hu] at h
 intro k
 induction k with
 | zero =>
  intro listed u s w hs hRw hout hV hcl hopen;have hall':∀ p∈rem,listed.getD p.1 true=true:=by
   intro p hp;simp only[WF,List.length_eq_zero_iff,List.filter_eq_nil_iff,Bool.not_eq_true',Bool.not_eq_false] at hopen;exact hopen p hp
  have hl:listed=listed1:=by
   apply Array.ext
   ·rw[hs,hsz1]
   ·intro i h1 h2
    have:listed.getD i true=listed1.getD i true:=by
     by_cases hr:i∈rem.map (·.1)
     ·rw[hone i hr]
      obtain⟨p,hp,rfl⟩:=List.mem_map.1 hr;exact hall' p hp
     ·rw[hout i (by omega) hr,(hrest i (by omega) hr).1]
    simpa [Array.getD,h1,h2] using this
  rw[hl,Nat.zero_add];exact done u s w hRw (fun p hp hk=>hV p hp (hall' p hp) (fun k h=>by rw[hk] at h;cases h))
 | succ k ih =>
  intro listed u s w hs hRw hout hV hcl hopen;rw[Nat.add_right_comm];have hsome:∃ p∈rem,listed.getD p.1 true=false:=by
   have:(rem.filter fun p => !listed.getD p.1 true)≠[]:=by
    intro h;simp only[WF,h,List.length_nil] at hopen;omega
   obtain⟨p,hp⟩:=List.exists_mem_of_ne_nil _ this;obtain⟨h1,h2⟩:=List.mem_filter.1 hp;exact⟨p,h1,by simpa using h2⟩
  have hno:∀ i,i∈Region.ready .any ops listed->i∈rem.map (·.1):=by
   intro i hi;obtain⟨hi1,hi2⟩:=List.mem_filter.1 hi;have hilt:=List.mem_range.1 hi1;simp only[Bool.and_eq_true] at hi2;have hil:listed.getD i true=false:=by simpa using hi2.1
   by_cases hr:i∈rem.map (·.1)
   ·exact hr
   ·exfalso
    obtain⟨h1,h2⟩:=hrest i hilt hr;rw[hout i hilt hr] at hil;rcases h2 with(h2 | h2) | h2
    ·rw[h2] at hil;cases hil
    rotate_left
    ·obtain⟨o,ho,e,he,hb,hsz2,hl0,hnr⟩:=h2
     have h3:=hi2.2;rw[ho] at h3;simp only[Option.map_some,Option.getD_some,Array.all_eq_true_iff_forall_mem] at h3;have:=h3 e (by simpa using he);rw[hb] at this;simp only[Bool.not_true,Bool.false_or] at this;have hlt:e.on<listed.size:=by rw[hs];exact hsz2
     have e1:listed.getD e.on false=listed.getD e.on true:=by simp only[Array.getD,hlt,dif_pos]
     rw[e1,hout e.on hsz2 hnr,hl0] at this
     cases this
    ·obtain⟨p,hp,hpl⟩:=hsome
     have:=Wj hcl _ i (Vt hi2.2) p.1 (h2 p hp);rw[hpl] at this
     cases this
  constructor
  ·intro hnil
   exfalso
   have key:∀ i,i<ops.size->i∈rem.map (·.1)->listed.getD i true=true:=by
    intro i
    induction i using Nat.strongRecOn with
    | _ i ihi =>
     intro hi hr;obtain⟨p,hp,rfl⟩:=List.mem_map.1 hr;have h1:=hall p hp
     cases hl:listed.getD p.1 true with
     | true=>rfl
     | false =>
      exfalso
      have hready:p.1∈Region.ready .any ops listed:=by
       refine List.mem_filter.2 ⟨List.mem_range.2 hi,?_⟩;rw[Array.getElem?_eq_getElem hi] at h1 ⊢;simp only[Bool.and_eq_true,beq_iff_eq] at h1;simp only[hl,Bool.not_false,Option.map_some,Option.getD_some,Bool.true_and];rw[Array.all_eq_true_iff_forall_mem] at h1 ⊢;intro e he;have:=h1.2 e he
       cases hb:Region.binds .any e with
       | false=>rfl
       | true =>
        rw[hb] at this;simp only[Bool.not_true,Bool.false_or,Bool.and_eq_true,decide_eq_true_eq,Bool.or_eq_true] at this;have hlt:e.on<listed.size:=by rw[hs];omega
        have hh:listed.getD e.on true=true:=by
         rcases this.2 with h | h
         ·exact ihi e.on this.1 (by omega) (by simpa using h)
         ·by_cases hr':e.on∈rem.map (·.1)
          ·exact ihi e.on this.1 (by omega) hr'
          ·rw[hout e.on (by omega) hr'];exact h
        simp only[Array.getD,hlt,dif_pos] at hh ⊢
        simpa using hh
      rw[hnil] at hready
      cases hready
   obtain⟨p,hp,hpl⟩:=hsome;have:=key p.1 (hmem p.1 (List.mem_map.2 ⟨p,hp,rfl⟩)).2 (List.mem_map.2 ⟨p,hp,rfl⟩);rw[this] at hpl
   cases hpl
  ·intro i hi
   have hir:=hno i hi;obtain⟨hi1,hi2⟩:=List.mem_filter.1 hi;have hilt:=List.mem_range.1 hi1;simp only[Bool.and_eq_true] at hi2;have hil:listed.getD i true=false:=by simpa using hi2.1
   obtain⟨p,hp,rfl⟩:=List.mem_map.1 hir;refine step p hp u s w hRw ?_ _ ?_
   ·intro j hj
    rw[Xf,Array.getElem?_eq_getElem hilt] at hj;obtain⟨e,he,rfl⟩:=List.mem_map.1 hj;obtain⟨he1,he2⟩:=List.mem_filter.1 he;simp only[Bool.and_eq_true] at he2;have hjr:e.on∈rem.map (·.1):=by simpa using he2.2
    obtain⟨q,hq,hqe⟩:=List.mem_map.1 hjr;have hjd:e.on∈Xf ops rem p.1:=by
     rw[Xf,Array.getElem?_eq_getElem hilt];exact List.mem_map.2 ⟨e,he,rfl⟩
    have hkj:∀ k∈kill q.1,listed.getD k true=false:=by
     intro k hk;rw[hqe] at hk;have h9:=List.all_eq_true.1 (List.all_eq_true.1 (List.all_eq_true.1 hkill p hp) e.on hjd) k hk;obtain rfl:k=p.1:=by simpa using h9
     exact hil
    rw[<-hqe];refine hV q hq ?_ hkj;have h3:=hi2.2;rw[Array.getElem?_eq_getElem hilt] at h3;simp only[Option.map_some,Option.getD_some,Array.all_eq_true_iff_forall_mem] at h3;have:=h3 e (by simpa using he1);rw[he2.1] at this;simp only[Bool.not_true,Bool.false_or] at this;rw[hqe];have hlt:e.on<listed.size:=by rw[hs,<-hqe];exact(hmem q.1 (List.mem_map.2 ⟨q,hq,rfl⟩)).2
    simp only[Array.getD,hlt,dif_pos] at this ⊢
    simpa using this
   ·intro v s' w' hv hR' hst
    have hpp:(p.1,p.2)∈rem:=hp;rw[U0 a0 p.1 p.2 u v rem hn hdn hpp];have hset:∀ j,(listed.setIfInBounds p.1 true).getD j true=if j=p.1 then true else listed.getD j true:=by
     intro j;simp only[Array.getD_eq_getD_getElem?,Array.getElem?_setIfInBounds]
     by_cases hj:p.1=j
     ·subst hj
      simp;split<;>simp
     ·rw[if_neg hj,if_neg (Ne.symm hj)]
    refine ih _ _ _ _ (by simpa using hs) hR' ?_ ?_ ?_ ?_
    ·intro j hj hjr
     have hjp:¬j=p.1:=fun e=>hjr (by rw[e];exact List.mem_map.2 ⟨p,hp,rfl⟩)
     rw[hset,if_neg hjp];exact hout j hj hjr
    ·intro q hq hql hkq
     rw[hset] at hql
     by_cases he:q.1=p.1
     ·rw[he]
      simpa [upd] using hv
     ·rw[if_neg he] at hql
      simp only[upd,if_neg he];have hk1:∀ k∈kill q.1,k≠p.1/\listed.getD k true=false:=by
       intro k hk;have h9:=hkq k hk;rw[hset] at h9
       by_cases hkp:k=p.1
       ·rw[if_pos hkp] at h9;cases h9
       ·rw[if_neg hkp] at h9;exact⟨hkp,h9⟩
      refine stab p.1 q.1 _ _ _ _ _ ?_ (hV q hq hql fun k hk=>(hk1 k hk).2) hst;unfold Zdm;simp only[Bool.and_eq_true,decide_eq_true_eq,Bool.not_eq_true'];refine⟨⟨⟨Ne.symm he,?_⟩,List.all_eq_true.2 fun k hk=>?_⟩,?_⟩
      ·cases hc:(kill q.1).contains p.1 with
       | false=>rfl
       | true=>exact absurd rfl (hk1 p.1 (by simpa using hc)).1
      ·cases hc:Wi ops (rem.map (·.1)) (rem.length+1) p.1 k with
       | false=>rfl
       | true =>
        have h5:=Wj hcl _ p.1 (Vt hi2.2) k hc;rw[(hk1 k hk).2] at h5
        cases h5
      ·cases hc:Wi ops (rem.map (·.1)) (rem.length+1) q.1 p.1 with
       | false=>rfl
       | true =>
        have h5:=Wj hcl _ q.1 (hcl q.1 (List.mem_map.2 ⟨q,hq,rfl⟩) hql) p.1 hc;rw[hil] at h5
        cases h5
    ·intro q hq hql o ho e he hb
     rw[hset];split
     ·rfl
     ·rw[hset] at hql
      by_cases hqp:q=p.1
      ·subst hqp
       exact Vt hi2.2 o ho e he hb
      ·rw[if_neg hqp] at hql
       exact hcl q hq hql o ho e he hb
    ·have hlt:WF (listed.setIfInBounds p.1 true) rem+1=WF listed rem:=by
      unfold WF;have h1:∀ (qs:List (Nat×Option Tmp)),(qs.map (·.1)).Nodup->p∈qs->(qs.filter fun q => !(listed.setIfInBounds p.1 true).getD q.1 true).length+1=(qs.filter fun q => !listed.getD q.1 true).length:=by
       intro qs hqn hpq;have heq:∀ (rs:List (Nat×Option Tmp)),p.1∉rs.map (·.1)->(rs.filter fun q => !(listed.setIfInBounds p.1 true).getD q.1 true)=(rs.filter fun q => !listed.getD q.1 true):=by
        intro rs hrs;refine List.filter_congr fun q hq=>?_
        have hne:q.1≠p.1:=fun e=>hrs (e ▸ List.mem_map.2 ⟨q,hq,rfl⟩)
        rw[hset,if_neg hne]
       induction qs with
       | nil=>cases hpq
       | cons r rs ihr =>
        rcases List.mem_cons.1 hpq with rfl | hpq'
        ·have:=heq rs (List.nodup_cons.1 hqn).1
         rw[List.filter_cons,List.filter_cons,this,hset,if_pos rfl,hil];simp
        ·have ih2:=ihr (List.nodup_cons.1 hqn).2 hpq'
         have hne:r.1≠p.1:=by
          intro e;exact(List.nodup_cons.1 hqn).1 (List.mem_map.2 ⟨p,hpq',e.symm⟩)
         rw[List.filter_cons,List.filter_cons,hset,if_neg hne];split<;>(try simp only[List.length_cons])<;>omega
      exact h1 rem hn hp
     omega
theorem Xr (rem:List (Nat×Option Tmp))(R:World->Prop)(V:Nat->Value->World->Prop)(Stab:World->World->Prop){listed0:Array Bool}(listed1:Array Bool)(hok:Wk ops listed0 listed1 rem=true)
  (stab:∀ j v w w',V j v w->Stab w w'->V j v w')
  {a0:Act}
  (step:∀ p∈rem,∀ u w,R w->(∀ j∈Xf ops rem p.1,V j (u j) w)->∀ K:Act->World->Prop,(∀ v w',V p.1 v w'->R w'->Stab w w'->K ((Zj a0 rem u).put p.2 v) w')->wpOp P ops Q p.1 K (Zj a0 rem u) w)
  (n:Nat) (done:∀ u w,R w->(∀ p∈rem,V p.1 (u p.1) w)->wpAny P .any ops Q n listed1 (Zj a0 rem u) w) {w0:World} (hR:R w0) :
  wpAny P .any ops Q (rem.length+n) listed0 a0 w0 :=
 UG (σ:=Unit) rem (fun _=>[]) (fun _=>R) (fun j v _=>V j v) (fun _ _ w _ w'=>Stab w w') listed1 hok (by simp[ZaY]) (fun _ j v _ w _ w' _=>stab j v w w') (fun p hp u _ w hR hd K hK=>step p hp u w hR hd K fun v w'=>hK v () w') n (fun u _ w hR h=>done u w hR fun p hp=>h p hp rfl) (s0:=()) hR
end
section
variable {P:Program} {ops:Array Oper} {Q:Exit->Act->World->Prop}
theorem Yx (rem:List (Nat×Option Tmp))(f:Nat->Value){listed0:Array Bool}(listed1:Array Bool)(hok:Wk ops listed0 listed1 rem=true){a0:Act}{w:World}{n:Nat}
  (step:∀ p∈rem,∀ u:Nat->Value,(∀ j∈Xf ops rem p.1,u j=f j)->∀ K:Act->World->Prop,K ((Zj a0 rem u).put p.2 (f p.1)) w->wpOp P ops Q p.1 K (Zj a0 rem u) w)
  (done:wpAny P .any ops Q n listed1 (Zj a0 rem f) w):wpAny P .any ops Q (rem.length+n) listed0 a0 w:=by
 refine Xr rem (fun w'=>w'=w) (fun i v _=>v=f i) (fun _ _=>True) listed1 hok (fun _ _ _ _ h _=>h) ?_ n ?_ rfl
 ·rintro p hp u w' rfl hD K hK
  exact step p hp u hD K (hK _ _ rfl rfl trivial)
 ·rintro u w' rfl hV
  have:∀ qs:List (Nat×Option Tmp),(∀ p∈qs,u p.1=f p.1)->Zj a0 qs u=Zj a0 qs f:=by
   intro qs
   induction qs with
   | nil=>intro _;rfl
   | cons q qs ih =>
    intro h;simp only[Zj,ih (fun p hp=>h p (List.mem_cons_of_mem _ hp)),h q List.mem_cons_self]
  rw[this rem hV];exact done
end
section
variable {P:Program} {ops:Array Oper} {o:Oper} {a:Act} {w w':World} {K:Act->World->Prop} {Q:Exit->Act->World->Prop} {E:Prop}
end
end Go.Proofs.YtmojhhlcocjoaaaGreatDoor
namespace Go.Proofs.YtmojhhlcocjoaaaGreatDoor
open Go.RowKit
def VF (f:Nat->Option Value)(g:Nat->Value->World->Prop)(i:Nat)(v:Value)(w:World) : Prop:=match f i with
 | some c=>v=c
 | none=>g i v w
theorem VF.stab {f:Nat->Option Value}{g:Nat->Value->World->Prop}{Stab:World->World->Prop}(h:∀ j v w w',f j=none->g j v w->Stab w w'->g j v w')(j:Nat)(v:Value)(w w':World)(hv:VF f g j v w)(hs:Stab w w') : VF f g j v w':=by
 unfold VF at *
 cases hf:f j with
 | some c=>rw[hf] at hv;exact hv
 | none=>rw[hf] at hv;exact h j v w w' hf hv hs
theorem VF.k {f:Nat->Option Value}{g:Nat->Value->World->Prop}{i:Nat}{v c:Value}{w:World}(h:VF f g i v w)(hf:f i=some c) : v=c:=by unfold VF at h;rw[hf] at h;exact h
theorem VF.g {f:Nat->Option Value}{g:Nat->Value->World->Prop}{i:Nat}{v:Value}{w:World}(h:VF f g i v w)(hf:f i=none) : g i v w:=by unfold VF at h;rw[hf] at h;exact h
theorem VF.mk {f:Nat->Option Value}{g:Nat->Value->World->Prop}{i:Nat}{c:Value}{w:World}(hf:f i=some c) : VF f g i c w:=by unfold VF;rw[hf]
theorem VF.mg {f:Nat->Option Value}{g:Nat->Value->World->Prop}{i:Nat}{v:Value}{w:World}(hf:f i=none)(h:g i v w) : VF f g i v w:=by unfold VF;rw[hf];exact h
def Wl (ops:Array Oper)(i:Nat) : Option (Option (Nat×Bool)×Op×TypeId×Option Tmp):=(ops[i]?).map fun o=>(o.guard,o.op,o.type,o.dst)
def Zd (ρ:Operand->Value)(op:Op)(t:TypeId) : Sem Next:=execOp ρ { dst:=none,op:=op,type:=t,pos := "",after:=#[],guard:=none }
theorem Zdn (ρ:Operand->Value)(o:Oper) : execOp ρ o=Zd ρ o.op o.type:=rfl
section
variable {P:Program} {ops:Array Oper} {i:Nat} {op:Op} {t:TypeId} {d:Option Tmp} {a:Act} {w w':World} {K:Act->World->Prop} {Q:Exit->Act->World->Prop}
theorem ZaZ (hi:Wl ops i=some (none,op,t,d))(h:∀ o:Oper,o.op=op->o.type=t->o.dst=d->o.upon P a K Q ((Zd a.eval op t).run P w)) : wpOp P ops Q i K a w:=by
 unfold Wl at hi;obtain⟨o,ho,he⟩:=Option.map_eq_some_iff.1 hi;simp only[Prod.mk.injEq] at he;obtain⟨h1,h2,h3,h4⟩:=he;unfold wpOp;simp only[ho];rw[if_pos (by simp[Region.wanted,h1])];refine .inl ?_;rw[Oper.wp,Zdn,h2,h3];exact h o h2 h3 h4
theorem ZB (hi:Wl ops i=some (none,op,t,d))(v:Value)(hrun:(Zd a.eval op t).run P w=.ok (.value v) w')(hK:K (a.put d v) w') : wpOp P ops Q i K a w :=
 ZaZ hi fun o _ _ hd=>by rw[hrun,Oper.upon_value,hd];exact hK
theorem Zen (hi:Wl ops i=some (none,op,t,d))(hrun:(Zd a.eval op t).run P w=.ok .skip w')(hK:K (a.put d undef) w') : wpOp P ops Q i K a w :=
 ZaZ hi fun o _ _ hd=>by rw[hrun,Oper.upon_skip,hd];exact hK
theorem Zo {T:TypeId}{x:Operand}(hi:Wl ops i=some (none,.load T x,t,d))(p:Value)(hx:a.eval x=p)(v:Value)(hrun:(Instr.loadAt T p).run P w=.ok v w)(hK:K (a.put d v) w) : wpOp P ops Q i K a w :=
 ZB hi v (by simp[Zd,execOp,hx,hrun]) hK
theorem ZU {T:TypeId}{x y:Operand}(hi:Wl ops i=some (none,.indexAddr T x y,t,d))(p q:Value)(hx:a.eval x=p)(hy:a.eval y=q)(v:Value)(hrun:(Instr.indexAt T p q).run P w=.ok v w)(hK:K (a.put d v) w) : wpOp P ops Q i K a w :=
 ZB hi v (by simp[Zd,execOp,hx,hy,hrun]) hK
theorem Jt {T:TypeId}{x:Operand}(hi:Wl ops i=some (none,.buildSlice T 1 #[(0,x)],t,d))(p:Value)(hx:a.eval x=p)(v:Value)(hrun:(Instr.buildSlice T 1 #[(0,p)]).run P w=.ok v w')(hK:K (a.put d v) w') : wpOp P ops Q i K a w :=
 ZB hi v (by simp[Zd,execOp,hx,hrun]) hK
theorem Yo {T:TypeId}{x y:Operand}(hi:Wl ops i=some (none,.store T x y,t,d))(p v:Value)(hx:a.eval x=p)(hy:a.eval y=v)(hrun:(Instr.storeAt T p v).run P w=.ok () w')(hK:K (a.put d undef) w') : wpOp P ops Q i K a w :=
 Zen hi (by simp[Zd,execOp,hx,hy,hrun]) hK
theorem U4 {s x:Operand}{t1 t2:TypeId}(hi:Wl ops i=some (none,.call { callee:=.builtin .append,args:=#[s,x],argTypes:=#[t1,t2] },t,d))(p q:Value)(hs:a.eval s=p)(hx:a.eval x=q)(v:Value)(hrun:(Builtin.append_ #[t1,t2] t #[p,q]).run P w=.ok v w')(hK:K (a.put d v) w') : wpOp P ops Q i K a w :=
 ZB hi v (by simp[Zd,execOp,resolve,invoke,builtin,Sem.run_bind,Sem.run_pure,Result.andThen_ok,hs,hx,hrun]) hK
theorem Z7 {f:Nat}{xs:Array Operand}{ts:Array TypeId}(hi:Wl ops i=some (none,.call { callee:=.value (.func f),args:=xs,argTypes:=ts },t,d))(args:Array Value)(hf:(callFunc f args).run P w=.ok (.enter f args) w)(hargs:xs.map a.eval=args)(R:Ending->World->Prop)(hc:Calls P f args w R)(hK:∀ e w',R e w'->∃ v,e=.returned v/\K (a.put d v) w') : wpOp P ops Q i K a w :=
 ZaZ hi fun o _ _ hd=>by
  have e1:(Zd a.eval (.call { callee:=.value (.func f),args:=xs,argTypes:=ts }) t).run P w=.ok (.enter f args) w:=by
   simp[Zd,execOp,resolve,invoke,Sem.run_bind,Sem.run_pure,Result.andThen_ok,hargs,Deferred.ofValue,Act.eval,hf]
  rw[e1,Oper.upon_enter];refine hc.mono fun e w1 he=>?_
  obtain⟨v,rfl,hk⟩:=hK e w1 he;rw[hd];exact hk
theorem Za {md:Region.Mode}{listed:Array Bool}{n:Nat}{v:Value}(hi:Wl ops i=some (none,op,t,d))(hs:Region.noSelect ops=true)(hf:Region.free md ops listed i=true)(hr:(Region.ready md ops listed).contains i=true)
  (hQ:∀ c a w,Q (.panic c) (a.put d v) w->Q (.panic c) a w) (hy:∀ u,(Zd a.eval op t).run P u=.ok (.value v) u) (h:wpAny P md ops Q n (listed.setIfInBounds i true) (a.put d v) w):wpAny P md ops Q (n+1) listed a w:=by
 unfold Wl at hi;obtain⟨o,ho,he⟩:=Option.map_eq_some_iff.1 hi;simp only[Prod.mk.injEq] at he;obtain⟨h1,rfl,rfl,rfl⟩:=he;exact wpAny_take ho hs hf hr hQ (.inl ⟨by simp[Region.wanted,h1],hy⟩) h
theorem lay : (∀ (a:Act) (d:Option Nat) (v:Value),a.put d v=(match d with | some d=>{ a with tmps:=a.tmps.setIfInBounds d v } | none=>a))/\(∀ (l:List Value) (i:Nat) (v:Value),l.toArray.setIfInBounds i v=(l.set i v).toArray)/\(∀ (x:Value) (l:List Value) (v:Value),(x::l).set 0 v=v::l)/\(∀ (x:Value) (l:List Value) (i:Nat) (v:Value),(x::l).set (i+1) v=x::l.set i v):=⟨fun _ d _=>by cases d<;>rfl,fun _ _ _=>by simp,fun _ _ _=>rfl,fun _ _ _ _=>rfl⟩
theorem Xj {md:Region.Mode}{listed:Array Bool}{n:Nat}{g:Nat×Bool}{b:Bool}(hi:Wl ops i=some (some g,op,t,d))(hs:Region.noSelect ops=true)(hf:Region.free md ops listed i=true)(hr:(Region.ready md ops listed).contains i=true)
  (hQ:∀ c a w,Q (.panic c) (a.put d undef) w->Q (.panic c) a w) (hg:yielded ops a.tmps g.1=some b) (hb:(b != g.2)=true) (h:wpAny P md ops Q n (listed.setIfInBounds i true) (a.put d undef) w):wpAny P md ops Q (n+1) listed a w:=by
 unfold Wl at hi;obtain⟨o,ho,he⟩:=Option.map_eq_some_iff.1 hi;simp only[Prod.mk.injEq] at he;obtain⟨h1,rfl,rfl,rfl⟩:=he;refine wpAny_take ho hs hf hr hQ (.inr ⟨?_,rfl⟩) h;obtain⟨g1,g2⟩:=g;simp only at hg hb
 cases b<;>cases g2<;>simp_all[Region.wanted]
theorem Zh {md:Region.Mode}{listed:Array Bool}{n:Nat}(i:Nat)(h1:Region.ready md ops listed=[i])(h:wpOp P ops Q i (wpAny P md ops Q n (listed.setIfInBounds i true)) a w) : wpAny P md ops Q (n+1) listed a w :=
 ⟨fun h0=>absurd (h1.symm.trans h0) (by simp),fun j hj=>by
  rw[h1] at hj;obtain rfl:j=i:=by simpa using hj
  exact h⟩
end
theorem RdI.drop {w:World}{A:Option Addr}{xs:List Int}{c lo:Nat}(h:RdI w A xs)(h1:lo<=xs.length)(h2:xs.length<=c) : RdI w (if c=lo then A else A.map (·.add (lo*1))) (xs.drop lo):=by
 by_cases hc:c=lo
 ·left
  exact List.drop_of_length_le (by omega)
 ·rw[if_neg hc]
  rcases h with rfl | ⟨b,off,rfl,hb,hcc⟩
  ·left;simp
  ·refine .inr ⟨b,off+lo,by simp[Addr.add],hb,fun j x hj=>?_⟩
   rw[List.getElem?_drop] at hj;have:=hcc (lo+j) x hj
   rwa [<-Nat.add_assoc] at this
theorem Ints.drop {xs:List Int}(h:Ints xs)(n:Nat) : Ints (xs.drop n):=fun x hx=>h x (List.mem_of_mem_drop hx)
end Go.Proofs.YtmojhhlcocjoaaaGreatDoor
namespace Go.Proofs.YtmojhhlcocjoaaaGreatDoor
open Go.RowKit Go.ChangeShapes Go.WideShapes Go.ChangeAt Go.Deep
structure InstP where
 kind:Int
 n:Int
 cap:Int
 weight:List Int
 value:List Int
 cost:List (List Int)
def RInst (w:World)(vs:List Value)(i:InstP) : Prop:=∃ (A:Option Addr) (a:Nat) (B:Option Addr) (b:Nat) (C:Option Addr) (c:Nat),
 vs=[.int .i64 i.kind,.int .i64 i.n,.int .i64 i.cap,.slice A i.weight.length a,.slice B i.value.length b,.slice C i.cost.length c] /\
 (RdI w A i.weight/\Ints i.weight/\i.weight.length<=a/\a<=maxLen)/\(RdI w B i.value/\Ints i.value/\i.value.length<=b/\b<=maxLen)/\(RdE 1 RInts w C i.cost/\i.cost.length<=c/\c<=maxLen)
theorem RInst.ext {w w':World}{vs:List Value}{i:InstP}(h:RInst w vs i)(x:Ext w w') : RInst w' vs i:=by
 obtain⟨A,a,B,b,C,c,rfl,⟨h1,h2⟩,⟨h3,h4⟩,⟨h5,h6⟩⟩:=h;exact⟨A,a,B,b,C,c,rfl,⟨h1.ext x,h2⟩,⟨h3.ext x,h4⟩,⟨h5.ext x fun _ _ h=>h.ext x,h6⟩⟩
def Zdo (i:InstP) : Prop:=(-9223372036854775808<=i.kind/\i.kind<=9223372036854775807)/\(-9223372036854775808<=i.n/\i.n<=9223372036854775807)/\(-9223372036854775808<=i.cap/\i.cap<=9223372036854775807)
section
variable {H:Type} {enc:TypeId×Value->H} {W:World}
theorem Za0 : Tryz.prog.cellsOf 25=6:=by kernel_rfl
theorem U5 : Tryz.prog.cellsOf 22=1:=by kernel_rfl
theorem Zcb : Tryz.prog.cellsOf 23=1:=by kernel_rfl
theorem Zcc {base:Nat}{v:Value}{d:DataW H}{p:List MemPlace}(hd:DataW.Trod enc Tryz.prog W 0 (fun _=>true) true 25 v d p)(hv:Value.okWide Tryz.prog W .any base 25 v) :
  ∃ vs i,v=.agg (List.toArray vs)/\RInst W vs i/\Zdo i:=by
 obtain⟨cs,rfl,hsz⟩:=okWide_struct Tryz.underlying25 hv;rw[Za0] at hsz;obtain⟨l⟩:=cs
 match l,hsz with
 | [c0,c1,c2,c3,c4,c5],_ =>
  obtain⟨fuel,h⟩:=hd;obtain⟨n0,y0,h0⟩:=XU Tryz.underlying25 h 0 3 0 1 rfl Vb;obtain⟨n1,y1,h1⟩:=XU Tryz.underlying25 h 1 3 1 1 rfl Vb;obtain⟨n2,y2,h2⟩:=XU Tryz.underlying25 h 2 3 2 1 rfl Vb;obtain⟨n3,y3,h3⟩:=XU Tryz.underlying25 h 3 22 3 1 rfl U5;obtain⟨n4,y4,h4⟩:=XU Tryz.underlying25 h 4 22 4 1 rfl U5;obtain⟨n5,y5,h5⟩:=XU Tryz.underlying25 h 5 23 5 1 rfl Zcb;obtain⟨x0,e0,b0⟩:=Ve _ _ _ h0;obtain⟨x1,e1,b1⟩:=Ve _ _ _ h1;obtain⟨x2,e2,b2⟩:=Ve _ _ _ h2;obtain⟨l3,A3,a3,e3,r3⟩:=Vs _ _ _ h3;obtain⟨l4,A4,a4,e4,r4⟩:=Vs _ _ _ h4;obtain⟨A5,l5,a5,e5,r5⟩:=Zdj Tryz.underlying23 U5 (by omega) Vs h5
  injection e0 with e0
  injection e1 with e1
  injection e2 with e2
  injection e3 with e3
  injection e4 with e4
  injection e5 with e5
  subst e0 e1 e2 e3 e4 e5;exact⟨_,⟨x0,x1,x2,l3,l4,l5⟩,rfl,⟨A3,a3,A4,a4,A5,a5,rfl,r3,r4,r5⟩,b0,b1,b2⟩
end
end Go.Proofs.YtmojhhlcocjoaaaGreatDoor
namespace Go.Proofs.YtmojhhlcocjoaaaGreatDoor
open Go.RowKit
section
variable {P:Program} {ops:Array Oper} {Q:Exit->Act->World->Prop}
theorem ZM (rem:List (Nat×Option Tmp))(R:World->Prop)(V:Nat->Value->World->Prop)(Stab:World->World->Prop){listed0:Array Bool}(listed1:Array Bool)(hok:Wk ops listed0 listed1 rem=true)
  (stab:∀ j v w w',V j v w->Stab w w'->V j v w')
  {a0:Act}
  (step:∀ p∈rem,∀ u w,R w->(∀ j∈Xf ops rem p.1,V j (u j) w)->∀ K:Act->World->Prop,(∀ v w',V p.1 v w'->R w'->Stab w w'->K ((Zj a0 rem u).put p.2 v) w')->wpOp P ops Q p.1 K (Zj a0 rem u) w)
  (n:Nat) (done:∀ u w,R w->(∀ p∈rem,V p.1 (u p.1) w)->wpAny P .any ops Q n listed1 (Zj a0 rem u) w) {w0:World} (hR:R w0) :
  wpAny P .any ops Q (rem.length+n) listed0 a0 w0 :=
 Xr rem R V Stab listed1 hok stab step n done hR
end
end Go.Proofs.YtmojhhlcocjoaaaGreatDoor
namespace Go.Proofs.YtmojhhlcocjoaaaGreatDoor
open Go.RowKit Go.ChangeShapes Go.WideShapes Go.ChangeAt Go.Deep
def Zeo (xs:List Int)(n:Nat)(w:World)(e:Ending)(w':World) : Prop:=∃ A c,e=.returned (.slice A (xs.take n).length c)/\OwI w' w.heap.size A c (xs.take n)/\Ext w w'
theorem Zep (A:Option Addr)(c:Nat)(xs:List Int)(w:World)(hx:RdI w A xs)(ix:Ints xs)(lx:xs.length<=c)(lc:c<=maxLen) :
  Calls Tryz.prog 46 #[.slice A xs.length c] w (Zeo xs 70 w):=by
 unfold maxLen at lc;obtain⟨ps,hp,ip,lp,lp',kp,ep⟩:=Zel 70 hx ix;simp only[Int.cast_ofNat_Int] at ep;have lpd:ps.length<=c:=by omega
 replace hp:=Hd hp;clear hx ix;go_enter Tryz.func46,Tryz.ntmps46;go_wp2_with (at_builtin;refine ZaW _ rfl _ _ rfl w.heap.size _ ps A c rfl rfl ?_ ?_ ?_ ?_ ?_;(first | exact .new (by simp) | exact .drew (.new (by simp)) | exact .alloc (.new (by simp)) _ | exact .drew (.alloc (.new (by simp)) _) | exact .alloc (.alloc (.new (by simp)) _) _ | exact .drew (.alloc (.alloc (.new (by simp)) _) _) | (repeat (first | assumption | (refine Blk.new ?_;(focus (simp;done))) | apply Blk.drew | apply Blk.drewN | apply Blk.alloc)));(first | exact Nat.le_refl _ | omega | (focus (simp;try omega)));(refine hp.out.ext ?_;(repeat (first | assumption | exact Ext.rf _ | apply Ext.drew | apply Ext.drewN | apply Ext.alloc)));omega;rintro A7 c7 w7 o7 x7;have y7:=Ext.tr (a:=w) (by(repeat (first | assumption | exact Ext.rf _ | apply Ext.drew | apply Ext.drewN | apply Ext.alloc))) x7);have kq:=kp.out;exact bodyPost_ret (v:=.slice A7 ps.length c7) (by simp[results,Tryz.results46,go_sem]) rfl ⟨A7,c7,by rw[<-kq],by rw[<-kq];exact o7,y7⟩
def RowsO (w:World)(base:Nat)(us:List Value)(rows:List (List Int)) : Prop :=
 us.length=rows.length/\∀ (i:Nat) (r:List Int),rows[i]?=some r->∃ (A:Option Addr) (c:Nat),us[i]?=some (.slice A r.length c)/\OwI w base A c r
section
variable {w w':World} {base:Nat} {us:List Value} {rows:List (List Int)}
theorem RowsO.nil (w:World)(base:Nat) : RowsO w base [] []:=⟨rfl,fun i r h=>by simp at h⟩
theorem RowsO.ext (h:RowsO w base us rows)(hx:Ext w w') : RowsO w' base us rows :=
 ⟨h.1,fun i r hr=>by obtain⟨A,c,h1,h3⟩:=h.2 i r hr;exact⟨A,c,h1,h3.ext hx⟩⟩
theorem RowsO.more {base':Nat}(h:RowsO w base us rows)(hb:base'<=base) : RowsO w base' us rows :=
 ⟨h.1,fun i r hr=>by obtain⟨A,c,h1,h3⟩:=h.2 i r hr;exact⟨A,c,h1,h3.more hb⟩⟩
theorem RowsO.modT {base':Nat}{ts:List TypeId}(h:RowsO w base us rows)(k:ModT base' ts w w')(ht:3∉ts) : RowsO w' base us rows :=
 ⟨h.1,fun i r hr=>by obtain⟨A,c,h1,h3⟩:=h.2 i r hr;exact⟨A,c,h1,h3.modT k ht⟩⟩
theorem RowsO.snoc (h:RowsO w base us rows){r:List Int}{A:Option Addr}{c:Nat}(ho:OwI w base A c r) : RowsO w base (us++[.slice A r.length c]) (rows++[r]):=by
 obtain⟨h1,h2⟩:=h;refine⟨by simp[h1],fun i q hq=>?_⟩
 by_cases hi:i<rows.length
 ·rw[List.getElem?_append_left hi] at hq
  obtain⟨A',c',q1,q3⟩:=h2 i q hq;exact⟨A',c',by rw[List.getElem?_append_left (by omega)];exact q1,q3⟩
 ·rw[List.getElem?_append_right (by omega)] at hq
  obtain⟨h0,hq⟩:=List.getElem?_eq_some_iff.1 hq;have:i=rows.length:=by simp at h0;omega
  subst this;simp at hq;subst hq;exact⟨A,c,by rw[List.getElem?_append_right (by omega),h1];simp,ho⟩
end
def RowsD (us:List Value) : Prop:=∀ (i j:Nat) (vi vj:Value),i<j->us[i]?=some vi->us[j]?=some vj->∀ b,vi.ownBlock=some b->vj.ownBlock≠some b
theorem RowsD.nil : RowsD []:=fun i j vi vj _ h=>by simp at h
theorem RowsD.snoc {w W:World}{base:Nat}{us:List Value}{rows:List (List Int)}{A:Option Addr}{c:Nat}{r:List Int}(h:RowsD us)(hR:RowsO w base us rows)(ho:OwI W w.heap.size A c r) : RowsD (us++[.slice A r.length c]):=by
 intro i j vi vj hij hi hj b hb e
 by_cases hjl:j<us.length
 ·rw[List.getElem?_append_left hjl] at hj
  rw[List.getElem?_append_left (by omega)] at hi;exact h i j vi vj hij hi hj b hb e
 ·rw[List.getElem?_append_right (by omega)] at hj
  obtain⟨h0,hj⟩:=List.getElem?_eq_some_iff.1 hj;have hj':j=us.length:=by simp at h0;omega
  subst hj';simp at hj;subst hj;rw[List.getElem?_append_left hij] at hi;obtain⟨r',hr'⟩:∃ r',rows[i]?=some r':=⟨rows[i]'(by rw[<-hR.1];exact hij),List.getElem?_eq_getElem _⟩;obtain⟨A',c',q1,q2⟩:=hR.2 i r' hr';rw[hi] at q1;obtain rfl:=Option.some.inj q1;rw[YY] at hb e;have h1:=(q2.lt b hb).2;have h2:=(ho.lt b e).1;omega
theorem OwV.grownT {w w':World}{base size n c:Nat}{E:TypeId}{A:Option Addr}{xs:List Value}(h:OwV w base E size A n c xs)(hg:w.grownBy w' (bl A)) : ModT base [E] w w':=by
 refine Mod.grown hg fun g hA=>?_
 rcases h.cases with⟨rfl,_⟩ | ⟨g',cur,rfl,hb,hh,_⟩
 ·simp[bl] at hA
 ·simp[bl] at hA
  subst hA;exact⟨hb,cur,_,hh,by simp⟩
theorem Zg {W W':World}(x:Ext W W'){b o:Nat}{v:Value}(hb:b<W.heap.size)(hc:W.cell? ⟨b,o,none⟩=some v) : W'.cell? ⟨b,o,none⟩=some v:=(x.cells.1 _ o hb).trans hc
def InstO (w:World)(base:Nat)(vs:List Value)(i:InstP) : Prop:=∃ (A:Option Addr) (a:Nat) (B:Option Addr) (b:Nat) (C:Option Addr) (c:Nat) (us:List Value),
 vs=[.int .i64 i.kind,.int .i64 i.n,.int .i64 i.cap,.slice A i.weight.length a,.slice B i.value.length b,.slice C i.cost.length c] /\
 OwI w base A a i.weight/\OwI w base B b i.value/\OwV w base 22 1 C i.cost.length c us/\RowsO w base us i.cost
def InstOD (w:World)(base:Nat)(vs:List Value)(i:InstP) : Prop:=∃ (A:Option Addr) (a:Nat) (B:Option Addr) (b:Nat) (C:Option Addr) (c:Nat) (us:List Value),
 vs=[.int .i64 i.kind,.int .i64 i.n,.int .i64 i.cap,.slice A i.weight.length a,.slice B i.value.length b,.slice C i.cost.length c] /\
 OwI w base A a i.weight/\OwI w base B b i.value/\OwV w base 22 1 C i.cost.length c us/\RowsO w base us i.cost/\RowsD us
theorem InstOD.o {w:World}{base:Nat}{vs:List Value}{i:InstP}(h:InstOD w base vs i) : InstO w base vs i:=by
 obtain⟨A,a,B,b,C,c,us,h1,h2,h3,h4,h5,_⟩:=h;exact⟨A,a,B,b,C,c,us,h1,h2,h3,h4,h5⟩
def Za1 (r:List Int) : List Int:=r.take 70
def XE (rows:List (List Int))(k:Nat) : List (List Int):=(rows.take k).map Za1
theorem Zcd {rows:List (List Int)}{k:Nat}(hk:k<=rows.length) : (XE rows k).length=k:=by simp[XE];omega
theorem Za2 {rows:List (List Int)}{k:Nat}{r:List Int}(h:rows[k]?=some r) : XE rows (k+1)=XE rows k++[Za1 r]:=by
 obtain⟨hk,h⟩:=List.getElem?_eq_some_iff.1 h;rw[XE,XE,List.take_succ_eq_append_getElem hk,List.map_append,h]
 rfl
def XG (i:InstP) : InstP:=⟨i.kind,i.n,i.cap,i.weight.take 70,i.value.take 70,XE i.cost (min i.cost.length 30)⟩
def QS (i:InstP)(w:World)(e:Ending)(w':World) : Prop:=∃ vs,e=.returned (.agg (List.toArray vs))/\InstOD w' w.heap.size vs (XG i)/\Ext w w'
def Zdp (i:InstP)(w:World)(e:Ending)(w':World) : Prop:=∃ vs,e=.returned (.agg (List.toArray vs))/\InstO w' w.heap.size vs (XG i)/\Ext w w'
section
variable {P:Program} {ops:Array Oper} {i:Nat} {op:Op} {t:TypeId} {d:Option Tmp} {a:Act} {w w':World} {K:Act->World->Prop} {Q:Exit->Act->World->Prop}
theorem Zeq {T:TypeId}{x0 x1 x2 x3 x4:Operand}(hi:Wl ops i=some (none,.build T #[(0,x0),(1,x1),(2,x2),(3,x3),(4,x4)],t,d))(p0 p1 p2 p3 p4:Value)(h0:a.eval x0=p0)(h1:a.eval x1=p1)(h2:a.eval x2=p2)(h3:a.eval x3=p3)(h4:a.eval x4=p4)(v:Value)(hrun:(Instr.build T #[(0,p0),(1,p1),(2,p2),(3,p3),(4,p4)]).run P w=.ok v w')(hK:K (a.put d v) w') : wpOp P ops Q i K a w :=
 ZB hi v (by simp[Zd,execOp,h0,h1,h2,h3,h4,hrun]) hK
end
theorem Zer {w:World}{g base:Nat}{t:TypeId}{a0 a1 a2 a3 a4 a5:Value}(h:Blk w g t #[a0,a1,a2,a3,a4,a5])(hb:base<=g)(u0 u1 u2 u3 u4 u5:Value) :
  Blk ((((((w.setCell ⟨g,0,none⟩ u0).setCell ⟨g,1,none⟩ u1).setCell ⟨g,2,none⟩ u2).setCell ⟨g,3,none⟩ u3).setCell ⟨g,4,none⟩ u4).setCell ⟨g,5,none⟩ u5) g t #[u0,u1,u2,u3,u4,u5] /\
  ModT base [t] w ((((((w.setCell ⟨g,0,none⟩ u0).setCell ⟨g,1,none⟩ u1).setCell ⟨g,2,none⟩ u2).setCell ⟨g,3,none⟩ u3).setCell ⟨g,4,none⟩ u4).setCell ⟨g,5,none⟩ u5):=by
 have h0:=h.set 0 u0;have h1:=h0.set 1 u1;have h2:=h1.set 2 u2;have h3:=h2.set 3 u3;have h4:=h3.set 4 u4;have h5:=h4.set 5 u5;exact⟨h5,(((((ModT.set w h (by simp) hb 0 u0).tr (ModT.set _ h0 (by simp) hb 1 u1)).tr (ModT.set _ h1 (by simp) hb 2 u2)).tr (ModT.set _ h2 (by simp) hb 3 u3)).tr (ModT.set _ h3 (by simp) hb 4 u4)).tr (ModT.set _ h4 (by simp) hb 5 u5)⟩
theorem U6 : (Tryz.prog.info? 22).map (fun i=>(i.zero,i.size,i.bytes))=some (some (.slice none 0 0),1,24):=by kernel_rfl
def Zdq (ys:List Int)(w:World)(e:Ending)(w':World) : Prop:=∃ A c,e=.returned (.slice A ys.length c)/\OwI w' w.heap.size A c ys/\Ext w w'
theorem U7 {xs ys:List Int}(h:ys=xs.take 70)(A:Option Addr)(c:Nat)(w:World)(hx:RdI w A xs)(ix:Ints xs)(lx:xs.length<=c)(lc:c<=maxLen) :
  Calls Tryz.prog 46 #[.slice A xs.length c] w (Zdq ys w):=by subst h;exact Zep A c xs w hx ix lx lc
theorem Zce (vs:List Value)(i:InstP)(w:World)(H:RInst w vs i) :
  Calls Tryz.prog 17 #[.agg (List.toArray vs)] w (QS i w):=by
 obtain⟨A,a,B,b,C,c,rfl,⟨rA,iA,lA,mA⟩,⟨rB,iB,lB,mB⟩,⟨rC,lC,mC⟩⟩:=H;obtain⟨xw,exw⟩:∃ xw:List Int,Hid (xw=i.weight.take 70):=⟨_,rfl⟩;obtain⟨xv,exv⟩:∃ xv:List Int,Hid (xv=i.value.take 70):=⟨_,rfl⟩;obtain⟨i0,hi,hz0,hz1,hz2⟩:=info_parts U6;replace hi:=Hd hi;replace hz0:=Hd hz0;replace hz1:=Hd hz1;replace hz2:=Hd hz2;have X:Ext w ((w.alloc (.cells #[.int .i64 i.kind,.int .i64 i.n,.int .i64 i.cap,.slice A i.weight.length a,.slice B i.value.length b,.slice C i.cost.length c] 25)).alloc (.cells #[.int .i64 0,.int .i64 0,.int .i64 0,.slice none 0 0,.slice none 0 0,.slice none 0 0] 25)):=((Ext.rf _).alloc _).alloc _;have B1:Blk ((w.alloc (.cells #[.int .i64 i.kind,.int .i64 i.n,.int .i64 i.cap,.slice A i.weight.length a,.slice B i.value.length b,.slice C i.cost.length c] 25)).alloc (.cells #[.int .i64 0,.int .i64 0,.int .i64 0,.slice none 0 0,.slice none 0 0,.slice none 0 0] 25)) w.heap.size 25 #[.int .i64 i.kind,.int .i64 i.n,.int .i64 i.cap,.slice A i.weight.length a,.slice B i.value.length b,.slice C i.cost.length c]:=.alloc (.new rfl) _;have B2:Blk ((w.alloc (.cells #[.int .i64 i.kind,.int .i64 i.n,.int .i64 i.cap,.slice A i.weight.length a,.slice B i.value.length b,.slice C i.cost.length c] 25)).alloc (.cells #[.int .i64 0,.int .i64 0,.int .i64 0,.slice none 0 0,.slice none 0 0,.slice none 0 0] 25)) (w.heap.size+1) 25 #[.int .i64 0,.int .i64 0,.int .i64 0,.slice none 0 0,.slice none 0 0,.slice none 0 0]:=.new (by simp);replace X:=Hd X;replace B1:=Hd B1;replace B2:=Hd B2;replace rA:=Hd rA;replace rB:=Hd rB;replace rC:=Hd rC;replace iA:=Hd iA;replace iB:=Hd iB;replace mA:=Hd mA;replace mB:=Hd mB;replace mC:=Hd mC;go_enter Tryz.func17,Tryz.ntmps17;go_wp2_with (fail);generalize (w.alloc (.cells #[.int .i64 i.kind,.int .i64 i.n,.int .i64 i.cap,.slice A i.weight.length a,.slice B i.value.length b,.slice C i.cost.length c] 25)).alloc (.cells #[.int .i64 0,.int .i64 0,.int .i64 0,.slice none 0 0,.slice none 0 0,.slice none 0 0] 25)=wr at *;have z1:=B1.out.lt;have zw:=X.out.size;refine wp_region_any (by kernel_rfl) ?_
 change wpAny _ _ _ _ _ _ _ (World.drew _)
 refine Za (i:=0) (op:=Op.fieldAddr 25 (Operand.tmp 1) 0) (t:=0) (d:=some 5) (v:=?_) rfl (by decide +kernel) (by decide +kernel) (by decide +kernel) (fun _ _ _ h=>h) ?_ ?_
 case refine_2=>(intro _;unfold Zd;go_simp;try with_reducible rfl)
 try simp only[lay]
 refine Za (i:=2) (op:=Op.fieldAddr 25 (Operand.tmp 1) 1) (t:=0) (d:=some 7) (v:=?_) rfl (by decide +kernel) (by decide +kernel) (by decide +kernel) (fun _ _ _ h=>h) ?_ ?_
 case refine_2=>(intro _;unfold Zd;go_simp;try with_reducible rfl)
 try simp only[lay]
 refine Za (i:=4) (op:=Op.fieldAddr 25 (Operand.tmp 1) 2) (t:=0) (d:=some 9) (v:=?_) rfl (by decide +kernel) (by decide +kernel) (by decide +kernel) (fun _ _ _ h=>h) ?_ ?_
 case refine_2=>(intro _;unfold Zd;go_simp;try with_reducible rfl)
 try simp only[lay]
 refine Za (i:=6) (op:=Op.fieldAddr 25 (Operand.tmp 1) 3) (t:=0) (d:=some 11) (v:=?_) rfl (by decide +kernel) (by decide +kernel) (by decide +kernel) (fun _ _ _ h=>h) ?_ ?_
 case refine_2=>(intro _;unfold Zd;go_simp;try with_reducible rfl)
 try simp only[lay]
 refine Za (i:=9) (op:=Op.fieldAddr 25 (Operand.tmp 1) 4) (t:=0) (d:=some 14) (v:=?_) rfl (by decide +kernel) (by decide +kernel) (by decide +kernel) (fun _ _ _ h=>h) ?_ ?_
 case refine_2=>(intro _;unfold Zd;go_simp;try with_reducible rfl)
 try simp only[lay]
 refine Xr (n:=1) [(1,some 6),(3,some 8),(5,some 10),(7,some 12),(8,some 13),(10,some 15),(11,some 16),(12,some 17),(13,some 3)] (Ext wr)
  (VF (fun | 1=>some (.int .i64 i.kind) | 3=>some (.int .i64 i.n) | 5=>some (.int .i64 i.cap) | 7=>some (.slice A i.weight.length a) | 10=>some (.slice B i.value.length b) | _=>none)
   (fun j v W=>(j=8->∃ A' c',v=.slice A' xw.length c'/\OwI W wr.heap.size A' c' xw)/\(j=11->∃ A' c',v=.slice A' xv.length c'/\OwI W wr.heap.size A' c' xv)/\(j=12->∃ A' c' B' d',v=.agg #[.int .i64 i.kind,.int .i64 i.n,.int .i64 i.cap,.slice A' xw.length c',.slice B' xv.length d',.slice none 0 0]/\OwI W wr.heap.size A' c' xw/\OwI W wr.heap.size B' d' xv)/\(j=13->∃ h,v=.pointer (some ⟨h,0,none⟩)/\wr.heap.size<=h/\Blk W h 25 #[.int .i64 0,.int .i64 0,.int .i64 0,.slice none 0 0,.slice none 0 0,.slice none 0 0])))
  Ext #[true,true,true,true,true,true,true,true,true,true,true,true,true,true,false] (by kernel_rfl) (VF.stab ?_) ?_ ?_ ((Ext.rf _).drew)
 ·intro j v W W' _ ⟨g8,g11,g12,g13⟩ hx
  refine⟨fun h=>?_,fun h=>?_,fun h=>?_,fun h=>?_⟩
  ·obtain⟨A',c',q1,q2⟩:=g8 h
   exact⟨A',c',q1,q2.ext hx⟩
  ·obtain⟨A',c',q1,q2⟩:=g11 h
   exact⟨A',c',q1,q2.ext hx⟩
  ·obtain⟨A',c',B',d',q1,q2,q3⟩:=g12 h
   exact⟨A',c',B',d',q1,q2.ext hx,q3.ext hx⟩
  ·obtain⟨hh,q1,q2,q3⟩:=g13 h
   exact⟨hh,q1,q2,q3.ext hx⟩
 ·intro pq hpm u w2 hRW hD K hK
  have b2:=B1.out.ext hRW;have r0:=b2.c0;have r1:=b2.c1;have r2:=b2.c2;have r3:=b2.c3;have r4:=b2.c4;have z2:=hRW.size;have xe:=X.out.tr hRW;simp only[List.mem_cons,List.not_mem_nil,or_false] at hpm;rcases hpm with rfl | rfl | rfl | rfl | rfl | rfl | rfl | rfl | rfl
  ·exact Zo (T:=3) rfl (.pointer (some ⟨w.heap.size,0,none⟩)) (by kernel_rfl) (.int .i64 i.kind) (by go_simp) (hK _ _ (VF.mk rfl) hRW (Ext.rf _))
  ·exact Zo (T:=3) rfl (.pointer (some ⟨w.heap.size,1,none⟩)) (by kernel_rfl) (.int .i64 i.n) (by go_simp) (hK _ _ (VF.mk rfl) hRW (Ext.rf _))
  ·exact Zo (T:=3) rfl (.pointer (some ⟨w.heap.size,2,none⟩)) (by kernel_rfl) (.int .i64 i.cap) (by go_simp) (hK _ _ (VF.mk rfl) hRW (Ext.rf _))
  ·exact Zo (T:=22) rfl (.pointer (some ⟨w.heap.size,3,none⟩)) (by kernel_rfl) (.slice A i.weight.length a) (by go_simp) (hK _ _ (VF.mk rfl) hRW (Ext.rf _))
  ·refine Z7 rfl #[.slice A i.weight.length a] (by go_simp) (Eq.trans (b:=#[u 7]) (by kernel_rfl) (by rw[(hD 7 (Zm (by kernel_rfl))).k rfl])) _ (U7 exw.out A a w2 (rA.out.ext xe) iA.out lA mA.out) ?_
   rintro e w3 ⟨A3,c3,rfl,o3,x3⟩;exact⟨_,rfl,hK _ _ (VF.mg rfl ⟨fun _=>⟨A3,c3,rfl,o3.more z2⟩,(fun h=>by cases h),(fun h=>by cases h),(fun h=>by cases h)⟩) (hRW.tr x3) x3⟩
  ·exact Zo (T:=22) rfl (.pointer (some ⟨w.heap.size,4,none⟩)) (by kernel_rfl) (.slice B i.value.length b) (by go_simp) (hK _ _ (VF.mk rfl) hRW (Ext.rf _))
  ·refine Z7 rfl #[.slice B i.value.length b] (by go_simp) (Eq.trans (b:=#[u 10]) (by kernel_rfl) (by rw[(hD 10 (Zm (by kernel_rfl))).k rfl])) _ (U7 exv.out B b w2 (rB.out.ext xe) iB.out lB mB.out) ?_
   rintro e w3 ⟨A3,c3,rfl,o3,x3⟩;exact⟨_,rfl,hK _ _ (VF.mg rfl ⟨(fun h=>by cases h),fun _=>⟨A3,c3,rfl,o3.more z2⟩,(fun h=>by cases h),(fun h=>by cases h)⟩) (hRW.tr x3) x3⟩
  ·have h1:=(hD 1 (Zm (by kernel_rfl))).k rfl
   have h3:=(hD 3 (Zm (by kernel_rfl))).k rfl;have h5:=(hD 5 (Zm (by kernel_rfl))).k rfl;obtain⟨A3,c3,h8,o8⟩:=((hD 8 (Zm (by kernel_rfl))).g rfl).1 rfl;obtain⟨B3,d3,h11,o11⟩:=((hD 11 (Zm (by kernel_rfl))).g rfl).2.1 rfl;exact Zeq rfl _ _ _ _ _ (Eq.trans (b:=u 1) (by kernel_rfl) h1) (Eq.trans (b:=u 3) (by kernel_rfl) h3) (Eq.trans (b:=u 5) (by kernel_rfl) h5) (Eq.trans (b:=u 8) (by kernel_rfl) h8) (Eq.trans (b:=u 11) (by kernel_rfl) h11) (.agg #[.int .i64 i.kind,.int .i64 i.n,.int .i64 i.cap,.slice A3 xw.length c3,.slice B3 xv.length d3,.slice none 0 0]) (by go_simp) (hK _ _ (VF.mg rfl ⟨(fun h=>by cases h),(fun h=>by cases h),fun _=>⟨A3,c3,B3,d3,rfl,o8,o11⟩,(fun h=>by cases h)⟩) hRW (Ext.rf _))
  ·refine ZB rfl (.pointer (some ⟨w2.heap.size,0,none⟩)) (w':=w2.alloc (.cells #[.int .i64 0,.int .i64 0,.int .i64 0,.slice none 0 0,.slice none 0 0,.slice none 0 0] 25)) ?_ (hK _ _ (VF.mg rfl ⟨(fun h=>by cases h),(fun h=>by cases h),(fun h=>by cases h),fun _=>⟨_,rfl,z2,.new rfl⟩⟩) (hRW.alloc _) ((Ext.rf _).alloc _))
   unfold Zd;go_simp
 ·intro u w3 hRW hV
  have h1:=(hV (1,some 6) (by simp)).k rfl;have h3:=(hV (3,some 8) (by simp)).k rfl;have h5:=(hV (5,some 10) (by simp)).k rfl;have h7:=(hV (7,some 12) (by simp)).k rfl;have h10:=(hV (10,some 15) (by simp)).k rfl;obtain⟨_,_,h8,_⟩:=((hV (8,some 13) (by simp)).g rfl).1 rfl;obtain⟨_,_,h11,_⟩:=((hV (11,some 16) (by simp)).g rfl).2.1 rfl;obtain⟨A3,c3,B3,d3,h12,o8,o11⟩:=((hV (12,some 17) (by simp)).g rfl).2.2.1 rfl;obtain⟨h,h13,zh,b13⟩:=((hV (13,some 3) (by simp)).g rfl).2.2.2 rfl;simp only[Zj,h1,h3,h5,h7,h8,h10,h11,h12,h13];have t0:=b13.c0;have t1:=b13.c1;have t2:=b13.c2;have t3:=b13.c3;have t4:=b13.c4;have t5:=b13.c5;have f0:=b13.free 0;have f1:=b13.free 1;have f2:=b13.free 2;have f3:=b13.free 3;have f4:=b13.free 4;have f5:=b13.free 5;replace b13:=Hd b13;replace o8:=Hd o8;replace o11:=Hd o11;clear h1 h3 h5 h7 h8 h10 h11 h12 h13 hV;refine Zh 14 (by kernel_rfl) (Yo rfl (.pointer (some ⟨h,0,none⟩)) (.agg #[.int .i64 i.kind,.int .i64 i.n,.int .i64 i.cap,.slice A3 xw.length c3,.slice B3 xv.length d3,.slice none 0 0]) (by kernel_rfl) (by kernel_rfl) (by go_simp;rfl) ?_);refine wpAny_done (by kernel_rfl) ?_ _;obtain⟨b14,M14⟩:=Zer b13.out (base:=wr.heap.size) zh (.int .i64 i.kind) (.int .i64 i.n) (.int .i64 i.cap) (.slice A3 xw.length c3) (.slice B3 xv.length d3) (.slice none 0 0);have FIN:=Hd (And.intro b14 (And.intro (o8.out.modT M14 (by decide)) (And.intro (o11.out.modT M14 (by decide)) (hRW.modT M14 (Nat.le_refl _)))));clear b14 M14 t0 t1 t2 t3 t4 t5 f0 f1 f2 f3 f4 f5 b13 o8 o11 hRW;generalize ((((((w3.setCell ⟨h,0,none⟩ (.int .i64 i.kind)).setCell ⟨h,1,none⟩ (.int .i64 i.n)).setCell ⟨h,2,none⟩ (.int .i64 i.cap)).setCell ⟨h,3,none⟩ (.slice A3 xw.length c3)).setCell ⟨h,4,none⟩ (.slice B3 xv.length d3)).setCell ⟨h,5,none⟩ (.slice none 0 0))=w5 at FIN ⊢;go_simp;obtain⟨b3,o8,o11,x3⟩:=FIN.out;clear FIN;obtain⟨w3,rfl⟩:∃ w3:World,w3=w5:=⟨_,rfl⟩;have B1':=Hd (B1.out.ext x3);have B2':=Hd (B2.out.ext x3);have X3:=Hd (X.out.tr x3);have zx:=x3.size;have zb2:=B2.out.lt;replace b3:=Hd b3;replace o8:=Hd (o8.more zw);replace o11:=Hd (o11.more zw);clear X B1 B2 x3 rA rB iA iB mA mB;go_wp2_with (fail);go_loopw [4] (fun v wq=>∃ (k:Nat) (C':Option Addr) (cc:Nat) (us:List Value),v=.int .i64 k/\k<=i.cost.length/\k<=30/\Hid (Blk wq h 25 #[.int .i64 i.kind,.int .i64 i.n,.int .i64 i.cap,.slice A3 xw.length c3,.slice B3 xv.length d3,.slice C' k cc])/\Hid (Blk wq w.heap.size 25 #[.int .i64 i.kind,.int .i64 i.n,.int .i64 i.cap,.slice A i.weight.length a,.slice B i.value.length b,.slice C i.cost.length c])/\Hid (Blk wq (w.heap.size+1) 25 #[.int .i64 0,.int .i64 0,.int .i64 0,.slice none 0 0,.slice none 0 0,.slice none 0 0])/\Hid (OwI wq w.heap.size A3 c3 xw)/\Hid (OwI wq w.heap.size B3 d3 xv)/\Hid (OwV wq w.heap.size 22 1 C' k cc us)/\Hid (RowsO wq w.heap.size us (XE i.cost k))/\Hid (Ext w wq)/\Hid (RowsD us)) (fun v _=>30-(intOf v).toNat)
  case atStart =>
   exact⟨0,none,0,[],rfl,by omega,by omega,b3,B1',B2',o8,o11,OwV.nil _ _ _ _,RowsO.nil _ _,X3,RowsD.nil⟩
  case round =>
   obtain⟨wo,rfl⟩:∃ wo:World,wo=wr:=⟨_,rfl⟩;clear b3 B1' B2' X3;obtain⟨k,C',cc,us,rfl,hk,hk30,b4,B1,B2,p8,p11,oV,oR,X,oD⟩:=hrel;have zb:=B1.out.lt;have c5:=B1.out.c5
   by_cases hlt:k<i.cost.length/\k<30
   ·obtain⟨h1,h2⟩:=hlt
    obtain⟨b',off,cs,r,rfl,hb,⟨D,d,rfl,hd,id,ld,ld'⟩,_,hcs,hr⟩:=(rC.out.ext X.out (fun cs j h=>by obtain⟨A,c,q1,q2,q3⟩:=h;exact⟨A,c,q1,q2.ext X.out,q3⟩)).at h1;have a0:=hcs 0 _ rfl;rw[Nat.add_zero,Nat.mul_one] at a0;clear hcs;have hsn:=Hd (Za2 hr.out);clear hr;obtain⟨xr,exr⟩:∃ xr:List Int,Hid (xr=r.take 70):=⟨_,rfl⟩;have d5:=b4.out.c5;have zh2:=b4.out.lt;have hbs:∀ (u:World) (A':Option Addr) (c':Nat),(Instr.buildSlice 23 1 #[(0,.slice A' xr.length c')]).run Tryz.prog u=.ok (.slice (some ⟨u.heap.size,0,none⟩) 1 1) (u.alloc (.cells #[.slice A' xr.length c'] 22)):=fun u A' c'=>by go_simp
    replace hbs:=Hd hbs;replace hd:=Hd hd;replace id:=Hd id;replace ld':=Hd ld';unfold maxLen at mC;have mC':=mC.out;clear mC;go_upto_region 5 with(fail);refine wp_region_any (by kernel_rfl) ?_
    change wpAny _ _ _ _ _ _ _ (World.drew _)
    refine Za (i:=0) (op:=Op.fieldAddr 25 (Operand.tmp 3) 5) (t:=0) (d:=some 29) (v:=?_) rfl (by decide +kernel) (by decide +kernel) (by decide +kernel) (fun _ _ _ h=>h) ?_ ?_
    case refine_2=>(intro _;unfold Zd;go_simp;try with_reducible rfl)
    try simp only[lay]
    refine Za (i:=2) (op:=Op.fieldAddr 25 (Operand.tmp 1) 5) (t:=0) (d:=some 31) (v:=?_) rfl (by decide +kernel) (by decide +kernel) (by decide +kernel) (fun _ _ _ h=>h) ?_ ?_
    case refine_2=>(intro _;unfold Zd;go_simp;try with_reducible rfl)
    try simp only[lay]
    refine Za (i:=4) (op:=Op.move (Operand.tmp 4)) (t:=3) (d:=some 33) (v:=?_) rfl (by decide +kernel) (by decide +kernel) (by decide +kernel) (fun _ _ _ h=>h) ?_ ?_
    case refine_2=>(intro _;unfold Zd;go_simp;try with_reducible rfl)
    try simp only[lay]
    refine ZM (n:=3) [(1,some 30),(3,some 32),(5,some 34),(6,some 35),(7,some 36),(8,some 37)] (Ext wo)
     (VF (fun | 1=>some (.slice C' k cc) | 3=>some (.slice (some ⟨b',off,none⟩) i.cost.length c) | 5=>some (.pointer (some ⟨b',off+k,none⟩)) | 6=>some (.slice D r.length d) | _=>none)
      (fun j v W=>(j=7->∃ A' c',v=.slice A' xr.length c'/\OwI W wo.heap.size A' c' xr)/\(j=8->∃ q A' c',v=.slice (some ⟨q,0,none⟩) 1 1/\Blk W q 22 #[.slice A' xr.length c']/\OwI W wo.heap.size A' c' xr)))
     Ext #[true,true,true,true,true,true,true,true,true,false,false,false] (by kernel_rfl) (VF.stab ?_) ?_ ?_ ((Ext.rf _).drew)
    ·intro j v W W' _ ⟨g6,g14⟩ hx
     refine⟨fun h=>?_,fun h=>?_⟩
     ·obtain⟨A',c',q1,q2⟩:=g6 h
      exact⟨A',c',q1,q2.ext hx⟩
     ·obtain⟨q,A',c',q1,q2,q3⟩:=g14 h
      exact⟨q,A',c',q1,q2.ext hx,q3.ext hx⟩
    ·intro pq hpm u w2 hRW hD K hK
     have r5:=Zg hRW zb c5;have rd:=Zg hRW zh2 d5;have ra:=Zg hRW hb a0;have z2:=hRW.size;simp only[List.mem_cons,List.not_mem_nil,or_false] at hpm;rcases hpm with rfl | rfl | rfl | rfl | rfl | rfl
     ·exact Zo (T:=23) rfl (.pointer (some ⟨h,5,none⟩)) (by kernel_rfl) (.slice C' k cc) (by go_simp) (hK _ _ (VF.mk rfl) hRW (Ext.rf _))
     ·exact Zo (T:=23) rfl (.pointer (some ⟨w.heap.size,5,none⟩)) (by kernel_rfl) (.slice (some ⟨b',off,none⟩) i.cost.length c) (by go_simp) (hK _ _ (VF.mk rfl) hRW (Ext.rf _))
     ·have h3:=(hD 3 (Zm (by kernel_rfl))).k rfl
      exact ZU (T:=23) rfl _ (.int .i64 (k:Int)) (Eq.trans (b:=u 3) (by kernel_rfl) h3) (by kernel_rfl) (.pointer (some ⟨b',off+k,none⟩)) (by go_simp) (hK _ _ (VF.mk rfl) hRW (Ext.rf _))
     ·have h5:=(hD 5 (Zm (by kernel_rfl))).k rfl
      exact Zo (T:=22) rfl _ (Eq.trans (b:=u 5) (by kernel_rfl) h5) (.slice D r.length d) (by go_simp) (hK _ _ (VF.mk rfl) hRW (Ext.rf _))
     ·refine Z7 rfl #[.slice D r.length d] (by go_simp) (Eq.trans (b:=#[u 6]) (by kernel_rfl) (by rw[(hD 6 (Zm (by kernel_rfl))).k rfl])) _ (U7 exr.out D d w2 (hd.out.ext hRW) id.out ld ld'.out) ?_
      rintro e w3 ⟨A3,c3,rfl,o3,x3⟩;exact⟨_,rfl,hK _ _ (VF.mg rfl ⟨fun _=>⟨A3,c3,rfl,o3.more z2⟩,(fun h=>by cases h)⟩) (hRW.tr x3) x3⟩
     ·obtain⟨A3,c3,h8,o3⟩:=((hD 7 (Zm (by kernel_rfl))).g rfl).1 rfl
      exact Jt rfl _ (Eq.trans (b:=u 7) (by kernel_rfl) h8) _ (hbs.out _ _ _) (hK _ _ (VF.mg rfl ⟨(fun h=>by cases h),fun _=>⟨_,A3,c3,rfl,.new rfl,o3.ext ((Ext.rf _).alloc _)⟩⟩) (hRW.alloc _) ((Ext.rf _).alloc _))
    ·intro u w7 hRW hV
     have h1':=(hV (1,some 30) (by simp)).k rfl;have h3':=(hV (3,some 32) (by simp)).k rfl;have h5':=(hV (5,some 34) (by simp)).k rfl;have h6':=(hV (6,some 35) (by simp)).k rfl;obtain⟨_,_,h7',_⟩:=((hV (7,some 36) (by simp)).g rfl).1 rfl;obtain⟨q,A7,c7,h8',b8,o7⟩:=((hV (8,some 37) (by simp)).g rfl).2 rfl;simp only[Zj,h1',h3',h5',h6',h7',h8'];have oV7:=oV.out.ext hRW;have zwo:=X.out.size;have z7:=hRW.size;obtain⟨A4,c4,w4,hrun,o4,g4,_⟩:=Vf w7 (e:=22) Tryz.underlying23 hi.out hz0.out hz1.out hz2.out (by simp[Value.cells]) (by omega) w.heap.size 23 C' k cc us (some ⟨q,0,none⟩) 1 1 [.slice A7 xr.length c7] oV7 ((RdV.blk b8).rdC) (by simp) (by simp[Value.oneCell']) (by simp only[maxLen];omega) (by omega) (by omega);have M4:=oV7.grownT g4;have e4:=(b4.out.ext hRW).modT M4 (by decide);have f5:=e4.free 5;have e5:=e4.c5;have M5:ModT w.heap.size [25] w4 (w4.setCell ⟨h,5,none⟩ (.slice A4 (k+1) c4)):=ModT.set w4 e4 (by simp) (by omega) 5 _;have hne:w.heap.size≠h:=by omega
     have hne1:w.heap.size+1≠h:=by omega
     have b5:=e4.set 5 (.slice A4 (k+1) c4);have B15:=((B1.out.ext hRW).modT M4 (by decide)).far (p:=⟨h,5,none⟩) hne (.slice A4 (k+1) c4);have B25:=((B2.out.ext hRW).modT M4 (by decide)).far (p:=⟨h,5,none⟩) hne1 (.slice A4 (k+1) c4);have q8:=((p8.out.ext hRW).modT M4 (by decide)).modT M5 (by decide);have q11:=((p11.out.ext hRW).modT M4 (by decide)).modT M5 (by decide);have oV5:=o4.modT M5 (by decide);have oR5:=((((oR.out.ext hRW).modT M4 (by decide)).modT M5 (by decide)).snoc (((o7.more zwo).modT M4 (by decide)).modT M5 (by decide)));have oD5:=Hd (oD.out.snoc oR.out o7);have X5:=((X.out.tr hRW).modT M4 (Nat.le_refl _)).modT M5 (Nat.le_refl _);rw[show XE i.cost k++[xr]=XE i.cost (k+1) by rw[hsn.out,Za1,exr.out]] at oR5;have FIN:=Hd (And.intro b5 (And.intro B15 (And.intro B25 (And.intro q8 (And.intro q11 (And.intro oV5 (And.intro oR5 X5)))))));clear b5 B15 B25 q8 q11 oV5 oR5 X5 M5 M4 g4 o4 e4 oV7 h1' h3' h5' h6' h7' h8' hV b8 o7 b4 B1 B2 p8 p11 oV oR X;refine Zh 9 (by kernel_rfl) (U4 rfl (.slice C' k cc) (.slice (some ⟨q,0,none⟩) 1 1) (by kernel_rfl) (by kernel_rfl) _ hrun ?_)
     try simp only[lay]
     refine Za (i:=10) (op:=Op.fieldAddr 25 (Operand.tmp 3) 5) (t:=0) (d:=some 39) (v:=?_) rfl (by decide +kernel) (by decide +kernel) (by decide +kernel) (fun _ _ _ h=>h) ?_ ?_
     case refine_2=>(intro _;unfold Zd;go_simp;try with_reducible rfl)
     try simp only[lay]
     refine Zh 11 (by kernel_rfl) (Yo rfl (.pointer (some ⟨h,5,none⟩)) (.slice A4 (k+1) c4) (by kernel_rfl) (by kernel_rfl) (by go_simp;rfl) ?_);refine wpAny_done (by kernel_rfl) ?_ _;clear hrun hRW;generalize w4.setCell ⟨h,5,none⟩ (.slice A4 (k+1) c4)=w5 at FIN ⊢;go_simp;go_wp2_with (fail);go_roundw
     case rel=>exact⟨k+1,A4,c4,_,by go_num,by omega,by omega,FIN.out.1,FIN.out.2.1,FIN.out.2.2.1,FIN.out.2.2.2.1,FIN.out.2.2.2.2.1,FIN.out.2.2.2.2.2.1,FIN.out.2.2.2.2.2.2.1,FIN.out.2.2.2.2.2.2.2,oD5⟩
     case measure=>simp[intOf];omega
   ·have hmin:min i.cost.length 30=k:=by omega
    have h0:=b4.out.c0;have h1:=b4.out.c1;have h2:=b4.out.c2;have h3:=b4.out.c3;have h4:=b4.out.c4;have h5:=b4.out.c5;have t0:=B2.out.c0;have t1:=B2.out.c1;have t2:=B2.out.c2;have t3:=B2.out.c3;have t4:=B2.out.c4;have t5:=B2.out.c5;have f0:=B2.out.free 0;have f1:=B2.out.free 1;have f2:=B2.out.free 2;have f3:=B2.out.free 3;have f4:=B2.out.free 4;have f5:=B2.out.free 5;obtain⟨b6,M6⟩:=Zer B2.out (base:=w.heap.size) (by omega) (.int .i64 i.kind) (.int .i64 i.n) (.int .i64 i.cap) (.slice A3 xw.length c3) (.slice B3 xv.length d3) (.slice C' k cc);have e1:=exw.out;have e2:=exv.out;have e3:XG i=⟨i.kind,i.n,i.cap,xw,xv,XE i.cost k⟩:=by rw[XG,hmin,e1,e2]
    have hlen:(XE i.cost k).length=k:=Zcd hk;have I6:InstOD ((((((wo.setCell ⟨w.heap.size+1,0,none⟩ (.int .i64 i.kind)).setCell ⟨w.heap.size+1,1,none⟩ (.int .i64 i.n)).setCell ⟨w.heap.size+1,2,none⟩ (.int .i64 i.cap)).setCell ⟨w.heap.size+1,3,none⟩ (.slice A3 xw.length c3)).setCell ⟨w.heap.size+1,4,none⟩ (.slice B3 xv.length d3)).setCell ⟨w.heap.size+1,5,none⟩ (.slice C' k cc)) w.heap.size [.int .i64 i.kind,.int .i64 i.n,.int .i64 i.cap,.slice A3 xw.length c3,.slice B3 xv.length d3,.slice C' k cc] (XG i):=by
     rw[e3];refine⟨A3,c3,B3,d3,C',cc,us,?_,p8.out.modT M6 (by decide),p11.out.modT M6 (by decide),?_,oR.out.modT M6 (by decide),oD.out⟩
     ·simp only[hlen]
     ·simp only[hlen]
      exact oV.out.modT M6 (by decide)
    have FIN:Hid (QS i w (.returned (.agg #[.int .i64 i.kind,.int .i64 i.n,.int .i64 i.cap,.slice A3 xw.length c3,.slice B3 xv.length d3,.slice C' k cc])) ((((((wo.setCell ⟨w.heap.size+1,0,none⟩ (.int .i64 i.kind)).setCell ⟨w.heap.size+1,1,none⟩ (.int .i64 i.n)).setCell ⟨w.heap.size+1,2,none⟩ (.int .i64 i.cap)).setCell ⟨w.heap.size+1,3,none⟩ (.slice A3 xw.length c3)).setCell ⟨w.heap.size+1,4,none⟩ (.slice B3 xv.length d3)).setCell ⟨w.heap.size+1,5,none⟩ (.slice C' k cc))):=⟨_,rfl,I6,X.out.modT M6 (Nat.le_refl _)⟩;clear I6 hlen e1 e2 e3 M6 b6 oV oR p8 p11 hmin
    by_cases h1':k<i.cost.length
    ·have h2':¬k<30:=by omega
     go_wp2_with (fail);exact bodyPost_ret (v:=.agg #[.int .i64 i.kind,.int .i64 i.n,.int .i64 i.cap,.slice A3 xw.length c3,.slice B3 xv.length d3,.slice C' k cc]) (by simp[results,Tryz.results17,go_sem, *]) rfl FIN
    ·go_wp2_with (fail)
     exact bodyPost_ret (v:=.agg #[.int .i64 i.kind,.int .i64 i.n,.int .i64 i.cap,.slice A3 xw.length c3,.slice B3 xv.length d3,.slice C' k cc]) (by simp[results,Tryz.results17,go_sem, *]) rfl FIN
theorem Zdr (vs:List Value)(i:InstP)(w:World)(H:RInst w vs i) :
  Calls Tryz.prog 17 #[.agg (List.toArray vs)] w (Zdp i w) :=
 (Zce vs i w H).mono fun _ _ ⟨vs,h1,h2,h3⟩=>⟨vs,h1,h2.o,h3⟩
end Go.Proofs.YtmojhhlcocjoaaaGreatDoor
namespace Go.Proofs.YtmojhhlcocjoaaaGreatDoor
open Go.RowKit Go.ChangeShapes Go.WideShapes Go.ChangeAt Go.Deep
def Xs (n:Int) : Int:=if n<0 then 1 else if 2147483647<n then 5 else 0
theorem Y0 (n:Int)(w:World) : Calls Tryz.prog 122 #[.int .i64 n] w fun e w'=>e=.returned (.int .i64 (Xs n))/\Ext w w':=by
 unfold Xs
 by_cases h1:n<0
 ·rw[if_pos h1]
  go_enter Tryz.func122,Tryz.ntmps122;go_wp2_with (fail);exact bodyPost_ret (v:=.int .i64 1) (by simp[results,Tryz.results122,go_sem]) rfl ⟨rfl,by(repeat (first | assumption | exact Ext.rf _ | apply Ext.drew | apply Ext.drewN | apply Ext.alloc))⟩
 ·rw[if_neg h1]
  by_cases h2:2147483647<n
  ·rw[if_pos h2]
   go_enter Tryz.func122,Tryz.ntmps122;go_wp2_with (fail);exact bodyPost_ret (v:=.int .i64 5) (by simp[results,Tryz.results122,go_sem]) rfl ⟨rfl,by(repeat (first | assumption | exact Ext.rf _ | apply Ext.drew | apply Ext.drewN | apply Ext.alloc))⟩
  ·rw[if_neg h2]
   go_enter Tryz.func122,Tryz.ntmps122;go_wp2_with (fail);exact bodyPost_ret (v:=.int .i64 0) (by simp[results,Tryz.results122,go_sem]) rfl ⟨rfl,by(repeat (first | assumption | exact Ext.rf _ | apply Ext.drew | apply Ext.drewN | apply Ext.alloc))⟩
def Xt (k n:Int) : Int:=if k=1 then(if n<1 then 1 else if 64<n then 5 else 0) else if k=2 then(if n<1 then 1 else if 24<n then 5 else 0) else if k=3 then(if n<1 then 1 else if 24<n then 5 else 0) else 14
theorem Zds (k n cap:Int)(a b c:Value)(w:World) : Calls Tryz.prog 69 #[.agg #[.int .i64 k,.int .i64 n,.int .i64 cap,a,b,c]] w fun e w'=>e=.returned (.int .i64 (Xt k n))/\Ext w w':=by
 unfold Xt
 by_cases k1:k=1
 ·subst k1
  rw[if_pos rfl]
  by_cases h1:n<1
  ·rw[if_pos h1]
   go_enter Tryz.func69,Tryz.ntmps69;go_wp2_with (fail);exact bodyPost_ret (v:=.int .i64 1) (by simp[results,Tryz.results69,go_sem]) rfl ⟨rfl,by(repeat (first | assumption | exact Ext.rf _ | apply Ext.drew | apply Ext.drewN | apply Ext.alloc))⟩
  ·rw[if_neg h1]
   by_cases h2:64<n
   ·rw[if_pos h2]
    go_enter Tryz.func69,Tryz.ntmps69;go_wp2_with (fail);exact bodyPost_ret (v:=.int .i64 5) (by simp[results,Tryz.results69,go_sem]) rfl ⟨rfl,by(repeat (first | assumption | exact Ext.rf _ | apply Ext.drew | apply Ext.drewN | apply Ext.alloc))⟩
   ·rw[if_neg h2]
    go_enter Tryz.func69,Tryz.ntmps69;go_wp2_with (fail);exact bodyPost_ret (v:=.int .i64 0) (by simp[results,Tryz.results69,go_sem]) rfl ⟨rfl,by(repeat (first | assumption | exact Ext.rf _ | apply Ext.drew | apply Ext.drewN | apply Ext.alloc))⟩
 ·rw[if_neg k1]
  by_cases k2:k=2
  ·subst k2
   rw[if_pos rfl]
   by_cases h1:n<1
   ·rw[if_pos h1]
    go_enter Tryz.func69,Tryz.ntmps69;go_wp2_with (fail);exact bodyPost_ret (v:=.int .i64 1) (by simp[results,Tryz.results69,go_sem]) rfl ⟨rfl,by(repeat (first | assumption | exact Ext.rf _ | apply Ext.drew | apply Ext.drewN | apply Ext.alloc))⟩
   ·rw[if_neg h1]
    by_cases h2:24<n
    ·rw[if_pos h2]
     go_enter Tryz.func69,Tryz.ntmps69;go_wp2_with (fail);exact bodyPost_ret (v:=.int .i64 5) (by simp[results,Tryz.results69,go_sem]) rfl ⟨rfl,by(repeat (first | assumption | exact Ext.rf _ | apply Ext.drew | apply Ext.drewN | apply Ext.alloc))⟩
    ·rw[if_neg h2]
     go_enter Tryz.func69,Tryz.ntmps69;go_wp2_with (fail);exact bodyPost_ret (v:=.int .i64 0) (by simp[results,Tryz.results69,go_sem]) rfl ⟨rfl,by(repeat (first | assumption | exact Ext.rf _ | apply Ext.drew | apply Ext.drewN | apply Ext.alloc))⟩
  ·rw[if_neg k2]
   by_cases k3:k=3
   ·subst k3
    rw[if_pos rfl]
    by_cases h1:n<1
    ·rw[if_pos h1]
     go_enter Tryz.func69,Tryz.ntmps69;go_wp2_with (fail);exact bodyPost_ret (v:=.int .i64 1) (by simp[results,Tryz.results69,go_sem]) rfl ⟨rfl,by(repeat (first | assumption | exact Ext.rf _ | apply Ext.drew | apply Ext.drewN | apply Ext.alloc))⟩
    ·rw[if_neg h1]
     by_cases h2:24<n
     ·rw[if_pos h2]
      go_enter Tryz.func69,Tryz.ntmps69;go_wp2_with (fail);exact bodyPost_ret (v:=.int .i64 5) (by simp[results,Tryz.results69,go_sem]) rfl ⟨rfl,by(repeat (first | assumption | exact Ext.rf _ | apply Ext.drew | apply Ext.drewN | apply Ext.alloc))⟩
     ·rw[if_neg h2]
      go_enter Tryz.func69,Tryz.ntmps69;go_wp2_with (fail);exact bodyPost_ret (v:=.int .i64 0) (by simp[results,Tryz.results69,go_sem]) rfl ⟨rfl,by(repeat (first | assumption | exact Ext.rf _ | apply Ext.drew | apply Ext.drewN | apply Ext.alloc))⟩
   ·rw[if_neg k3]
    go_enter Tryz.func69,Tryz.ntmps69;go_wp2_with (fail);exact bodyPost_ret (v:=.int .i64 14) (by simp[results,Tryz.results69,go_sem]) rfl ⟨rfl,by(repeat (first | assumption | exact Ext.rf _ | apply Ext.drew | apply Ext.drewN | apply Ext.alloc))⟩
def Ye : List Int->Int
 | []=>0
 | x::l=>if Xs x=0 then Ye l else Xs x
theorem VP (a b:List Int) : Ye (a++b)=if Ye a=0 then Ye b else Ye a:=by
 induction a with
 | nil=>rfl
 | cons x l ih =>
  simp only[List.cons_append,Ye];split
  ·exact ih
  ·rename_i h
   first | rfl | rw[if_neg h]
def Xu : List Int->List Int->List Int
 | x::xs,y::ys=>x::y::Xu xs ys
 | _,_=>[]
theorem Uj : ∀ (a b c d:List Int),a.length=b.length->Xu (a++c) (b++d)=Xu a b++Xu c d
 | [],[],_,_,_=>by simp[Xu]
 | x::a,y::b,c,d,h=>by
  have:=Uj a b c d (by simpa using h);simp[Xu,this]
 | [],_::_,_,_,h=>by simp at h
 | _::_,[],_,_,h=>by simp at h
def ZR (cap:Int)(xs ys:List Int)(k:Nat) : Int:=Ye (cap::Xu (xs.take k) (ys.take k))
theorem JV (cap:Int)(xs ys:List Int) : ZR cap xs ys 0=Xs cap:=by
 simp only[ZR,List.take_zero,Xu,Ye];split
 ·rename_i h;exact h.symm
 ·rfl
theorem JW {cap:Int}{xs ys:List Int}{k:Nat}{x y:Int}(hx:xs[k]?=some x)(hy:ys[k]?=some y)(h0:ZR cap xs ys k=0) :
  ZR cap xs ys (k+1)=if Xs x=0 then Xs y else Xs x:=by
 obtain⟨lx,hx⟩:=List.getElem?_eq_some_iff.1 hx;obtain⟨ly,hy⟩:=List.getElem?_eq_some_iff.1 hy;unfold ZR at *;rw[List.take_succ_eq_append_getElem lx,List.take_succ_eq_append_getElem ly,Uj _ _ _ _ (by simp;omega),<-List.cons_append,VP,if_pos h0,hx,hy];simp only[Xu,Ye];split
 ·split
  ·rename_i h;exact h.symm
  ·rfl
 ·rfl
theorem JX {cap:Int}{xs ys:List Int}{k:Nat}(hl:xs.length=ys.length)(h:ZR cap xs ys k≠0) : ZR cap xs ys xs.length=ZR cap xs ys k:=by
 have e:Xu xs ys=Xu (xs.take k) (ys.take k)++Xu (xs.drop k) (ys.drop k):=by
  rw[<-Uj _ _ _ _ (by simp[hl]),List.take_append_drop,List.take_append_drop]
 unfold ZR at *;rw[List.take_length,hl,List.take_length,e,<-List.cons_append,VP,if_neg h]
theorem Zcf (A B:Option Addr)(a b:Nat)(k cap:Int)(xs ys:List Int)(C:Value)(w:World)(hA:RdI w A xs)(hB:RdI w B ys)(la:xs.length<=a)(ma:a<=maxLen)(lb:ys.length<=b)(mb:b<=maxLen)(hxy:xs.length=ys.length) :
  Calls Tryz.prog 71 #[.agg #[.int .i64 k,.int .i64 xs.length,.int .i64 cap,.slice A xs.length a,.slice B ys.length b,C]] w fun e w'=>e=.returned (.int .i64 (ZR cap xs ys xs.length))/\Ext w w':=by
 unfold maxLen at ma mb;replace hxy:=Hd hxy;have B1:Hid (Blk (w.alloc (.cells #[.int .i64 k,.int .i64 xs.length,.int .i64 cap,.slice A xs.length a,.slice B ys.length b,C] 25)) w.heap.size 25 #[.int .i64 k,.int .i64 xs.length,.int .i64 cap,.slice A xs.length a,.slice B ys.length b,C]):=.new rfl;have X:Hid (Ext w (w.alloc (.cells #[.int .i64 k,.int .i64 xs.length,.int .i64 cap,.slice A xs.length a,.slice B ys.length b,C] 25))):=(Ext.rf _).alloc _;have hC:=Hd (Y0 cap);go_enter Tryz.func71,Tryz.ntmps71;go_wp2_with (fail);refine(Y0 cap _).mono ?_;rintro e w2 ⟨rfl,x2⟩;go_wp2_with (fail);go_loopw [3,4] (fun e i wr=>∃ j:Nat,i=.int .i64 j/\e=.int .i64 (ZR cap xs ys j)/\j<=xs.length/\Ext w wr/\Hid (Blk wr w.heap.size 25 #[.int .i64 k,.int .i64 xs.length,.int .i64 cap,.slice A xs.length a,.slice B ys.length b,C])) (fun _ i _=>xs.length-(intOf i).toNat)
 case atStart=>exact⟨0,rfl,by rw[JV],by omega,Ext.tr (a:=w) (by(repeat (first | assumption | exact Ext.rf _ | apply Ext.drew | apply Ext.drewN | apply Ext.alloc))) x2,B1.out.ext x2⟩
 case round =>
  obtain⟨wo,rfl⟩:∃ wo:World,wo=wr:=⟨_,rfl⟩;obtain⟨j,rfl,rfl,hj,Y,B2⟩:=hrel;have c1:=B2.out.c1;have c3:=B2.out.c3;have c4:=B2.out.c4;have cA:=hA.ext Y;have cB:=hB.ext Y
  by_cases he:ZR cap xs ys j=0
  ·have he':(ZR cap xs ys j==0)=true:=by rw[beq_iff_eq];exact he
   have HE:=Hd he;clear he
   by_cases hlt:j<xs.length
   ·obtain⟨bb,off,x,rfl,_,hc1,hx1,_⟩:=cA.at hlt
    obtain⟨bb',off',y,rfl,_,hc2,hy1,_⟩:=cB.at (k:=j) (by have:=hxy.out;omega);have hlt2:j<ys.length:=by have:=hxy.out;omega
    have S:=Hd (JW hx1.out hy1.out HE.out);go_wp2_with (fail);refine(Y0 x _).mono ?_;rintro e w3 ⟨rfl,x3⟩;have Y3:=Ext.tr Y x3;have B3:=B2.out.ext x3;have c4':=B3.c4;have hc2':=(x3.cells.1 _ (off'+j) (by assumption)).trans hc2
    by_cases hn:Xs x=0
    ·have hn':(Xs x==0)=true:=by rw[beq_iff_eq];exact hn
     have HN:=Hd hn;clear hn;go_wp2_with (fail);refine(Y0 y _).mono ?_;rintro e w4 ⟨rfl,x4⟩;have Y4:=Ext.tr Y3 x4;have B4:=Hd (B3.ext x4);have HR:Hid (ZR cap xs ys (j+1)=Xs y):=by
      have h1:=S.out;rw[if_pos HN.out] at h1;exact h1
     clear c1 c3 c4 c4' hc1 hc2 hc2' he' hn';go_wp2;go_roundw
     case rel=>exact⟨j+1,by go_num,by rw[HR.out],by omega,Y4,B4⟩
     case measure=>simp[intOf];omega
    ·have hn':(Xs x==0)=false:=by rw[beq_eq_false_iff_ne];exact hn
     have HR:Hid (ZR cap xs ys (j+1)=Xs x):=by
      have h1:=S.out;rw[if_neg hn] at h1;exact h1
     clear hn;have B4:=Hd B3;clear c1 c3 c4 c4' hc1 hc2 hc2' he' B3;go_wp2;go_roundw
     case rel=>exact⟨j+1,by go_num,by rw[HR.out],by omega,Y3,B4⟩
     case measure=>simp[intOf];omega
   ·obtain rfl:j=xs.length:=by omega
    clear cA cB c3 c4;go_wp2;go_ret;exact⟨rfl,Y⟩
  ·have he':(ZR cap xs ys j==0)=false:=by rw[beq_eq_false_iff_ne];exact he
   have HE:Hid (ZR cap xs ys xs.length=ZR cap xs ys j):=JX hxy.out he;clear he cA cB c3 c4
   by_cases hlt:j<xs.length
   ·go_wp2
    go_ret;exact⟨Yv HE.out.symm,Y⟩
   ·go_wp2
    go_ret;exact⟨Yv HE.out.symm,Y⟩
def Wm (k:Int)(r c:Nat) : List Int->Int
 | []=>0
 | n::l=>if Xs n=0 then(if k=3/\r=c/\n≠0 then 8 else Wm k r (c+1) l) else Xs n
def YF (k:Int)(r:Nat) : List (List Int)->Int
 | []=>0
 | row::l=>if Wm k r 0 row=0 then YF k (r+1) l else Wm k r 0 row
theorem RdE.ints {w:World}{A:Option Addr}{l:List (List Int)}(h:RdE 1 RInts w A l){r:Nat}(hr:r<l.length) :
  ∃ b off B row c,A=some ⟨b,off,none⟩/\b<w.heap.size/\w.cell? ⟨b,off+r,none⟩=some (.slice B row.length c)/\Hid (l[r]?=some row)/\Hid (l.drop r=row::l.drop (r+1))/\RdI w B row/\Ints row/\row.length<=c/\c<=9223372036854775807:=by
 obtain⟨b,off,cs,row,rfl,hb,⟨B,c,rfl,h1,h2,h3,h4⟩,_,hc,he⟩:=h.at hr;have hc0:=hc 0 _ rfl;unfold maxLen at h4;have he':=he.out;refine⟨b,off,B,row,c,rfl,hb,by simpa using hc0,he,?_,h1,h2,h3,h4⟩;obtain⟨hl,hv⟩:=List.getElem?_eq_some_iff.1 he';exact(by rw[List.drop_eq_getElem_cons hl,hv]:l.drop r=row::l.drop (r+1))
theorem Zdt (k n cap:Int)(A B:Value)(C:Option Addr)(c:Nat)(l:List (List Int))(w:World)(hC:RdE 1 RInts w C l)(lc:l.length<=c)(mc:c<=maxLen) :
  Calls Tryz.prog 72 #[.agg #[.int .i64 k,.int .i64 n,.int .i64 cap,A,B,.slice C l.length c]] w fun e w'=>e=.returned (.int .i64 (YF k 0 l))/\Ext w w':=by
 unfold maxLen at mc;have B1:Hid (Blk (w.alloc (.cells #[.int .i64 k,.int .i64 n,.int .i64 cap,A,B,.slice C l.length c] 25)) w.heap.size 25 #[.int .i64 k,.int .i64 n,.int .i64 cap,A,B,.slice C l.length c]):=.new rfl;go_enter Tryz.func72,Tryz.ntmps72;go_wp2_with (fail);go_loopw [11] (fun i wr=>∃ r:Nat,i=.int .i64 r/\r<=l.length/\Hid (YF k 0 l=YF k r (l.drop r))/\Ext w wr/\Hid (Blk wr w.heap.size 25 #[.int .i64 k,.int .i64 n,.int .i64 cap,A,B,.slice C l.length c])) (fun i _=>l.length-(intOf i).toNat)
 case atStart=>exact⟨0,rfl,by omega,by exact rfl,by(repeat (first | assumption | exact Ext.rf _ | apply Ext.drew | apply Ext.drewN | apply Ext.alloc)),B1⟩
 case round =>
  obtain⟨wo,rfl⟩:∃ wo:World,wo=wr:=⟨_,rfl⟩;obtain⟨r,rfl,hr,HT,Y,B2⟩:=hrel
  by_cases hlt:r<l.length
  ·obtain⟨b,off,D,row,d,rfl,_,hc1,_,HD,rr,ir,ld,md⟩:=(hC.ext Y fun _ _ h=>h.ext Y).ints hlt
   go_wp2_with (fail);go_loopw [18] (fun i wr=>∃ j:Nat,i=.int .i64 j/\j<=row.length/\Hid (Wm k r 0 row=Wm k r j (row.drop j))/\Ext w wr/\Ext wo wr/\Hid (Blk wr w.heap.size 25 #[.int .i64 k,.int .i64 n,.int .i64 cap,A,B,.slice (some ⟨b,off,none⟩) l.length c])) (fun i _=>row.length-(intOf i).toNat)
   case atStart=>exact⟨0,rfl,by omega,by exact rfl,Y,Ext.rf _,B2⟩
   case round =>
    obtain⟨j,rfl,hj,HJ,Y2,X2,B3⟩:=hrel
    by_cases hlj:j<row.length
    ·obtain⟨bb,off',x,rfl,_,hc2,_,hd2⟩:=(rr.ext X2).at hlj
     go_wp2_with (fail);refine(Y0 x _).mono ?_;rintro e w3 ⟨rfl,x3⟩;have Y3:=Ext.tr Y2 x3;have X3:=Ext.tr X2 x3;have B4:=Hd (B3.out.ext x3);have k0:=B4.out.c0
     by_cases hn:Xs x=0
     ·have hn':(Xs x != 0)=false:=by simpa using hn
      have HN:=Hd hn;clear hn hc1 hc2
      by_cases k3:k=3
      ·subst k3
       by_cases hrj:r=j
       ·subst hrj
        by_cases hx:x=0
        ·have hx':(x != 0)=false:=by simpa using hx
         have HR:Hid (Wm 3 r 0 row=Wm 3 r (r+1) (row.drop (r+1))):=by
          have h1:=HJ.out;rw[hd2.out,Wm,if_pos HN.out,if_neg (by simp[hx])] at h1;exact h1
         clear hx;go_wp2;go_roundw
         case rel=>exact⟨r+1,by go_num,by omega,HR,Y3,X3,B4⟩
         case measure=>simp[intOf];omega
        ·have hx':(x != 0)=true:=by simpa using hx
         have HR:Hid (YF 3 0 l=8):=by
          have h1:=HJ.out;rw[hd2.out,Wm,if_pos HN.out,if_pos ⟨rfl,rfl,hx⟩] at h1;have h2:=HT.out;rw[HD.out,YF,h1] at h2;exact h2
         clear hx;go_wp2;go_ret;exact⟨Yv HR.out.symm,Y3⟩
       ·have hrj':((r:Int)==(j:Int))=false:=by rw[beq_eq_false_iff_ne];omega
        have HR:Hid (Wm 3 r 0 row=Wm 3 r (j+1) (row.drop (j+1))):=by
         have h1:=HJ.out;rw[hd2.out,Wm,if_pos HN.out,if_neg (by simp[hrj])] at h1;exact h1
        go_wp2;go_roundw
        case rel=>exact⟨j+1,by go_num,by omega,HR,Y3,X3,B4⟩
        case measure=>simp[intOf];omega
      ·have k3':(k==3)=false:=by rw[beq_eq_false_iff_ne];exact k3
       have HR:Hid (Wm k r 0 row=Wm k r (j+1) (row.drop (j+1))):=by
        have h1:=HJ.out;rw[hd2.out,Wm,if_pos HN.out,if_neg (by simp[k3])] at h1;exact h1
       clear k3;go_wp2;go_roundw
       case rel=>exact⟨j+1,by go_num,by omega,HR,Y3,X3,B4⟩
       case measure=>simp[intOf];omega
     ·have hn':(Xs x != 0)=true:=by simpa using hn
      have HR:Hid (YF k 0 l=Xs x):=by
       have h1:=HJ.out;rw[hd2.out,Wm,if_neg hn] at h1;have h2:=HT.out;rw[HD.out,YF,h1,if_neg hn] at h2;exact h2
      clear hn hc1 hc2;go_wp2;go_ret;exact⟨Yv HR.out.symm,Y3⟩
    ·have hd2:=VO (xs:=row) (k:=j) (by omega)
     have HR:Hid (YF k 0 l=YF k (r+1) (l.drop (r+1))):=by
      have h1:=HJ.out;rw[hd2.out,Wm] at h1;have h2:=HT.out;rw[HD.out,YF,if_pos h1] at h2;exact h2
     clear hc1;go_wp2;go_roundw
     case rel=>exact⟨r+1,by go_num,by omega,HR,Y2,B3⟩
     case measure=>simp[intOf];omega
  ·have hd:=VO (xs:=l) (k:=r) (by omega)
   have HR:Hid (YF k 0 l=0):=by
    have h1:=HT.out;rw[hd.out,YF] at h1;exact h1
   clear hd;go_wp2;go_ret;exact⟨Yv HR.out.symm,Y⟩
def Xk {α:Type}(p:α->Bool)(k:Nat) : List α->Int
 | []=>-1
 | x::l=>if p x then(k:Int) else Xk p (k+1) l
theorem U8 {α:Type}(p:α->Bool) : ∀ (k:Nat) (l:List α),decide (0<=Xk p k l)=l.any p
 | k,[]=>by simp[Xk]
 | k,x::l=>by
  unfold Xk
  cases h:p x with
  | true=>simp[h]
  | false=>simpa [h] using U8 p (k+1) l
def Zdu {α:Type}(g:Nat)(lb:Array Value)(enc:α->Value)(p:α->Bool)(xs:List α)(w:World) : Prop :=
 ∀ (W:World) (x:α),x∈xs->Ext w W->Calls Tryz.prog g (#[enc x]++lb) W fun e w'=>e=.returned (.bool (p x))/\Ext W w'
theorem Zdv (g:Nat)(lb:Array Value)(p:Nat->Bool)(eg:∀ args w,(callFunc g args).run Tryz.prog w=.ok (.enter g args) w)(C:Option Addr)(c:Nat)(l:List (List Int))(w:World)(hC:RdE 1 RInts w C l)(lx:l.length<=maxLen)
  (hp:∀ (W:World) (B:Option Addr) (r:List Int) (d:Nat),r∈l->Ext w W->Calls Tryz.prog g (#[.slice B r.length d]++lb) W fun e w'=>e=.returned (.bool (p r.length))/\Ext W w') :
  Calls Tryz.prog 163 #[.slice C l.length c,.func (.func g) #[] lb] w fun e w'=>e=.returned (.int .i64 (Xk (fun r:List Int=>p r.length) 0 l))/\Ext w w':=by
 unfold maxLen at lx;go_enter Tryz.func163,Tryz.ntmps163;go_wp2_with (fail);go_loopw [8] (fun i wr=>∃ j:Nat,i=.int .i64 j/\j<=l.length/\Hid (Xk (fun r:List Int=>p r.length) 0 l=Xk (fun r:List Int=>p r.length) j (l.drop j))/\Ext w wr) (fun i _=>l.length-(intOf i).toNat)
 case atStart=>exact⟨0,rfl,by omega,by exact rfl,Ext.rf _⟩
 case round =>
  obtain⟨j,rfl,hj,HJ,Y⟩:=hrel
  by_cases hlt:j<l.length
  ·obtain⟨b,off,D,row,d,rfl,_,hc1,hx,hd,rr,ir,ld,md⟩:=(hC.ext Y fun _ _ h=>h.ext Y).ints hlt
   have hcall:=hp wr D row d (List.mem_of_getElem? hx.out) Y;clear hp
   cases hq:p row.length with
   | true =>
    rw[hq] at hcall;have HR:Hid (Xk (fun r:List Int=>p r.length) 0 l=j):=by
     have h1:=HJ.out;rw[hd.out,Xk,if_pos hq] at h1;exact h1
    clear hq;go_wp2_with (go_at_fn g;refine hcall.mono ?_;rintro e w' ⟨rfl,x'⟩);go_ret;exact⟨Yv HR.out.symm,Ext.tr Y x'⟩
   | false =>
    rw[hq] at hcall;have HR:Hid (Xk (fun r:List Int=>p r.length) 0 l=Xk (fun r:List Int=>p r.length) (j+1) (l.drop (j+1))):=by
     have h1:=HJ.out;rw[hd.out,Xk,if_neg (by simp[hq])] at h1;exact h1
    clear hq;go_wp2_with (go_at_fn g;refine hcall.mono ?_;rintro e w' ⟨rfl,x'⟩);go_roundw
    case rel=>exact⟨j+1,by go_num,by omega,HR,Ext.tr Y x'⟩
    case measure=>simp[intOf];omega
  ·have hd:=VO (xs:=l) (k:=j) (by omega)
   have HR:Hid (Xk (fun r:List Int=>p r.length) 0 l=-1):=by
    have h1:=HJ.out;rw[hd.out,Xk] at h1;exact h1
   clear hd hp;go_wp2;go_ret;exact⟨Yv HR.out.symm,Y⟩
theorem Zdw (g:Nat)(lb:Array Value)(p:Nat->Bool)(eg:∀ args w,(callFunc g args).run Tryz.prog w=.ok (.enter g args) w)(C:Option Addr)(c:Nat)(l:List (List Int))(w:World)(hC:RdE 1 RInts w C l)(lx:l.length<=maxLen)
  (hp:∀ (W:World) (B:Option Addr) (r:List Int) (d:Nat),r∈l->Ext w W->Calls Tryz.prog g (#[.slice B r.length d]++lb) W fun e w'=>e=.returned (.bool (p r.length))/\Ext W w') :
  Calls Tryz.prog 120 #[.slice C l.length c,.func (.func g) #[] lb] w fun e w'=>e=.returned (.bool (l.any fun r=>p r.length))/\Ext w w':=by
 have H:=Hd (U8 (fun r:List Int=>p r.length) 0 l);go_enter Tryz.func120,Tryz.ntmps120;go_wp2_with (fail);refine(Zdv g lb p eg C c l _ hC lx hp).mono ?_;rintro e w' ⟨rfl,x'⟩;clear hp;go_wp2;go_ret;exact⟨QR H.out,x'⟩
theorem Zdx (B:Option Addr)(m d:Nat)(g:Nat)(n:Int)(cs:Array Value)(w:World)(hg:Blk w g 25 cs)(hn:cs[1]?=some (.int .i64 n)) :
  Calls Tryz.prog 121 (#[.slice B m d]++#[.pointer (some ⟨g,0,none⟩)]) w fun e w'=>e=.returned (.bool ((m:Int) != n))/\Ext w w':=by
 have c1:w.cell? ⟨g,1,none⟩=some (.int .i64 n):=(hg.cell 1).trans hn;replace hg:=Hd hg;replace hn:=Hd hn;go_enter Tryz.func121,Tryz.ntmps121;go_wp2;go_ret;exact⟨rfl,Ext.rf _⟩
theorem JY : ∀ args w,(callFunc 121 args).run Tryz.prog w=.ok (.enter 121 args) w:=enters_of Tryz.func121 (by kernel_rfl) rfl
def WG (i:InstP) : Bool :=
 if i.kind=1 then((i.weight.length:Int)==i.n)&&((i.value.length:Int)==i.n)&&((i.cost.length:Int)==0)
 else(((i.cost.length:Int)==i.n)&&(i.cap==0)&&decide (i.weight.length+i.value.length=0)) && !(i.cost.any fun r=>(r.length:Int) != i.n)
def Zl (i:InstP) : Int :=
 if Xt i.kind i.n=0 then(if WG i=true then(if i.kind=1 then ZR i.cap i.weight i.value i.weight.length else YF i.kind 0 i.cost) else 8) else Xt i.kind i.n
theorem Za3 (n cap:Int)(A B C:Option Addr)(a b c:Nat)(xs ys:List Int)(l:List (List Int))(w:World) :
  Calls Tryz.prog 70 #[.agg #[.int .i64 1,.int .i64 n,.int .i64 cap,.slice A xs.length a,.slice B ys.length b,.slice C l.length c]] w fun e w'=>e=.returned (.bool (((xs.length:Int)==n)&&((ys.length:Int)==n)&&((l.length:Int)==0)))/\Ext w w':=by
 cases h1:((xs.length:Int)==n)
 ·go_enter Tryz.func70,Tryz.ntmps70
  go_wp2;go_ret;exact⟨rfl,by(repeat (first | assumption | exact Ext.rf _ | apply Ext.drew | apply Ext.drewN | apply Ext.alloc))⟩
 ·cases h2:((ys.length:Int)==n)
  ·go_enter Tryz.func70,Tryz.ntmps70
   go_wp2;go_ret;exact⟨rfl,by(repeat (first | assumption | exact Ext.rf _ | apply Ext.drew | apply Ext.drewN | apply Ext.alloc))⟩
  ·cases h3:((l.length:Int)==0)
   ·go_enter Tryz.func70,Tryz.ntmps70
    go_wp2;go_ret;exact⟨rfl,by(repeat (first | assumption | exact Ext.rf _ | apply Ext.drew | apply Ext.drewN | apply Ext.alloc))⟩
   ·go_enter Tryz.func70,Tryz.ntmps70
    go_wp2;go_ret;exact⟨rfl,by(repeat (first | assumption | exact Ext.rf _ | apply Ext.drew | apply Ext.drewN | apply Ext.alloc))⟩
theorem Za4 (k n cap:Int)(A B C:Option Addr)(a b c:Nat)(xs ys:List Int)(l:List (List Int))(w:World)(hk:k≠1)(hC:RdE 1 RInts w C l)(lc:l.length<=c)(mc:c<=maxLen)(lx:xs.length<=1000000000)(ly:ys.length<=1000000000) :
  Calls Tryz.prog 70 #[.agg #[.int .i64 k,.int .i64 n,.int .i64 cap,.slice A xs.length a,.slice B ys.length b,.slice C l.length c]] w fun e w'=>e=.returned (.bool ((((l.length:Int)==n)&&(cap==0)&&decide (xs.length+ys.length=0)) && !(l.any fun r=>(r.length:Int) != n)))/\Ext w w':=by
 have B1:Hid (Blk (w.alloc (.cells #[.int .i64 k,.int .i64 n,.int .i64 cap,.slice A xs.length a,.slice B ys.length b,.slice C l.length c] 25)) w.heap.size 25 #[.int .i64 k,.int .i64 n,.int .i64 cap,.slice A xs.length a,.slice B ys.length b,.slice C l.length c]):=.new rfl;have hk':(k==1)=false:=by simpa using hk
 have lm:l.length<=maxLen:=by omega
 replace hC:=Hd hC;replace mc:=Hd mc;replace lm:=Hd lm;clear hk
 cases h1:((l.length:Int)==n)
 ·have h1':((l.length:Int) != n)=true:=by simp only[bne,h1];rfl
  go_enter Tryz.func70,Tryz.ntmps70;go_wp2;go_ret;exact⟨rfl,by(repeat (first | assumption | exact Ext.rf _ | apply Ext.drew | apply Ext.drewN | apply Ext.alloc))⟩
 ·have h1':((l.length:Int) != n)=false:=by simp only[bne,h1];rfl
  cases h2:(cap==0)
  ·have h2':(cap != 0)=true:=by simp only[bne,h2];rfl
   go_enter Tryz.func70,Tryz.ntmps70;go_wp2;go_ret;exact⟨rfl,by(repeat (first | assumption | exact Ext.rf _ | apply Ext.drew | apply Ext.drewN | apply Ext.alloc))⟩
  ·have h2':(cap != 0)=false:=by simp only[bne,h2];rfl
   by_cases hs:xs.length+ys.length=0
   ·have hs1:decide (xs.length+ys.length=0)=true:=by simpa using hs
    rw[hs1];have l0:xs.length=0:=by omega
    have l1:ys.length=0:=by omega
    rw[l0,l1] at B1 ⊢;clear hs hs1 l0 l1 lx ly;go_enter Tryz.func70,Tryz.ntmps70;go_wp2_with (fail);refine(Zdw _ _ (fun m=>(m:Int) != n) JY C c l _ (hC.out.ext ((Ext.rf _).alloc _) fun _ _ h=>h.ext ((Ext.rf _).alloc _)) lm.out ?_).mono ?_
    ·intro W D r d _ hx
     exact Zdx D r.length d w.heap.size n _ W (B1.out.ext hx) rfl
    rintro e w' ⟨rfl,x'⟩;go_wp2;go_ret;exact⟨by simp,Ext.tr (a:=w) (by(repeat (first | assumption | exact Ext.rf _ | apply Ext.drew | apply Ext.drewN | apply Ext.alloc))) x'⟩
   ·have hs1:decide (xs.length+ys.length=0)=false:=by simpa using hs
    rw[hs1];have hs2:(0:Int)<(xs.length:Int)+(ys.length:Int):=by omega
    clear hs hs1;go_enter Tryz.func70,Tryz.ntmps70;go_wp2;go_ret;exact⟨rfl,by(repeat (first | assumption | exact Ext.rf _ | apply Ext.drew | apply Ext.drewN | apply Ext.alloc))⟩
theorem U9 {k n:Int}(h:Xt k n=0) : k=1\/k=2\/k=3:=by
 unfold Xt at h;split at h
 ·exact .inl ‹_›
 ·split at h
  ·exact .inr (.inl ‹_›)
  ·split at h
   ·exact .inr (.inr ‹_›)
   ·cases h
theorem ZA (i:InstP)(vs:List Value)(w:World)(H:RInst w vs i)(lw:i.weight.length<=1000000000)(lv:i.value.length<=1000000000) :
  Calls Tryz.prog 34 #[.agg (List.toArray vs)] w fun e w'=>e=.returned (.int .i64 (Zl i))/\Ext w w':=by
 obtain⟨k,n,cap,xs,ys,l⟩:=i;obtain⟨A,a,B,b,C,c,rfl,⟨rA,iA,lA,mA⟩,⟨rB,iB,lB,mB⟩,⟨rC,lC,mC⟩⟩:=H;simp only at *;have B1:Hid (Blk (w.alloc (.cells #[.int .i64 k,.int .i64 n,.int .i64 cap,.slice A xs.length a,.slice B ys.length b,.slice C l.length c] 25)) w.heap.size 25 #[.int .i64 k,.int .i64 n,.int .i64 cap,.slice A xs.length a,.slice B ys.length b,.slice C l.length c]):=.new rfl;replace rA:=Hd rA;replace rB:=Hd rB;replace rC:=Hd rC;replace iA:=Hd iA;replace iB:=Hd iB;replace mA:=Hd mA;replace mB:=Hd mB;replace mC:=Hd mC;have X1:Ext w (w.alloc (.cells #[.int .i64 k,.int .i64 n,.int .i64 cap,.slice A xs.length a,.slice B ys.length b,.slice C l.length c] 25)):=(Ext.rf _).alloc _;replace X1:=Hd X1;go_enter Tryz.func34,Tryz.ntmps34;go_wp2_with (fail);refine(Zds k n cap _ _ _ _).mono ?_;rintro e w2 ⟨rfl,x2⟩;have X2:=Hd (Ext.tr X1.out x2);have B2:=Hd (B1.out.ext x2);have d0:=B2.out.c0;have d1:=B2.out.c1;have d2:=B2.out.c2;have d3:=B2.out.c3;have d4:=B2.out.c4;have d5:=B2.out.c5
 by_cases hs:Xt k n=0
 ·have hs':(Xt k n != 0)=false:=by simpa using hs
  have qHS:Zl ⟨k,n,cap,xs,ys,l⟩=(if WG ⟨k,n,cap,xs,ys,l⟩=true then(if k=1 then ZR cap xs ys xs.length else YF k 0 l) else 8):=by
   unfold Zl;simp only[if_pos hs]
  have HS:=Hd qHS;clear qHS;have kk:=U9 hs;replace hs:=Hd hs;clear x2
  by_cases k1:k=1
  ·subst k1
   have qHS2:Zl ⟨1,n,cap,xs,ys,l⟩=(if (((xs.length:Int)==n)&&((ys.length:Int)==n)&&((l.length:Int)==0))=true then ZR cap xs ys xs.length else 8):=by
    have h1:=HS.out;unfold WG at h1
    simpa only [if_true] using h1
   have HS2:=Hd qHS2;clear qHS2;clear HS;go_wp2_with (fail);refine(Za3 n cap A B C a b c xs ys l _).mono ?_;rintro e w3 ⟨rfl,x3⟩;have X3:=Hd (Ext.tr X2.out x3);have B3:=Hd (B2.out.ext x3);have e0:=B3.out.c0;have e1:=B3.out.c1;have e2:=B3.out.c2;have e3:=B3.out.c3;have e4:=B3.out.c4;have e5:=B3.out.c5;clear d0 d1 d2 d3 d4 d5 x3 kk
   cases hh:(((xs.length:Int)==n)&&((ys.length:Int)==n)&&((l.length:Int)==0)) with
   | false =>
    have qHC:Zl ⟨1,n,cap,xs,ys,l⟩=8:=by
     have h1:=HS2.out;rw[hh,if_neg (by decide)] at h1;exact h1
    have HC:=Hd qHC;clear qHC;clear hh;go_wp2;go_ret;exact⟨Yv HC.out.symm,X3.out⟩
   | true =>
    have qHC:Zl ⟨1,n,cap,xs,ys,l⟩=ZR cap xs ys xs.length:=by
     have h1:=HS2.out;rw[hh,if_pos rfl] at h1;exact h1
    have HC:=Hd qHC;clear qHC;simp only[Bool.and_eq_true,beq_iff_eq] at hh;obtain⟨⟨rfl,hy⟩,hz⟩:=hh;clear HS2;have hyx:Hid (xs.length=ys.length):=by(have:xs.length=ys.length:=by omega);exact this
    clear hy hz;go_wp2_with (fail);refine(Zcf A B a b 1 cap xs ys _ _ (rA.out.ext X3.out) (rB.out.ext X3.out) lA mA.out lB mB.out hyx.out).mono ?_;rintro e w4 ⟨rfl,x4⟩;go_wp2;go_ret;exact⟨Yv HC.out.symm,Ext.tr X3.out x4⟩
  ·have k1':(k==1)=false:=by simpa using k1
   have qHS2:Zl ⟨k,n,cap,xs,ys,l⟩=(if ((((l.length:Int)==n)&&(cap==0)&&decide (xs.length+ys.length=0)) && !(l.any fun r=>(r.length:Int) != n))=true then YF k 0 l else 8):=by
    have h1:=HS.out;unfold WG at h1
    simpa only [if_neg k1] using h1
   have HS2:=Hd qHS2;clear qHS2;clear HS;go_wp2_with (fail);refine(Za4 k n cap A B C a b c xs ys l _ k1 (rC.out.ext X2.out fun _ _ h=>h.ext X2.out) lC mC.out lw lv).mono ?_;rintro e w3 ⟨rfl,x3⟩;have X3:=Hd (Ext.tr X2.out x3);have B3:=Hd (B2.out.ext x3);have e0:=B3.out.c0;have e1:=B3.out.c1;have e2:=B3.out.c2;have e3:=B3.out.c3;have e4:=B3.out.c4;have e5:=B3.out.c5;clear d0 d1 d2 d3 d4 d5 x3 kk k1;generalize ((((l.length:Int)==n)&&(cap==0)&&decide (xs.length+ys.length=0)) && !(l.any fun r=>(r.length:Int) != n))=hh at HS2 ⊢
   cases hh with
   | false =>
    have HC:Hid (Zl ⟨k,n,cap,xs,ys,l⟩=8):=HS2.out;clear HS2;go_wp2;go_ret;exact⟨Yv HC.out.symm,X3.out⟩
   | true =>
    have HC:Hid (Zl ⟨k,n,cap,xs,ys,l⟩=YF k 0 l):=HS2.out;clear HS2;go_wp2_with (fail);refine(Zdt k n cap _ _ C c l _ (rC.out.ext X3.out fun _ _ h=>h.ext X3.out) lC mC.out).mono ?_;rintro e w4 ⟨rfl,x4⟩;go_wp2;go_ret;exact⟨Yv HC.out.symm,Ext.tr X3.out x4⟩
 ·have hs':(Xt k n != 0)=true:=by simpa using hs
  have qHC:Zl ⟨k,n,cap,xs,ys,l⟩=Xt k n:=by
   unfold Zl;simp only[if_neg hs]
  have HC:=Hd qHC;clear qHC;clear hs;go_wp2;go_ret;exact⟨Yv HC.out.symm,X2.out⟩
theorem Zdy (g:Nat)(lb:Array Value)(p:Int->Bool)(eg:∀ args w,(callFunc g args).run Tryz.prog w=.ok (.enter g args) w)(A:Option Addr)(c:Nat)(xs:List Int)(w:World)(hA:RdI w A xs)(lx:xs.length<=maxLen)(hp:Zdu g lb (Value.int .i64) p xs w) :
  Calls Tryz.prog 164 #[.slice A xs.length c,.func (.func g) #[] lb] w fun e w'=>e=.returned (.int .i64 (Xk p 0 xs))/\Ext w w':=by
 unfold maxLen at lx;go_enter Tryz.func164,Tryz.ntmps164;go_wp2_with (fail);go_loopw [8] (fun i wr=>∃ j:Nat,i=.int .i64 j/\j<=xs.length/\Hid (Xk p 0 xs=Xk p j (xs.drop j))/\Ext w wr) (fun i _=>xs.length-(intOf i).toNat)
 case atStart=>exact⟨0,rfl,by omega,by exact rfl,Ext.rf _⟩
 case round =>
  obtain⟨j,rfl,hj,HJ,Y⟩:=hrel
  by_cases hlt:j<xs.length
  ·obtain⟨b,off,x,rfl,_,hc,hx,hd⟩:=(hA.ext Y).at hlt
   have hcall:=hp wr x (List.mem_of_getElem? hx.out) Y;clear hp
   cases hq:p x with
   | true =>
    rw[hq] at hcall;have HR:Hid (Xk p 0 xs=j):=by
     have h1:=HJ.out;rw[hd.out,Xk,if_pos hq] at h1;exact h1
    clear hq;go_wp2_with (go_at_fn g;refine hcall.mono ?_;rintro e w' ⟨rfl,x'⟩);go_ret;exact⟨Yv HR.out.symm,Ext.tr Y x'⟩
   | false =>
    rw[hq] at hcall;have HR:Hid (Xk p 0 xs=Xk p (j+1) (xs.drop (j+1))):=by
     have h1:=HJ.out;rw[hd.out,Xk,if_neg (by simp[hq])] at h1;exact h1
    clear hq;go_wp2_with (go_at_fn g;refine hcall.mono ?_;rintro e w' ⟨rfl,x'⟩);go_roundw
    case rel=>exact⟨j+1,by go_num,by omega,HR,Ext.tr Y x'⟩
    case measure=>simp[intOf];omega
  ·have hd:=VO (xs:=xs) (k:=j) (by omega)
   have HR:Hid (Xk p 0 xs=-1):=by
    have h1:=HJ.out;rw[hd.out,Xk] at h1;exact h1
   clear hd hp;go_wp2;go_ret;exact⟨Yv HR.out.symm,Y⟩
theorem Zdz (g:Nat)(lb:Array Value)(p:Int->Bool)(eg:∀ args w,(callFunc g args).run Tryz.prog w=.ok (.enter g args) w)(A:Option Addr)(c:Nat)(xs:List Int)(w:World)(hA:RdI w A xs)(lx:xs.length<=maxLen)(hp:Zdu g lb (Value.int .i64) p xs w) :
  Calls Tryz.prog 123 #[.slice A xs.length c,.func (.func g) #[] lb] w fun e w'=>e=.returned (.bool (xs.any p))/\Ext w w':=by
 have H:=Hd (U8 p 0 xs);go_enter Tryz.func123,Tryz.ntmps123;go_wp2_with (fail);refine(Zdy g lb p eg A c xs _ hA lx hp).mono ?_;rintro e w' ⟨rfl,x'⟩;clear hp;go_wp2;go_ret;exact⟨QR H.out,x'⟩
theorem Zcg (n:Int)(w:World) : Calls Tryz.prog 124 #[.int .i64 n] w fun e w'=>e=.returned (.bool (decide (n<0)))/\Ext w w':=by
 go_enter Tryz.func124,Tryz.ntmps124;go_wp2;go_ret;exact⟨rfl,Ext.rf _⟩
theorem Ju : ∀ args w,(callFunc 124 args).run Tryz.prog w=.ok (.enter 124 args) w:=enters_of Tryz.func124 (by kernel_rfl) rfl
theorem JZ (A:Option Addr)(c:Nat)(xs:List Int)(w:World)(hA:RdI w A xs)(lx:xs.length<=maxLen) :
  Calls Tryz.prog 123 #[.slice A xs.length c,.func (.func 124) #[] #[]] w fun e w'=>e=.returned (.bool (xs.any fun n=>decide (n<0)))/\Ext w w' :=
 Zdz _ #[] (fun n=>decide (n<0)) Ju A c xs w hA lx fun W x _ _=>Zcg x W
theorem Uk (x:Int)(h₀:0<=x)(h₁:x<18446744073709551616) : bits .and .u64 x 4294967295=x%4294967296:=bits_mask .u64 64 (by decide) wraps_u64 32 (by decide) x h₀ h₁
theorem Qa {a b:Int}(ha:0<=a)(ha':a<=2147483647)(hb:0<=b)(hb':b<=2147483647) : 0<=a*b/\a*b<=4611686014132420609:=by
 refine⟨Int.mul_nonneg ha hb,?_⟩;have h1:a*b<=2147483647*b:=Int.mul_le_mul_of_nonneg_right ha' hb;omega
theorem QT (a b:Int)(w:World)(ha:0<=a)(ha':a<=2147483647)(hb:0<=b)(hb':b<=2147483647) :
  Calls Tryz.prog 145 #[.int .u64 a,.int .u64 b] w fun e w'=>e=.returned (.tuple #[.int .u64 0,.int .u64 (a*b)])/\Ext w w':=by
 have ea:Hid (bits BinOp.and IntKind.u64 a 4294967295=a):=by
  have h:=Uk a ha (by omega);rw[Int.emod_eq_of_lt ha (by omega)] at h;exact h
 have eb:Hid (bits BinOp.and IntKind.u64 b 4294967295=b):=by
  have h:=Uk b hb (by omega);rw[Int.emod_eq_of_lt hb (by omega)] at h;exact h
 have da:Hid (a / 4294967296=0):=Hd (by omega);have db:Hid (b / 4294967296=0):=Hd (by omega);have hm:=Qa ha ha' hb hb';have wm:Hid (IntKind.u64.wrap (a*b)=a*b):=wraps_u64 _ hm.1 (by omega);have dm:Hid (∃ q:Int,0<=q/\q<4294967296/\a*b / 4294967296=q):=by
  have h:∃ q:Int,0<=q/\q<4294967296/\a*b / 4294967296=q:=⟨_,by omega,by omega,rfl⟩;exact h
 have w0:Hid (IntKind.u64.wrap 0=0):=Hd (by decide);clear hm;go_enter Tryz.func145,Tryz.ntmps145;go_wp2;refine bodyPost_ret (v:=.tuple #[.int .u64 0,.int .u64 (a*b)]) ?_ rfl ⟨rfl,Ext.rf _⟩;obtain⟨q,hq0,hq1,hq⟩:=dm.out;have w1:=ea.out;have w2:=eb.out;have w3:=da.out;have w4:=db.out;have w5:=wm.out;have w6:=w0.out;have wq:=wraps_u64 q hq0 (by omega);have dq:q / 4294967296=0:=by omega
 have aq:bits BinOp.and IntKind.u64 q 4294967295=q:=by
  have h:=Uk q hq0 (by omega);rw[Int.emod_eq_of_lt hq0 hq1] at h;exact h
 simp only[w1,w2,w3,w4,w5,w6,hq,Int.zero_mul,Int.mul_zero,Int.add_zero,Int.zero_add,wq,dq,aq];simp[results,Tryz.results145,go_sem]
theorem Qb (a:Int)(w:World)(ha:0<=a)(ha':a<=2147483647) :
  Calls Tryz.prog 180 #[.int .i64 a] w fun e w'=>e=.returned (.int .u64 a)/\Ext w w':=by
 have wm:IntKind.u64.wrap a=a:=wraps_u64 _ ha (by omega);go_enter Tryz.func180,Tryz.ntmps180;go_wp2;go_ret;exact⟨rfl,Ext.rf _⟩
def YQ (a b:Int) : Int:=if a=0\/b=0 then 0 else 1
theorem UH (a b:Int)(w:World)(ha:0<=a)(ha':a<=2147483647)(hb:0<=b)(hb':b<=2147483647) :
  Calls Tryz.prog 165 #[.int .i64 a,.int .i64 b] w fun e w'=>e=.returned (.tuple #[.int .i64 (YQ a b),.agg #[.int .u64 0,.int .u64 (a*b)]])/\Ext w w':=by
 have na:decide (a<0)=false:=by simpa using ha
 have nb:decide (b<0)=false:=by simpa using hb
 have B0:Hid (Blk (w.alloc (.cells #[.int .u64 0,.int .u64 0] 218)) w.heap.size 218 #[.int .u64 0,.int .u64 0]):=.new rfl;go_enter Tryz.func165,Tryz.ntmps165;go_wp2_with (fail);refine(Qb a _ ha ha').mono ?_;rintro e w1 ⟨rfl,x1⟩;go_wp2_with (fail);refine(Qb b _ hb hb').mono ?_;rintro e w2 ⟨rfl,x2⟩;go_wp2_with (fail);refine(QT a b _ ha ha' hb hb').mono ?_;rintro e w3 ⟨rfl,x3⟩;have X3:Ext w w3:=Ext.tr (Ext.tr (Ext.tr ((Ext.rf w).alloc _) x1) x2) x3;have B3:=Hd (((B0.out.ext x1).ext x2).ext x3);have X4:=Hd ((X3.setNew (p:=⟨w.heap.size,0,none⟩) (Nat.le_refl _) (.int .u64 0)).setNew (p:=⟨w.heap.size,1,none⟩) (Nat.le_refl _) (.int .u64 (a*b)));have c0:=B3.out.c0;have c1:=B3.out.c1;have f0:=B3.out.free 0;have f1:=B3.out.free 1;clear X3
 by_cases a0:a=0
 ·subst a0
  have e1:Hid (YQ 0 b=0):=rfl;have e2:Hid ((0:Int)*b=0):=Int.zero_mul b;have X5:Hid (Ext w ((w3.setCell ⟨w.heap.size,0,none⟩ (.int .u64 0)).setCell ⟨w.heap.size,1,none⟩ (.int .u64 0))):=by
   have h:=X4.out;rw[e2.out] at h;exact h
  clear X4;go_wp2;exact bodyPost_ret (v:=.tuple #[.int .i64 0,.agg #[.int .u64 0,.int .u64 0]]) (by simp[results,Tryz.results165,go_sem, *]) rfl ⟨by rw[e1.out,e2.out],X5.out⟩
 ·have a0':(a==0)=false:=by simpa using a0
  by_cases b0:b=0
  ·subst b0
   have e1:Hid (YQ a 0=0):=Hd (by simp[YQ]);have e2:Hid (a*(0:Int)=0):=Int.mul_zero a;have X5:Hid (Ext w ((w3.setCell ⟨w.heap.size,0,none⟩ (.int .u64 0)).setCell ⟨w.heap.size,1,none⟩ (.int .u64 0))):=by
    have h:=X4.out;rw[e2.out] at h;exact h
   clear X4 a0;go_wp2;exact bodyPost_ret (v:=.tuple #[.int .i64 0,.agg #[.int .u64 0,.int .u64 0]]) (by simp[results,Tryz.results165,go_sem, *]) rfl ⟨by rw[e1.out,e2.out],X5.out⟩
  ·have b0':(b==0)=false:=by simpa using b0
   have e1:Hid (YQ a b=1):=Hd (by simp[YQ,a0,b0]);clear a0 b0;go_wp2;exact bodyPost_ret (v:=.tuple #[.int .i64 1,.agg #[.int .u64 0,.int .u64 (a*b)]]) (by simp[results,Tryz.results165,go_sem, *]) rfl ⟨by rw[e1.out],X4.out⟩
def Jv (x y:Int) : Int:=if x=y then 0 else if x<y then -1 else 1
theorem Zch (x y:Int)(w:World) : Calls Tryz.prog 166 #[.agg #[.int .u64 0,.int .u64 x],.agg #[.int .u64 0,.int .u64 y]] w fun e w'=>e=.returned (.int .i64 (Jv x y))/\Ext w w':=by
 unfold Jv
 by_cases h:x=y
 ·subst h
  rw[if_pos rfl];go_enter Tryz.func166,Tryz.ntmps166;go_wp2;go_ret;exact⟨rfl,by(repeat (first | assumption | exact Ext.rf _ | apply Ext.drew | apply Ext.drewN | apply Ext.alloc))⟩
 ·rw[if_neg h]
  by_cases h1:x<y
  ·rw[if_pos h1]
   have h':(x==y)=false:=by simpa using h
   clear h;go_enter Tryz.func166,Tryz.ntmps166;go_wp2;go_ret;exact⟨rfl,by(repeat (first | assumption | exact Ext.rf _ | apply Ext.drew | apply Ext.drewN | apply Ext.alloc))⟩
  ·rw[if_neg h1]
   have h':(x==y)=false:=by simpa using h
   clear h;go_enter Tryz.func166,Tryz.ntmps166;go_wp2;go_ret;exact⟨rfl,by(repeat (first | assumption | exact Ext.rf _ | apply Ext.drew | apply Ext.drewN | apply Ext.alloc))⟩
theorem Wn (a b:Int) : YQ a b=0\/YQ a b=1:=by unfold YQ;split<;>simp
def Vu (a b c d:Int) : Int:=if YQ a b<YQ c d then -1 else if YQ c d<YQ a b then 1 else YQ a b*Jv (a*b) (c*d)
theorem Zci (a b c d:Int)(w:World)(ha:0<=a/\a<=2147483647)(hb:0<=b/\b<=2147483647)(hc:0<=c/\c<=2147483647)(hd:0<=d/\d<=2147483647) :
  Calls Tryz.prog 128 #[.int .i64 a,.int .i64 b,.int .i64 c,.int .i64 d] w fun e w'=>e=.returned (.int .i64 (Vu a b c d))/\Ext w w':=by
 have s1:=Wn a b;have s2:=Wn c d;have HC:Hid (Vu a b c d=if YQ a b<YQ c d then -1 else if YQ c d<YQ a b then 1 else YQ a b*Jv (a*b) (c*d)):=rfl;have HO:-1<=Jv (a*b) (c*d)/\Jv (a*b) (c*d)<=1:=by unfold Jv;split<;>(try split)<;>omega
 have P1:=UH a b;have P2:=UH c d;have M1:=Qa ha.1 ha.2 hb.1 hb.2;have M2:=Qa hc.1 hc.2 hd.1 hd.2;generalize Vu a b c d=res at *;generalize YQ a b=s at *;generalize YQ c d=t at *;generalize a*b=p at *;generalize c*d=q at *;replace P1:=Hd P1;replace P2:=Hd P2;have O1:=Hd (Zch p q);generalize Jv p q=r at *;go_enter Tryz.func128,Tryz.ntmps128;go_wp2_with (fail);refine(P1.out _ ha.1 ha.2 hb.1 hb.2).mono ?_;rintro e w1 ⟨rfl,x1⟩;go_wp2_with (fail);refine(P2.out _ hc.1 hc.2 hd.1 hd.2).mono ?_;rintro e w2 ⟨rfl,x2⟩;have B1:Blk (w1.alloc (.cells #[.int .u64 0,.int .u64 p] 218)) w1.heap.size 218 #[.int .u64 0,.int .u64 p]:=.new rfl;have B2:=Hd (B1.ext x2);have c0:=B2.out.c0;have c1:=B2.out.c1;have lt1:w1.heap.size<w2.heap.size:=B2.out.lt;have X2:Ext w w2:=Ext.tr (Ext.tr x1 ((Ext.rf _).alloc _)) x2;clear B1;rcases s1 with rfl | rfl
 ·rcases s2 with rfl | rfl
  ·go_wp2_with (fail)
   refine(O1.out _).mono ?_;rintro e w3 ⟨rfl,x3⟩;go_wp2;go_ret;exact⟨Yv (by rw[HC.out];simp),Ext.tr (a:=w) (by(repeat (first | assumption | exact Ext.rf _ | apply Ext.drew | apply Ext.drewN | apply Ext.alloc))) x3⟩
  ·go_wp2_with (fail)
   go_ret;exact⟨Yv (by rw[HC.out];simp),by(repeat (first | assumption | exact Ext.rf _ | apply Ext.drew | apply Ext.drewN | apply Ext.alloc))⟩
 ·rcases s2 with rfl | rfl
  ·go_wp2_with (fail)
   go_ret;exact⟨Yv (by rw[HC.out];simp),by(repeat (first | assumption | exact Ext.rf _ | apply Ext.drew | apply Ext.drewN | apply Ext.alloc))⟩
  ·go_wp2_with (fail)
   refine(O1.out _).mono ?_;rintro e w3 ⟨rfl,x3⟩;go_wp2;go_ret;exact⟨Yv (by rw[HC.out];simp),Ext.tr (a:=w) (by(repeat (first | assumption | exact Ext.rf _ | apply Ext.drew | apply Ext.drewN | apply Ext.alloc))) x3⟩
theorem Za5 {a b c d:Int}(ha:0<=a)(hb:0<=b)(hc:0<=c)(hd:0<=d) : 0<Vu a b c d↔c*d<a*b:=by
 have hp:=Int.mul_nonneg ha hb;have hq:=Int.mul_nonneg hc hd;have z1:YQ a b=0↔a*b=0:=by unfold YQ;rw[Int.mul_eq_zero];split<;>simp_all
 have z2:YQ c d=0↔c*d=0:=by unfold YQ;rw[Int.mul_eq_zero];split<;>simp_all
 have s1:=Wn a b;have s2:=Wn c d;unfold Vu;generalize YQ a b=s at *;generalize YQ c d=t at *;generalize a*b=p at *;generalize c*d=q at *;rcases s1 with rfl | rfl<;>rcases s2 with rfl | rfl<;>simp at * <;> (try unfold Jv)<;>(try (split<;>(try split)))<;>omega
end Go.Proofs.YtmojhhlcocjoaaaGreatDoor
