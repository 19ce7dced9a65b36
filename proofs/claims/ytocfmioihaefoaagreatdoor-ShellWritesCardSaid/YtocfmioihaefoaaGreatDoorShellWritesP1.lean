/- parts, packed by a program -/
import Derived.Test.YtocfmioihaefoaaGreatDoorRows
import Derived.WalkKit
import Derived.ProofKit
import Derived.OpenShut
import Derived.BigQuiet
import Derived.Deep.QuietTactic
import Derived.Deep.Slices
import Derived.Lib.Hide
import Derived.Lib.SmallJoins
import Derived.Deep.RegionHeld3
import Derived.StillTailTactics
import Derived.Deep.RegionLaw
import Derived.WalkSpells
import Derived.Deep.DeepFit
import Derived.JoinedCond
import Derived.Lib.ItoaNum
import Derived.Lib.Join
import Derived.Lib.SplitLaws
import Derived.Lib.IndexBytes
import Derived.Lib.OthersKept
import Derived.Shelf.Lays
import Derived.Shelf.Strings.Split
import Derived.Shelf.Strings.OnBuilder
import Derived.Maps.AppendAt
import Derived.Shelf.Strings.Cut
import Derived.Shelf.Small.Wraps
import Derived.Shelf.Strings.Prefix
import Derived.RegionTactic
import Derived.Deep.DeepCutAuto
import Derived.Shelf.Abstract
import Derived.Shelf.LaysM
import Derived.Shelf.Strconv.Itoa3
import Derived.Lib.AppendIntMem
import Derived.Lib.ItoaLen
import Derived.Shelf.Strings.BuilderK
import Derived.Laws.BytesArg
set_option maxRecDepth 100000
set_option maxHeartbeats 16000000
set_option linter.all false
namespace Go.Proofs.YtocfmioihaefoaaGreatDoor
open Go.ChangeAt Go.ChangeShapes Go.RowKit Go.WideShapes
section
abbrev Ext (w w':World) : Prop:=Below w.heap.size w w'
theorem Hq {α β γ:Sort _}{P:α->β->γ->Prop}(a:α)(b:β)(c:γ)(h:P a b c) : P a b c:=h
theorem Hd {p:Prop}(h:p) : Hid p:=Lib.hid h
theorem Wq (w:World) : ∃ v:World,v=w:=⟨_,rfl⟩
theorem Ext.rf (w:World) : Ext w w:=Below.refl _ _
theorem Ext.tr {a b c:World}(h:Ext a b)(k:Ext b c) : Ext a c:=Below.trans h (Below.mono k h.size)
theorem Ext.drewN {a b:World}(h:Ext a b)(n:Nat) : Ext a (b.drewN n):=⟨h.os,h.tape,h.output,h.size,h.block⟩
theorem Ext.drew {a b:World}(h:Ext a b) : Ext a b.drew:=Below.drew h
theorem Ext.alloc {a b:World}(h:Ext a b)(o:Obj) : Ext a (b.alloc o):=Below.alloc h h.size o
instance extRf (a:World) : Nonempty (Ext a a):=⟨Ext.rf a⟩
instance extDrew (a b:World)[h:Nonempty (Ext a b)] : Nonempty (Ext a b.drew):=⟨Ext.drew (h.elim id)⟩
instance extDrewN (a b:World)(n:Nat)[h:Nonempty (Ext a b)] : Nonempty (Ext a (b.drewN n)):=⟨Ext.drewN (h.elim id) n⟩
instance extAlloc (a b:World)(o:Obj)[h:Nonempty (Ext a b)] : Nonempty (Ext a (b.alloc o)):=⟨Ext.alloc (h.elim id) o⟩
theorem XI {a b:World}[h:Nonempty (Ext a b)] : Ext a b:=h.elim id
theorem Ext.setNew {a b:World}(h:Ext a b){p:Addr}(hp:a.heap.size<=p.block)(u:Value) : Ext a (b.setCell p u):=Below.setCell h hp u
theorem Ext.cells {W w1:World}(hb:Ext W w1) : (∀ b o,b<W.heap.size->w1.cell? ⟨b,o,none⟩=W.cell? ⟨b,o,none⟩)/\(∀ b o,b<W.heap.size->w1.frozen? ⟨b,o,none⟩=W.frozen? ⟨b,o,none⟩) :=
 ⟨fun b o h=>hb.cell (p:=⟨b,o,none⟩) h,fun b o h=>hb.frozen (p:=⟨b,o,none⟩) h⟩
def RdI (w:World)(A:Option Addr)(xs:List Int) : Prop :=
 xs=[]\/∃ b off,A=some ⟨b,off,none⟩/\b<w.heap.size/\∀ j x,xs[j]?=some x->w.cell? ⟨b,off+j,none⟩=some (.int .i64 x)
theorem RdI.at {w:World}{A:Option Addr}{xs:List Int}(h:RdI w A xs){k:Nat}(hk:k<xs.length) :
  ∃ b off x,A=some ⟨b,off,none⟩/\b<w.heap.size/\w.cell? ⟨b,off+k,none⟩=some (.int .i64 x)/\Hid (xs[k]?=some x)/\Hid (xs.drop k=x::xs.drop (k+1)):=by
 rcases h with rfl | ⟨b,off,rfl,hb,hc⟩
 ·simp at hk
 ·have e:xs[k]?=some xs[k]:=List.getElem?_eq_getElem hk
  exact⟨b,off,xs[k],rfl,hb,hc k _ e,e,List.drop_eq_getElem_cons hk⟩
theorem RdI.ext {w w':World}{A:Option Addr}{xs:List Int}(h:RdI w A xs)(hb:Ext w w') : RdI w' A xs:=by
 rcases h with rfl | ⟨b,off,rfl,hb',hc⟩
 ·exact .inl rfl
 ·exact .inr ⟨b,off,rfl,by have:=hb.size;omega,fun j x hj=>by rw[hb.cell hb'];exact hc j x hj⟩
theorem RdI.take {w:World}{A:Option Addr}{xs:List Int}(h:RdI w A xs)(n:Nat) : RdI w A (xs.take n):=by
 rcases h with rfl | ⟨b,off,rfl,hb',hc⟩
 ·exact .inl (by simp)
 ·exact .inr ⟨b,off,rfl,hb',fun j x hj=>hc j x (by rw[List.getElem?_take] at hj;split at hj<;>simp_all)⟩
def Blk (w:World)(g:Nat)(t:TypeId)(cs:Array Value) : Prop:=w.heap[g]?=some (.cells cs t (0,0))
section
variable {w w':World} {g:Nat} {t:TypeId} {cs:Array Value}
theorem Blk.lt (h:Blk w g t cs) : g<w.heap.size:=(Array.getElem?_eq_some_iff.1 h).1
theorem Blk.cell (h:Blk w g t cs)(i:Nat) : w.cell? ⟨g,i,none⟩=cs[i]?:=cell_of_row w g i cs t (0,0) h
theorem Blk.c0 {w:World}{g:Nat}{t:TypeId}{v0:Value}{r:List Value}(h:Blk w g t (List.toArray (v0::r))) : w.cell? ⟨g,0,none⟩=some v0:=h.cell 0
theorem Blk.c1 {w:World}{g:Nat}{t:TypeId}{v0 v1:Value}{r:List Value}(h:Blk w g t (List.toArray (v0::v1::r))) : w.cell? ⟨g,1,none⟩=some v1:=h.cell 1
theorem Blk.c2 {w:World}{g:Nat}{t:TypeId}{v0 v1 v2:Value}{r:List Value}(h:Blk w g t (List.toArray (v0::v1::v2::r))) : w.cell? ⟨g,2,none⟩=some v2:=h.cell 2
theorem Blk.c3 {w:World}{g:Nat}{t:TypeId}{v0 v1 v2 v3:Value}{r:List Value}(h:Blk w g t (List.toArray (v0::v1::v2::v3::r))) : w.cell? ⟨g,3,none⟩=some v3:=h.cell 3
theorem Blk.c4 {w:World}{g:Nat}{t:TypeId}{v0 v1 v2 v3 v4:Value}{r:List Value}(h:Blk w g t (List.toArray (v0::v1::v2::v3::v4::r))) : w.cell? ⟨g,4,none⟩=some v4:=h.cell 4
theorem Blk.c5 {w:World}{g:Nat}{t:TypeId}{v0 v1 v2 v3 v4 v5:Value}{r:List Value}(h:Blk w g t (List.toArray (v0::v1::v2::v3::v4::v5::r))) : w.cell? ⟨g,5,none⟩=some v5:=h.cell 5
theorem Blk.c6 {w:World}{g:Nat}{t:TypeId}{v0 v1 v2 v3 v4 v5 v6:Value}{r:List Value}(h:Blk w g t (List.toArray (v0::v1::v2::v3::v4::v5::v6::r))) : w.cell? ⟨g,6,none⟩=some v6:=h.cell 6
theorem Blk.c7 {w:World}{g:Nat}{t:TypeId}{v0 v1 v2 v3 v4 v5 v6 v7:Value}{r:List Value}(h:Blk w g t (List.toArray (v0::v1::v2::v3::v4::v5::v6::v7::r))) : w.cell? ⟨g,7,none⟩=some v7:=h.cell 7
theorem Blk.c8 {w:World}{g:Nat}{t:TypeId}{v0 v1 v2 v3 v4 v5 v6 v7 v8:Value}{r:List Value}(h:Blk w g t (List.toArray (v0::v1::v2::v3::v4::v5::v6::v7::v8::r))) : w.cell? ⟨g,8,none⟩=some v8:=h.cell 8
theorem Blk.c9 {w:World}{g:Nat}{t:TypeId}{v0 v1 v2 v3 v4 v5 v6 v7 v8 v9:Value}{r:List Value}(h:Blk w g t (List.toArray (v0::v1::v2::v3::v4::v5::v6::v7::v8::v9::r))) : w.cell? ⟨g,9,none⟩=some v9:=h.cell 9
theorem Blk.c10 {w:World}{g:Nat}{t:TypeId}{v0 v1 v2 v3 v4 v5 v6 v7 v8 v9 v10:Value}{r:List Value}(h:Blk w g t (List.toArray (v0::v1::v2::v3::v4::v5::v6::v7::v8::v9::v10::r))) : w.cell? ⟨g,10,none⟩=some v10:=h.cell 10
theorem Blk.c11 {w:World}{g:Nat}{t:TypeId}{v0 v1 v2 v3 v4 v5 v6 v7 v8 v9 v10 v11:Value}{r:List Value}(h:Blk w g t (List.toArray (v0::v1::v2::v3::v4::v5::v6::v7::v8::v9::v10::v11::r))) : w.cell? ⟨g,11,none⟩=some v11:=h.cell 11
theorem Blk.free (h:Blk w g t cs)(i:Nat) : w.frozen? ⟨g,i,none⟩=false:=by
 unfold Blk at h;simp[World.frozen?,h]
theorem Blk.new (h:g=w.heap.size) : Blk (w.alloc (.cells cs t)) g t cs:=by subst h;exact heap_alloc_new w _
theorem Blk.drew (h:Blk w g t cs) : Blk w.drew g t cs:=h
theorem Blk.drewN (h:Blk w g t cs)(n:Nat) : Blk (w.drewN n) g t cs:=h
theorem Blk.alloc (h:Blk w g t cs)(o:Obj) : Blk (w.alloc o) g t cs:=(Below.heap_alloc w o g h.lt).trans h
theorem Blk.set (h:Blk w g t cs)(i:Nat)(u:Value) : Blk (w.setCell ⟨g,i,none⟩ u) g t (cs.setIfInBounds i u):=by
 unfold Blk at h ⊢;simp[World.setCell,Array.getElem?_modify,h]
theorem Blk.far (h:Blk w g t cs){p:Addr}(hp:g≠p.block)(u:Value) : Blk (w.setCell p u) g t cs:=(Below.heap_setCell w p u g hp).trans h
theorem Blk.ext (h:Blk w g t cs)(hb:Ext w w') : Blk w' g t cs:=(hb.block g h.lt).trans h
theorem Blk.below {B:Nat}(h:Blk w g t cs)(hb:Below B w w')(hg:g<B) : Blk w' g t cs:=(hb.block g hg).trans h
theorem Blk.ne {g':Nat}{t':TypeId}{cs':Array Value}(h:Blk w g t cs)(h':Blk w g' t' cs')(hne:t≠t') : g≠g':=by
 rintro rfl;unfold Blk at h h';rw[h] at h'
 injection h' with h'
 injection h' with _ ht
 exact hne ht
theorem Blk.same {cs':Array Value}{t':TypeId}(h:Blk w g t cs)(h':Blk w g t' cs') : cs=cs':=by
 unfold Blk at h h';rw[h] at h'
 injection h' with h'
 injection h' with hc
end
theorem RdI.blk {w:World}{b:Nat}{cs:Array Value}{t:TypeId}{xs:List Int}(h:Blk w b t cs)(hx:cs.toList=xs.map (Value.int .i64)) : RdI w (some ⟨b,0,none⟩) xs:=by
 refine .inr ⟨_,_,rfl,h.lt,fun j x hj=>?_⟩;rw[h.cell];have:cs.toList[0+j]?=some (.int .i64 x):=by rw[hx];simp[hj]
 simpa using this
def Ints (xs:List Int) : Prop:=∀ x∈xs,-9223372036854775808<=x/\x<=9223372036854775807
theorem Yt : 0<=maxLen:=by simp only[maxLen];omega
theorem Ints.nil : Ints []:=fun x hx=>absurd hx List.not_mem_nil
theorem Ints.take {xs:List Int}(h:Ints xs)(n:Nat) : Ints (xs.take n):=fun x hx=>h x (List.mem_of_mem_take hx)
theorem Ints.get {xs:List Int}(h:Ints xs){k:Nat}{x:Int}(hk:xs[k]?=some x) : -9223372036854775808<=x/\x<=9223372036854775807:=h x (List.mem_of_getElem? hk)
theorem UO {α:Type}{xs:List α}{k:Nat}(h:xs.length<=k) : Hid (xs.drop k=[]):=List.drop_of_length_le h
theorem Zfi {w:World}{A:Option Addr}{xs:List Int}(m:Nat)(h:RdI w A xs)(hi:Ints xs) : ∃ ps:List Int,RdI w A ps/\Ints ps/\ps.length<=m/\ps.length<=xs.length/\Hid (ps=xs.take m)/\(if (m:Int)<(xs.length:Int) then(m:Int) else(xs.length:Int))=(ps.length:Int):=by
 refine⟨xs.take m,h.take m,hi.take m,List.length_take_le _ _,by simp only[List.length_take];omega,rfl,?_⟩;simp only[List.length_take];split<;>omega
theorem getD_some {α:Type}{xs:List α}{k:Nat}{x d:α}(h:xs[k]?=some x) : xs.getD k d=x:=by simp[List.getD,h]
theorem Wu {k:IntKind}{a b:Int}(h:a=b) : Ending.returned (.int k a)=.returned (.int k b):=by rw[h]
theorem Zco {a b:Bool}(h:a=b) : Ending.returned (.bool a)=.returned (.bool b):=by rw[h]
theorem own : ownKnob Tryz.prog.godebug=none:=by kernel_rfl
theorem Zfj : laidOutB Tryz.prog=true:=by kernel_rfl
theorem Zgk : Tryz.prog.underlying 4=some .bool:=Tryz.underlying4
theorem Yx : Tryz.prog.cellsOf 3=1:=by kernel_rfl
theorem JV {ts:List TypeId}(h:ts.all (fun t=>Tryz.prog.readableRec t&&decide (t<Tryz.prog.types.size))=true) : ∀ t∈ts,Tryz.prog.readableRec t=true/\t<Tryz.prog.types.size:=fun t ht=>by
 have:=List.all_eq_true.1 h t ht
 simpa using this
theorem Zgl {x:Int}(h:(Lit.int .i64 x).wf=true) : -9223372036854775808<=x/\x<=9223372036854775807:=by
 simpa [Lit.wf,IntKind.min,IntKind.max,IntKind.signed,IntKind.bits] using h
section
variable {H:Type} {enc:TypeId×Value->H}
theorem Uh {W W':World}(hb:Ext W W') : ∀ {ts:List TypeId} {vs:List Value} {ds:List (DataW H)} {p:List MemPlace},(∀ t∈ts,Tryz.prog.readableRec t=true/\t<Tryz.prog.types.size) ->
  DataW.TrodAll enc Tryz.prog W 0 (fun _=>true) true ts vs ds p->(∀ x∈p,x.block<W.heap.size)->DataW.TrodAll enc Tryz.prog W' 0 (fun b=>decide (b<W.heap.size)) true ts vs ds p
 | [],[],[],_,_,h,_=>by simpa [DataW.TrodAll] using h
 | t::ts,v::vs,d::ds,_,hr,h,hlt=>by
  obtain⟨p,q,h0,h1,rfl⟩:=h;exact⟨p,q,Below.trod Zfj (hr t (by simp)).1 (hr t (by simp)).2 h0 hb (fun x hx=>hlt x (by simp[hx])),Uh hb (fun t ht=>hr t (by simp[ht])) h1 (fun x hx=>hlt x (by simp[hx])),rfl⟩
 | [],_::_,_,_,_,h,_=>by simp[DataW.TrodAll] at h
 | [],[],_::_,_,_,h,_=>by simp[DataW.TrodAll] at h
 | _::_,[],_,_,_,h,_=>by simp[DataW.TrodAll] at h
 | _::_,_::_,[],_,_,h,_=>by simp[DataW.TrodAll] at h
theorem ZdN {f:Func}{s:ChangeSpec}{W W':World}{args:Array Value}{ds gs:List (DataW H)}{before:List MemPlace}
  (hW:DataW.Whole enc Tryz.prog f.params.toList s.vars false W args.toList ds gs before) (hvars:s.vars=[]) (hr:f.resultTypes=#[4])
  (hs:(s.fn H (ds++gs)).results=[.lit (.bool true)]) (ha:(s.fn H (ds++gs)).args=ds) (hv:(s.fn H (ds++gs)).vars=[])
  (hp:∀ t∈f.params.toList,Tryz.prog.readableRec t=true/\t<Tryz.prog.types.size) (hb:Ext W W') :
  s.post enc Tryz.prog f false true false false W args (.bool true) W':=by
 have hW':=hW;obtain⟨p,q,hA,hV,rfl,hz,hn⟩:=hW;rw[hvars] at hV;obtain⟨rfl,rfl⟩:=trodVars_none hV;have hlt:∀ x∈p,x.block<W.heap.size:=fun x hx=>by simpa using hW'.lt x (by simp[hx])
 refine⟨ds,[],p++[],[],p,[],hW',?_,?_,?_,hb.frame _,fun h=>by cases h⟩
 ·rw[hs,hr]
  exact trodAll_cons_mk (shut_bool Zgk _) trodAll_mk0
 ·rw[ha]
  exact Uh hb hp hA hlt
 ·rw[hv,hvars]
  simp[DataW.TrodVars]
end
end
section
open Go.Deep
abbrev Txt := List UInt8
def txS (l:Txt) : Value:=.string ⟨l.toArray⟩
def isD (b:UInt8) : Bool:=decide (48<=b.toNat)&&decide (b.toNat<=57)
def Yr (s:Txt) : Txt:=s.takeWhile isD
def Yj (s:Txt) : Int:=s.foldl (fun n b=>n*10+((b.toNat:Int)-48)) 0
def YB (d:Txt) : Int×Int×Int :=
 if d=[]\/(1<d.length/\d.head?=some 48) then(0,0,4)
 else if 18<d.length then(0,0,5)
 else(Yj d,d.length,0)
def Xp (s:Txt) : Int×Int×Int:=YB (Yr s)
def YP (r:Int) : Int :=
 if r=32\/r=9\/r=10\/r=13 then 1 else if 48<=r/\r<=57 then 2
 else if (65<=r/\r<=90)\/(97<=r/\r<=122) then 3 else if r=35 then 4 else 0
theorem ZcI (b:UInt8) : (YP (b.toNat:Int)=2)↔isD b=true:=by
 unfold YP isD;simp only[Bool.and_eq_true,decide_eq_true_eq]
 constructor
 ·intro h
  split at h
  ·omega
  split at h
  ·omega
  split at h
  ·omega
  split at h<;>omega
 ·intro h
  rw[if_neg (by omega),if_pos (by omega)]
theorem Vt (s:Txt) : (Yr s).length<=s.length:=(List.takeWhile_prefix _).length_le
theorem ZdO {s:Txt}(h:∀ b∈s,isD b=true) : Yr s=s:=by
 unfold Yr
 induction s with
 | nil=>rfl
 | cons b s ih=>rw[List.takeWhile_cons,h b (by simp)];simp[ih fun c hc=>h c (by simp[hc])]
theorem ZcJ {s:Txt}{k:Nat}{b:UInt8}(h:∀ j,j<k->∀ c,s[j]?=some c->isD c=true)(hb:s[k]?=some b)(hn:isD b=false) : (Yr s).length=k/\Yr s=s.take k:=by
 induction s generalizing k with
 | nil=>simp at hb
 | cons a s ih =>
  cases k with
  | zero =>
   simp at hb;subst hb;simp[Yr,hn]
  | succ k =>
   have ha:=h 0 (by omega) a (by simp);obtain⟨h1,h2⟩:=ih (k:=k) (fun j hj c hc=>h (j+1) (by omega) c (by simpa using hc)) (by simpa using hb);unfold Yr at h1 h2 ⊢;rw[List.takeWhile_cons,ha];have hk:=(List.getElem?_eq_some_iff.1 (show s[k]?=some b by simpa using hb)).1;simp[h1,h2];omega
theorem Vu (s:Txt) : ∀ b∈Yr s,isD b=true:=by
 unfold Yr
 induction s with
 | nil=>intro b hb;simp at hb
 | cons a s ih =>
  intro b hb;rw[List.takeWhile_cons] at hb
  cases ha:isD a with
  | false=>rw[ha] at hb;simp at hb
  | true =>
   rw[ha] at hb;rcases List.mem_cons.1 hb with rfl | h
   ·exact ha
   ·exact ih b h
theorem Za8 (b:UInt8)(r:Txt) : YB (b::r)=if 0<r.length/\b=48 then(0,0,4) else if 17<r.length then(0,0,5) else(Yj (b::r),((r.length+1:Nat):Int),0):=by
 unfold YB
 by_cases h:0<r.length/\b=48
 ·rw[if_pos h,if_pos (.inr ⟨by simpa using h.1,by simp[h.2]⟩)]
 ·rw[if_neg h,if_neg (by
   rintro (e | ⟨h1,h2⟩)
   ·cases e
   ·exact h ⟨by simpa using h1,by simpa using h2⟩)]
  by_cases h3:17<r.length
  ·rw[if_pos h3,if_pos (by rw[List.length_cons];omega)]
  ·rw[if_neg h3,if_neg (by rw[List.length_cons];omega)]
   rfl
theorem QZ (s:Txt) : s.take (Yr s).length=Yr s:=by
 unfold Yr;exact(List.prefix_iff_eq_take.1 (List.takeWhile_prefix _)).symm
theorem YN (s:Txt)(b:UInt8) : Yj (s++[b])=Yj s*10+((b.toNat:Int)-48):=by unfold Yj;rw[List.foldl_append];rfl
theorem Vf (s:Txt)(h:∀ b∈s,isD b=true) : 0<=Yj s/\Yj s<10^s.length:=by
 have key:∀ (l:Txt) (n:Int),(∀ b∈l,isD b=true)->0<=n->0<=l.foldl (fun n b=>n*10+((b.toNat:Int)-48)) n/\l.foldl (fun n b=>n*10+((b.toNat:Int)-48)) n<(n+1)*10^l.length:=by
  intro l
  induction l with
  | nil=>intro n _ hn;simp;omega
  | cons b l ih =>
   intro n hb hn;have h1:=hb b (by simp);unfold isD at h1;simp only[Bool.and_eq_true,decide_eq_true_eq] at h1;obtain⟨h2,h3⟩:=ih (n*10+((b.toNat:Int)-48)) (fun c hc=>hb c (by simp[hc])) (by omega);refine⟨h2,Int.lt_of_lt_of_le h3 ?_⟩;have hp:(0:Int)<=10^l.length:=Int.pow_nonneg (by decide);have:(n*10+((b.toNat:Int)-48)+1)<=(n+1)*10:=by omega
   calc (n*10+((b.toNat:Int)-48)+1)*10^l.length<=((n+1)*10)*10^l.length:=Int.mul_le_mul_of_nonneg_right this hp
    _=(n+1)*10^(l.length+1):=by rw[Int.pow_succ,Int.mul_assoc,Int.mul_comm 10]
 have:=key s 0 h (Int.le_refl _)
 simpa [Yj] using this
def Zp (c:UInt8) : Txt->List Txt
 | []=>[[]]
 | b::l=>if b=c then []::Zp c l else
  match Zp c l with
  | []=>[[b]]
  | p::r=>(b::p)::r
theorem Xx (c:UInt8)(s:Txt) : Zp c s≠[]:=by
 cases s with
 | nil=>simp[Zp]
 | cons b l =>
  unfold Zp
  by_cases h:b=c
  ·simp[h]
  ·rw[if_neg h];cases Zp c l<;>simp
theorem JW (c:UInt8)(l:Txt) : Lib.index (c::l) [c]=0:=by rw[Lib.index_one];simp[Lib.indexByte]
theorem JX {b c:UInt8}(h:b≠c)(l:Txt) : Lib.index (b::l) [c]=if Lib.index l [c]==-1 then -1 else Lib.index l [c]+1:=by
 rw[Lib.index_one,Lib.index_one,Lib.indexByte];simp[h]
theorem Zgm (c:UInt8)(l:Txt) : -1<=Lib.index l [c]:=by rw[Lib.index_one];exact Lib.indexByte_ge l c
theorem Zcp (c:UInt8) : ∀ s:Txt,Lib.splitK [c] 0 (s.count c) s=Zp c s
 | []=>rfl
 | b::l=>by
  have ih:=Zcp c l
  by_cases h:b=c
  ·subst h
   rw[List.count_cons_self,Lib.splitK,JW,Zp,if_pos rfl,if_neg (by decide),<-ih]
   rfl
  ·rw[List.count_cons_of_ne (by simpa using h),Zp,if_neg h,<-ih]
   cases hk:l.count c with
   | zero=>simp[Lib.splitK]
   | succ k =>
    have hi:=Zgm c l;rw[Lib.splitK,Lib.splitK,JX h]
    by_cases hm:Lib.index l [c]=-1
    ·simp[hm]
    ·obtain⟨j,hj⟩:∃ j:Nat,Lib.index l [c]=j:=⟨(Lib.index l [c]).toNat,by omega⟩
     have e1:(Lib.index l [c]==-1)=false:=by simpa using hm
     have e2:(((j:Int)+1)==-1)=false:=beq_eq_false_iff_ne.2 (by omega);rw[e1,hj];simp only[Bool.false_eq_true,if_false,e2];have e3:((j:Int)+1).toNat=j+1:=by omega
     have e4:(j:Int).toNat=j:=by omega
     rw[e3,e4];have e5:((j:Int)==-1)=false:=beq_eq_false_iff_ne.2 (by omega);simp[e5]
theorem Za9 {d:Txt}(h:∀ b∈d,isD b=true) : 0<=(YB d).1/\(YB d).1<1000000000000000000:=by
 unfold YB;split
 ·exact⟨Int.le_refl _,by decide⟩
 split
 ·exact⟨Int.le_refl _,by decide⟩
 ·rename_i h2
  obtain⟨a,b⟩:=Vf d h;refine⟨a,Int.lt_of_lt_of_le b ?_⟩;have t18:∀ m:Fin 19,(10:Int)^(m:Nat)<=1000000000000000000:=by decide
  exact t18 ⟨d.length,by omega⟩
theorem Ui (s:Txt) : 0<=(Xp s).1/\(Xp s).1<1000000000000000000:=Za9 (Vu s)
end
section
open Go.Deep Go.Lib
theorem YL {a w:World}(h:Ext a w){k:Nat}(hk:a.heap.size<=k)(s:ByteArray)(pos:Nat) : Ext a (w.iterAt k s pos):=Lib.below_iterAt h hk s pos
theorem Wy (s:Txt)(k:Nat)(hk:k<(⟨s.toArray⟩:ByteArray).size) : s[k]?=some ((⟨s.toArray⟩:ByteArray)[k]'hk):=by
 have h2:k<s.length:=by simpa [Lib.size_eq] using hk
 rw[List.getElem?_eq_getElem h2];simp[ByteArray.getElem_eq_getElem_data]
theorem JY (l:Txt)(n:Nat) : (⟨l.toArray⟩:ByteArray).extract 0 n=⟨(l.take n).toArray⟩:=by
 apply ByteArray.ext;apply Array.ext';rw[Lib.extract_data];simp
theorem Zgc : ∀ m:Fin 19,(10:Int)^(m:Nat)<=1000000000000000000:=by decide
end
section
open Go.Shelf
def WS : Go.Shelf.Ren:=⟨fun | 146=>20 | 221=>37 | 268=>67 | 138=>68 | 143=>69 | 195=>134 | 197=>135 | 218=>136 | 219=>137 | 260=>201 | 217=>202 | 225=>203 | 224=>204 | 267=>205 | 266=>262 | 314=>263 | n=>n,fun | 9=>9 | 31=>57 | 3=>3 | 4=>4 | 0=>0 | 105=>251 | 21=>21 | 5=>5 | 46=>298 | 119=>352 | 139=>355 | 138=>354 | 146=>357 | 51=>356 | n=>n,fun | 1=>0 | 3=>1 | 4=>2 | n=>n⟩
theorem split : Lays.n146 Tryz.prog WS where
 mixed:=by kernel_rfl
 f138:=Tryz.func68.trans (congrArg some (by kernel_rfl))
 f143:=Tryz.func69.trans (congrArg some (by kernel_rfl))
 f146:=Tryz.func20.trans (congrArg some (by kernel_rfl))
 f195:=Tryz.func134.trans (congrArg some (by kernel_rfl))
 f197:=Tryz.func135.trans (congrArg some (by kernel_rfl))
 f217:=Tryz.func202.trans (congrArg some (by kernel_rfl))
 f218:=Tryz.func136.trans (congrArg some (by kernel_rfl))
 f219:=Tryz.func137.trans (congrArg some (by kernel_rfl))
 f221:=Tryz.func37.trans (congrArg some (by kernel_rfl))
 f224:=Tryz.func204.trans (congrArg some (by kernel_rfl))
 f225:=Tryz.func203.trans (congrArg some (by kernel_rfl))
 f260:=Tryz.func201.trans (congrArg some (by kernel_rfl))
 f266:=Tryz.func262.trans (congrArg some (by kernel_rfl))
 f267:=Tryz.func205.trans (congrArg some (by kernel_rfl))
 f268:=Tryz.func67.trans (congrArg some (by kernel_rfl))
 f314:=Tryz.func263.trans (congrArg some (by kernel_rfl))
 t0:=Tryz.underlying0
 a0:=Tryz.isAgg0
 z0:=Tryz.sizeOf0
 v0:=Tryz.zeroValue0
 t3:=Tryz.underlying3
 a3:=Tryz.isAgg3
 z3:=Tryz.sizeOf3
 v3:=Tryz.zeroValue3
 t4:=Tryz.underlying4
 a4:=Tryz.isAgg4
 z4:=Tryz.sizeOf4
 v4:=Tryz.zeroValue4
 t5:=Tryz.underlying5
 a5:=Tryz.isAgg5
 z5:=Tryz.sizeOf5
 v5:=Tryz.zeroValue5
 t9:=Tryz.underlying9
 a9:=Tryz.isAgg9
 z9:=Tryz.sizeOf9
 v9:=Tryz.zeroValue9
 t21:=Tryz.underlying21
 a21:=Tryz.isAgg21
 z21:=Tryz.sizeOf21
 v21:=Tryz.zeroValue21
 t31:=Tryz.underlying57
 a31:=Tryz.isAgg57
 z31:=Tryz.sizeOf57
 v31:=Tryz.zeroValue57
 t46:=Tryz.underlying298
 a46:=Tryz.isAgg298
 z46:=Tryz.sizeOf298
 v46:=Tryz.zeroValue298
 t51:=Tryz.underlying356
 a51:=Tryz.isAgg356
 z51:=Tryz.sizeOf356
 v51:=Tryz.zeroValue356
 t105:=Tryz.underlying251
 a105:=Tryz.isAgg251
 z105:=Tryz.sizeOf251
 v105:=Tryz.zeroValue251
 t119:=Tryz.underlying352
 a119:=Tryz.isAgg352
 z119:=Tryz.sizeOf352
 t138:=Tryz.underlying354
 a138:=Tryz.isAgg354
 z138:=Tryz.sizeOf354
 v138:=Tryz.zeroValue354
 t139:=Tryz.underlying355
 a139:=Tryz.isAgg355
 z139:=Tryz.sizeOf355
 v139:=Tryz.zeroValue355
 t146:=Tryz.underlying357
 a146:=Tryz.isAgg357
 z146:=Tryz.sizeOf357
 v146:=Tryz.zeroValue357
 g1:=by kernel_rfl
 g3:=by kernel_rfl
 g4:=by kernel_rfl
def Uj : Go.Shelf.Ren:=⟨fun | 156=>121 | 165=>194 | 166=>195 | 169=>196 | 240=>259 | 241=>260 | 276=>311 | 277=>312 | n=>n,fun | 31=>57 | 9=>9 | 3=>3 | 4=>4 | 0=>0 | 20=>20 | 72=>307 | 76=>311 | 70=>305 | 37=>64 | 75=>310 | 127=>350 | 164=>394 | 5=>5 | 80=>47 | n=>n,fun n=>n⟩
theorem Zfk : Lays.n156 Tryz.prog Uj where
 mixed:=by kernel_rfl
 f156:=Tryz.func121.trans (congrArg some (by kernel_rfl))
 f165:=Tryz.func194.trans (congrArg some (by kernel_rfl))
 f166:=Tryz.func195.trans (congrArg some (by kernel_rfl))
 f169:=Tryz.func196.trans (congrArg some (by kernel_rfl))
 f240:=Tryz.func259.trans (congrArg some (by kernel_rfl))
 f241:=Tryz.func260.trans (congrArg some (by kernel_rfl))
 f276:=Tryz.func311.trans (congrArg some (by kernel_rfl))
 f277:=Tryz.func312.trans (congrArg some (by kernel_rfl))
 t0:=Tryz.underlying0
 a0:=Tryz.isAgg0
 z0:=Tryz.sizeOf0
 v0:=Tryz.zeroValue0
 t3:=Tryz.underlying3
 a3:=Tryz.isAgg3
 z3:=Tryz.sizeOf3
 v3:=Tryz.zeroValue3
 t4:=Tryz.underlying4
 a4:=Tryz.isAgg4
 z4:=Tryz.sizeOf4
 v4:=Tryz.zeroValue4
 t9:=Tryz.underlying9
 a9:=Tryz.isAgg9
 z9:=Tryz.sizeOf9
 v9:=Tryz.zeroValue9
 t20:=Tryz.underlying20
 a20:=Tryz.isAgg20
 z20:=Tryz.sizeOf20
 v20:=Tryz.zeroValue20
 t31:=Tryz.underlying57
 a31:=Tryz.isAgg57
 z31:=Tryz.sizeOf57
 v31:=Tryz.zeroValue57
 t37:=Tryz.underlying64
 a37:=Tryz.isAgg64
 z37:=Tryz.sizeOf64
 v37:=Tryz.zeroValue64
 t70:=Tryz.underlying305
 a70:=Tryz.isAgg305
 z70:=Tryz.sizeOf305
 v70:=Tryz.zeroValue305
 t72:=Tryz.underlying307
 a72:=Tryz.isAgg307
 z72:=Tryz.sizeOf307
 v72:=Tryz.zeroValue307
 t75:=Tryz.underlying310
 a75:=Tryz.isAgg310
 z75:=Tryz.sizeOf310
 v75:=Tryz.zeroValue310
 t76:=Tryz.underlying311
 a76:=Tryz.isAgg311
 z76:=Tryz.sizeOf311
 v76:=Tryz.zeroValue311
 t127:=Tryz.underlying350
 a127:=Tryz.isAgg350
 z127:=Tryz.sizeOf350
 v127:=Tryz.zeroValue350
 t164:=Tryz.underlying394
 a164:=Tryz.isAgg394
 z164:=Tryz.sizeOf394
 v164:=Tryz.zeroValue394
theorem ZcK : Builder.Extra Tryz.prog Uj where
 sizeBuilder:=by kernel_rfl
 liesBuilder:=by kernel_rfl
 t5:=Tryz.underlying5
 a5:=Tryz.isAgg5
 z5:=Tryz.sizeOf5
 v5:=Tryz.zeroValue5
 infoByte:=by kernel_rfl
 cellsByte:=by kernel_rfl
 sizeByte:=by kernel_rfl
 neB5:=by decide
theorem ZdP (bk o c:Nat)(xs:List ByteArray)(sep:ByteArray)(w:World)
  (hcells:∀ (j:Nat) x,xs[j]?=some x->w.cell? ⟨bk,o+j,none⟩=some (.string x))
  (hbk:bk<w.heap.size) (hN:xs.length<=140737488355328) (hcap:xs.length<=c)
  (hlen:(Lib.join (xs.map (·.data.toList)) sep.data.toList).length<=140737488355328) :
  Calls Tryz.prog 121 #[.slice (some ⟨bk,o,none⟩) xs.length c,.string sep] w fun e w'=>e=.returned (.string ⟨(Lib.join (xs.map (·.data.toList)) sep.data.toList).toArray⟩)/\Ext w w' :=
 Any.strings_Join Zfk ZcK bk o c xs sep w hcells hbk hN hcap hlen
end
section
theorem Vv : (Tryz.prog.info? 3).map (fun i=>(i.zero,i.size,i.bytes))=some (some (.int .i64 0),1,8):=by kernel_rfl
def OwI (w:World)(base:Nat)(A:Option Addr)(c:Nat)(xs:List Int) : Prop:=w.ownsRow base 3 1 (.slice A xs.length c) xs.length (xs.map (Value.int .i64))
def bl (A:Option Addr) : Option Nat:=A.map (·.block)
theorem Z7 (A:Option Addr)(n c:Nat) : (Value.slice A n c).ownBlock=bl A:=by cases A<;>rfl
section
variable {w w':World} {base:Nat} {A:Option Addr} {c:Nat} {xs:List Int}
theorem OwI.nil (w:World)(base:Nat) : OwI w base none 0 []:=World.ownsRow_nil _ _ _ _
theorem OwI.cases (h:OwI w base A c xs) : (A=none/\c=0/\xs=[])\/∃ g cur,A=some ⟨g,0,none⟩/\base<=g/\w.heap[g]?=some (.cells cur 3 (0,0))/\xs.length<=c/\c<=maxLen/\cur.size=c*1/\cur.toList.take (xs.length*1)=xs.map (Value.int .i64):=by
 rcases h.2 with⟨hv,h0⟩ | ⟨g,cap,cur,hv,hb,hg,hn,hm,hs,ht⟩
 ·have:xs=[]:=List.eq_nil_of_length_eq_zero h0
  subst this
  injection hv with h1 _ h3
  exact .inl ⟨h1,h3,rfl⟩
 ·injection hv with h1 _ h3
  subst h1 h3;exact .inr ⟨g,cur,rfl,hb,hg,hn,hm,hs,ht⟩
theorem OwI.mk {g:Nat}{cur:Array Value}(hb:base<=g)(hg:w.heap[g]?=some (.cells cur 3 (0,0)))(hn:xs.length<=c)(hm:c<=maxLen)(hs:cur.size=c*1)(ht:cur.toList.take (xs.length*1)=xs.map (Value.int .i64)) : OwI w base (some ⟨g,0,none⟩) c xs :=
 ⟨by simp,.inr ⟨g,c,cur,rfl,hb,hg,hn,hm,hs,ht⟩⟩
theorem OwI.le (h:OwI w base A c xs) : xs.length<=c/\c<=maxLen:=by
 rcases h.cases with⟨rfl,rfl,rfl⟩ | ⟨g,cur,rfl,hb,hg,hn,hm,_⟩
 ·exact⟨Nat.le_refl _,Yt⟩
 ·exact⟨hn,hm⟩
theorem OwI.read (h:OwI w base A c xs) : RdI w A xs:=by
 rcases h.cases with⟨rfl,rfl,rfl⟩ | ⟨g,cur,rfl,hb,hg,hn,hm,hs,ht⟩
 ·exact .inl rfl
 ·have hlt:=(Array.getElem?_eq_some_iff.1 hg).1
  refine .inr ⟨g,0,rfl,hlt,fun j x hj=>?_⟩;rw[cell_of_row w g _ cur _ (0,0) hg];have hj':(xs.map (Value.int .i64))[j]?=some (.int .i64 x):=by simp[hj]
  rw[<-ht,List.getElem?_take] at hj';split at hj'
  ·simpa using hj'
  ·cases hj'
theorem OwI.keep (h:OwI w base A c xs)(hb:∀ g,bl A=some g->w'.heap[g]?=w.heap[g]?) : OwI w' base A c xs:=by
 rcases h.cases with⟨rfl,rfl,rfl⟩ | ⟨g,cur,rfl,hb',hg,hn,hm,hs,ht⟩
 ·exact OwI.nil _ _
 ·exact .mk hb' ((hb g rfl).trans hg) hn hm hs ht
theorem OwI.lt (h:OwI w base A c xs) : ∀ k,bl A=some k->base<=k/\k<w.heap.size:=by
 intro k hk;rcases h.cases with⟨rfl,rfl,rfl⟩ | ⟨g,cur,rfl,hb',hg,_⟩
 ·simp[bl] at hk
 ·simp[bl] at hk
  subst hk;exact⟨hb',(Array.getElem?_eq_some_iff.1 hg).1⟩
theorem OwI.ext (h:OwI w base A c xs)(hb:Ext w w') : OwI w' base A c xs:=h.keep fun g hg=>hb.block g (h.lt g hg).2
theorem OwI.more {base':Nat}(h:OwI w base A c xs)(hb:base'<=base) : OwI w base' A c xs:=by
 rcases h.cases with⟨rfl,rfl,rfl⟩ | ⟨g,cur,rfl,hb',hg,hn,hm,hs,ht⟩
 ·exact OwI.nil _ _
 ·exact .mk (Nat.le_trans hb hb') hg hn hm hs ht
theorem OwI.at (h:OwI w base A c xs){k:Nat}(hk:k<xs.length) :
  ∃ g x,A=some ⟨g,0,none⟩/\base<=g/\g<w.heap.size/\w.cell? ⟨g,k,none⟩=some (.int .i64 x)/\w.frozen? ⟨g,k,none⟩=false/\Hid (xs[k]?=some x) /\
   Hid (∀ y,OwI (w.setCell ⟨g,k,none⟩ (.int .i64 y)) base A c (xs.set k y)):=by
 rcases h.cases with⟨rfl,rfl,rfl⟩ | ⟨g,cur,rfl,hb,hg,hn,hm,hs,ht⟩
 ·simp at hk
 ·have hlt:=(Array.getElem?_eq_some_iff.1 hg).1
  have hxk:xs[k]?=some xs[k]:=List.getElem?_eq_getElem hk;have hc:w.cell? ⟨g,k,none⟩=some (.int .i64 xs[k]):=by
   rw[cell_of_row w g _ cur _ (0,0) hg];have hj':(xs.map (Value.int .i64))[k]?=some (.int .i64 xs[k]):=by simp[hxk]
   rw[<-ht,List.getElem?_take] at hj';split at hj'
   ·simpa using hj'
   ·cases hj'
  refine⟨g,xs[k],rfl,hb,hlt,hc,by simp[World.frozen?,hg],hxk,fun y=>.mk (cur:=cur.setIfInBounds k (.int .i64 y)) hb ?_ (by simpa using hn) hm (by simpa using hs) ?_⟩
  ·simp[World.setCell,Array.getElem?_modify,hg]
  ·simp only[List.length_set,Array.toList_setIfInBounds,List.map_set,<-ht]
   rw[List.take_set]
theorem OwI.cell {g:Nat}(h:OwI w base (some ⟨g,0,none⟩) c xs){k:Nat}(hk:k<xs.length) :
  ∃ x,w.cell? ⟨g,k,none⟩=some (.int .i64 x)/\w.frozen? ⟨g,k,none⟩=false/\base<=g/\Hid (xs[k]?=some x)/\Hid (∀ y,OwI (w.setCell ⟨g,k,none⟩ (.int .i64 y)) base (some ⟨g,0,none⟩) c (xs.set k y)):=by
 obtain⟨g',x,hv,hb,hlt,hc,hf,hx,hs⟩:=h.at hk
 injection hv with h1
 injection h1 with h1
 subst h1;exact⟨x,hc,hf,hb,hx,hs⟩
theorem OwI.new {cs:Array Value}(hx:cs.toList=xs.map (Value.int .i64))(hb:base<=w.heap.size)(hm:xs.length<=maxLen) : OwI (w.alloc (.cells cs 3)) base (some ⟨w.heap.size,0,none⟩) xs.length xs:=by
 refine .mk (cur:=cs) hb (heap_alloc_new w _) (Nat.le_refl _) hm ?_ ?_
 ·rw[<-Array.length_toList,hx];simp
 ·rw[hx,List.take_of_length_le (by simp)]
end
theorem Ext.grow {a w w':World}{row:Option Nat}(h:Ext a w)(hg:w.grownBy w' row)(hr:∀ k,row=some k->a.heap.size<=k) : Ext a w':=Below.grown h hg h.size hr
theorem Ext.grownNone {a w w':World}(h:Ext a w)(hg:w.grownBy w' none) : Ext a w':=h.grow hg (fun k hk=>by cases hk)
structure Mod (S:Nat->Prop)(w w':World) : Prop where
 os:w'.os=w.os
 tape:w'.tape=w.tape
 output:w'.output=w.output
 size:w.heap.size<=w'.heap.size
 block:∀ k,k<w.heap.size->¬S k->w'.heap[k]?=w.heap[k]?
theorem Mod.of_ext {S:Nat->Prop}{w w':World}(h:Ext w w') : Mod S w w':=⟨h.os,h.tape,h.output,h.size,fun k hk _=>h.block k hk⟩
theorem Mod.rf {S:Nat->Prop}(w:World) : Mod S w w:=⟨rfl,rfl,rfl,Nat.le_refl _,fun _ _ _=>rfl⟩
theorem Mod.tr {S:Nat->Prop}{a b c:World}(h:Mod S a b)(k:Mod S b c) : Mod S a c :=
 ⟨k.os.trans h.os,k.tape.trans h.tape,k.output.trans h.output,Nat.le_trans h.size k.size,fun i hi hs=>(k.block i (Nat.lt_of_lt_of_le hi h.size) hs).trans (h.block i hi hs)⟩
theorem Mod.tr' {S S':Nat->Prop}{a b c:World}(h:Mod S a b)(k:Mod S' b c)(hS:∀ i,i<a.heap.size->S' i->S i) : Mod S a c :=
 ⟨k.os.trans h.os,k.tape.trans h.tape,k.output.trans h.output,Nat.le_trans h.size k.size,fun i hi hs=>(k.block i (Nat.lt_of_lt_of_le hi h.size) (fun h'=>hs (hS i hi h'))).trans (h.block i hi hs)⟩
theorem Mod.mono {S S':Nat->Prop}{a b:World}(h:Mod S a b)(hS:∀ i,i<a.heap.size->S i->S' i) : Mod S' a b :=
 ⟨h.os,h.tape,h.output,h.size,fun i hi hs=>h.block i hi (fun h'=>hs (hS i hi h'))⟩
theorem Mod.drewN {S:Nat->Prop}{a b:World}(h:Mod S a b)(n:Nat) : Mod S a (b.drewN n):=⟨h.os,h.tape,h.output,h.size,h.block⟩
theorem Mod.drew {S:Nat->Prop}{a b:World}(h:Mod S a b) : Mod S a b.drew:=⟨h.os,h.tape,h.output,h.size,h.block⟩
theorem Mod.alloc {S:Nat->Prop}{a b:World}(h:Mod S a b)(o:Obj) : Mod S a (b.alloc o):=h.tr (Mod.of_ext ((Ext.rf b).alloc o))
theorem Mod.set {S:Nat->Prop}{a b:World}(h:Mod S a b){p:Addr}(hp:S p.block\/a.heap.size<=p.block)(u:Value) : Mod S a (b.setCell p u) :=
 ⟨h.os,h.tape,h.output,by simpa [World.setCell] using h.size,fun i hi hs=>(Below.heap_setCell b p u i (by
  rintro rfl;rcases hp with hp | hp
  ·exact hs hp
  ·omega)).trans (h.block i hi hs)⟩
theorem Mod.below {S:Nat->Prop}{w w':World}(h:Mod S w w'){B:Nat}(hB:B<=w.heap.size)(hS:∀ k,k<B->¬S k) : Below B w w':=⟨h.os,h.tape,h.output,h.size,fun k hk=>h.block k (by omega) (hS k hk)⟩
theorem Ext.mod {S:Nat->Prop}{a w w':World}(h:Ext a w)(hm:Mod S w w')(hS:∀ k,k<a.heap.size->¬S k) : Ext a w':=Below.trans h (hm.below h.size hS)
theorem Mod.ext {S:Nat->Prop}{a w w':World}(h:Mod S a w)(hm:Ext w w') : Mod S a w':=h.tr (Mod.of_ext hm)
theorem Mod.grown {w w':World}{row:Option Nat}{S:Nat->Prop}(h:w.grownBy w' row)(hS:∀ g,row=some g->S g) : Mod S w w' :=
 ⟨h.os,h.tape,h.output,h.size,fun k hk hs=>h.block k hk (fun e=>hs (hS k e.symm))⟩
theorem Blk.mod {S:Nat->Prop}{w w':World}{g:Nat}{t:TypeId}{cs:Array Value}(h:Blk w g t cs)(hm:Mod S w w')(hg:¬S g) : Blk w' g t cs:=(hm.block g h.lt hg).trans h
theorem OwI.mod {S:Nat->Prop}{w w':World}{base:Nat}{A:Option Addr}{c:Nat}{xs:List Int}(h:OwI w base A c xs)(hm:Mod S w w')(hg:∀ g,bl A=some g->¬S g) : OwI w' base A c xs :=
 h.keep fun g hA=>hm.block g (h.lt g hA).2 (hg g hA)
theorem OwI.ne {w:World}{base:Nat}{A:Option Addr}{c:Nat}{xs:List Int}{g:Nat}{t:TypeId}{cs:Array Value}(h:OwI w base A c xs)(hg:Blk w g t cs)(ht:t≠3) : ∀ k,bl A=some k->¬k=g:=by
 rintro k hk rfl;rcases h.cases with⟨rfl,rfl,rfl⟩ | ⟨g',cur,rfl,hb',hh,_⟩
 ·simp[bl] at hk
 ·simp[bl] at hk
  subst hk;exact Blk.ne (show Blk w g' _ _ from hh) hg (Ne.symm ht) rfl
theorem OwI.far {w:World}{base:Nat}{A:Option Addr}{c:Nat}{xs:List Int}{g:Nat}{t:TypeId}{cs:Array Value}(h:OwI w base A c xs)(hg:Blk w g t cs)(ht:t≠3)(i:Nat)(u:Value) : OwI (w.setCell ⟨g,i,none⟩ u) base A c xs :=
 h.mod (S:=fun x=>x=g) (Mod.set (S:=fun x=>x=g) (p:=⟨g,i,none⟩) (Mod.rf w) (.inl rfl) u) (h.ne hg ht)
section
variable (w:World)
theorem Q0 (base:Nat)(ty:TypeId)(A:Option Addr)(n cA:Nat)(xs ys:List Int)(B:Option Addr)(c:Nat)(hn:n=xs.length)(hown:OwI w base A cA xs)(hr:RdI w B ys)(hlen:xs.length+ys.length<=2^44)(hbase:base<=w.heap.size) :
  ∃ A' c' w',(Builtin.append_ #[22,22] ty #[.slice A n cA,.slice B ys.length c]).run Tryz.prog w=.ok (.slice A' (xs++ys).length c') w'/\OwI w' base A' c' (xs++ys)/\w.grownBy w' (bl A)/\(bl A'=bl A\/∃ g,bl A'=some g/\w.heap.size<=g):=by
 subst hn;obtain⟨i0,hi,hz0,hz1,hz2⟩:=info_parts Vv;have hmax:xs.length+ys.length<=maxLen:=by simp only[maxLen];omega
 rcases B with _ | ad
 ·have hy:ys=[]:=by
   rcases hr with h | ⟨b,off,h,_⟩
   ·exact h
   ·cases h
  subst hy;refine⟨A,cA,w,?_,by simpa using hown,⟨rfl,rfl,rfl,Nat.le_refl _,fun _ _ _=>rfl⟩,.inl rfl⟩;have hle:=hown.le.1;simp[Builtin.append_,run_underlying Tryz.underlying22,sizeOf,typeInfo,hi,Builtin.lenOf,Builtin.firstCells,hle]
  cases A<;>simp[storeCells]
 ·have hnews:∀ j u,(ys.map (Value.int .i64))[j]?=some u->w.cell? (ad.add j)=some u:=by
   intro j u hu;rw[List.getElem?_map] at hu;obtain⟨x,hx,rfl⟩:=Option.map_eq_some_iff.1 hu;rcases hr with rfl | ⟨b,off,h,_,hc⟩
   ·simp at hx
   ·injection h with h
    subst h;rw[add_plain];exact hc j x hx
  obtain⟨v',w',hrun,h2,h3,_,h5⟩:=run_append_own_at (P:=Tryz.prog) w base 22 ty 3 i0 _ 1 8 Tryz.underlying22 hi hz0 hz1 hz2 rfl (by decide) _ xs.length _ hown ad ys.length c (ys.map (Value.int .i64)) (by simp) hnews (by simp[Value.oneCell']) hmax (by omega) hbase;rw[Z7] at h3 h5;have hv:∃ A' c',v'=.slice A' (xs++ys).length c':=by
   rcases h2.2 with⟨rfl,h0⟩ | ⟨g,cap,cur,rfl,_⟩
   ·exact⟨none,0,by rw[List.length_append,h0]⟩
   ·exact⟨some ⟨g,0,none⟩,cap,by simp⟩
  obtain⟨A',c',rfl⟩:=hv;rw[Z7] at h5;refine⟨A',c',w',hrun,by simpa [OwI] using h2,h3,?_⟩;rcases h5 with h5 | h5
  ·exact .inl h5
  ·exact .inr ⟨_,h5,Nat.le_refl _⟩
theorem Yn {ops:Array Oper}{rest:List Oper}{o:Oper}{a:Act}{Q:Exit->Act->World->Prop}(hgd:o.guard=none)(s x:Operand)
  (ho:o.op=.call { callee:=.builtin .append,args:=#[s,x],argTypes:=#[22,22] })
  (base:Nat) (A:Option Addr) (n cA:Nat) (xs ys:List Int) (B:Option Addr) (c:Nat) (hs:a.eval s=.slice A n cA) (hx:a.eval x=.slice B ys.length c) (hn:n=xs.length) (hown:OwI w base A cA xs) (hr:RdI w B ys) (hlen:xs.length+ys.length<=2^44) (hbase:base<=w.heap.size)
  (h:∀ A' c' w',OwI w' base A' c' (xs++ys)->w.grownBy w' (bl A)->(bl A'=bl A\/∃ g,bl A'=some g/\w.heap.size<=g)->wpList Tryz.prog ops Q rest (a.put o.dst (.slice A' (xs++ys).length c')) w'):wpList Tryz.prog ops Q (o::rest) a w :=
 wpList_plain hgd fun _ hK=>by
  obtain⟨A',c',w',hrun,h2,h3,h4⟩:=Q0 w base o.type A n cA xs ys B c hn hown hr hlen hbase;unfold Oper.wp execOp;simp only[ho,resolve,invoke,builtin,Sem.run_bind,Sem.run_pure,Result.andThen_ok,List.map_toArray,List.map_cons,List.map_nil,hs,hx,hrun];exact hK _ _ (h A' c' w' h2 h3 h4)
theorem UQ {ops:Array Oper}{rest:List Oper}{o:Oper}{a:Act}{Q:Exit->Act->World->Prop}(hgd:o.guard=none)(l c:Operand)(hop:o.op=Op.makeSlice 22 l c)
  (base:Nat) (L C:Int) (n:Nat) (hl:a.eval l=.int .i64 L) (hc:a.eval c=.int .i64 C) (hL:L=(n:Int)) (hC:C=(n:Int)) (hn:n<=2^44) (hbase:base<=w.heap.size)
  (hK:∀ w',OwI w' base (some ⟨w.heap.size,0,none⟩) n (List.replicate n 0)->w.grownBy w' none->wpList Tryz.prog ops Q rest (a.put o.dst (.slice (some ⟨w.heap.size,0,none⟩) n n)) w') :
  wpList Tryz.prog ops Q (o::rest) a w:=by
 obtain⟨i0,hi,hz0,hz1,hz2⟩:=info_parts Vv;refine wpList_make_full w hgd l c _ hop base 3 i0 _ 1 Tryz.underlying22 hi hz0 hz1 .i64 .i64 L C n hl hc hL hC (by rw[hz2];omega) (by simp only[maxLen];omega) hbase (fun w' h2 h3=>hK w' ?_ h3);have e:(madeCells (Value.int .i64 0).cells (n*1)).toList=(List.replicate n (0:Int)).map (Value.int .i64):=by
  simp[madeCells,Value.cells,List.map_const',Nat.mod_one]
 rw[e] at h2
 simpa [OwI] using h2
end
theorem Zcq (u:World)(A:Option Addr)(n c:Nat) : (binOp .eql 22 (.slice A n c) (.slice none 0 0)).run Tryz.prog u=.ok (.bool A.isNone) u:=Lib.run_eql_slice_nil u _ 3 _ _ _ _ _ Tryz.underlying22
theorem OwI.empty {w:World}{base g:Nat}(h:Blk w g 3 #[])(hb:base<=g) : OwI w base (some ⟨g,0,none⟩) 0 []:=.mk hb h (Nat.le_refl _) Yt rfl rfl
theorem Blk.grown {w w':World}{g:Nat}{t:TypeId}{cs:Array Value}{row:Option Nat}(h:Blk w g t cs)(hb:w.grownBy w' row)(hg:row≠some g) : Blk w' g t cs:=(hb.block g h.lt (fun e=>hg e.symm)).trans h
section
variable (w:World)
theorem UR (base:Nat)(ty:TypeId)(g:Nat)(ys:List Int)(B:Option Addr)(c:Nat)(hg:Blk w g 3 #[])(hb:base<=g)(hr:RdI w B ys)(hlen:ys.length<=2^44) :
  ∃ A' c' w',(Builtin.append_ #[22,22] ty #[.slice (some ⟨g,0,none⟩) 0 0,.slice B ys.length c]).run Tryz.prog w=.ok (.slice A' ys.length c') w'/\OwI w' base A' c' ys/\Ext w w':=by
 obtain⟨i0,hi,hz0,hz1,hz2⟩:=info_parts Vv
 by_cases hy:ys=[]
 ·subst hy
  refine⟨some ⟨g,0,none⟩,0,w,?_,.empty hg hb,Ext.rf _⟩;rcases B with _ | ad
  ·simp[Builtin.append_,run_underlying Tryz.underlying22,sizeOf,typeInfo,hi,Builtin.lenOf,Builtin.firstCells,storeCells]
  ·simp[Builtin.append_,run_underlying Tryz.underlying22,sizeOf,typeInfo,hi,Builtin.lenOf,Builtin.firstCells,storeCells,loadCells,loadCellsFrom]
 ·have h0:0<ys.length:=List.length_pos_iff.2 hy
  obtain⟨b,off,rfl,hc⟩:∃ b off,B=some ⟨b,off,none⟩/\∀ j x,ys[j]?=some x->w.cell? ⟨b,off+j,none⟩=some (.int .i64 x):=by
   rcases hr with h | ⟨b,off,h,_,hc⟩
   ·exact absurd h hy
   ·exact⟨b,off,h,hc⟩
  have hnews:∀ j u,(ys.map (Value.int .i64))[j]?=some u->w.cell? ((⟨b,off,none⟩:Addr).add j)=some u:=by
   intro j u hu;rw[List.getElem?_map] at hu;obtain⟨x,hx,rfl⟩:=Option.map_eq_some_iff.1 hu;rw[add_plain];exact hc j x hx
  have hrun:=run_append_grow (P:=Tryz.prog) w 22 ty 3 i0 _ Tryz.underlying22 hi hz0 ⟨g,0,none⟩ 0 0 [] (by simp) (fun j u h=>by simp at h) ⟨b,off,none⟩ ys.length c (ys.map (Value.int .i64)) (by simp[hz1]) hnews (by omega) (by omega) (growslice_fits (by omega) (by rw[hz2];omega));have hge:=grownCap_ge w (0+ys.length) 0 3;have hle:=grownCap_le_maxLen w (0+ys.length) 0 3 (by simp only[maxLen];omega);simp only[Nat.zero_add,List.nil_append] at hrun hge hle;refine⟨_,_,_,hrun,.mk (cur:=_) (Nat.le_trans hb (Nat.le_of_lt hg.lt)) (heap_alloc_new w.drew _) hge hle ?_ ?_,((Ext.rf w).drew).alloc _⟩
  ·simp[Builtin.zeroCells,Value.cells];omega
  ·simp[Builtin.zeroCells,Value.cells]
theorem Zba {ops:Array Oper}{rest:List Oper}{o:Oper}{a:Act}{Q:Exit->Act->World->Prop}(hgd:o.guard=none)(s x:Operand)
  (ho:o.op=.call { callee:=.builtin .append,args:=#[s,x],argTypes:=#[22,22] })
  (base g:Nat) (ys:List Int) (B:Option Addr) (c:Nat) (hs:a.eval s=.slice (some ⟨g,0,none⟩) 0 0) (hx:a.eval x=.slice B ys.length c) (hg:Blk w g 3 #[]) (hb:base<=g) (hr:RdI w B ys) (hlen:ys.length<=2^44)
  (h:∀ A' c' w',OwI w' base A' c' ys->Ext w w'->wpList Tryz.prog ops Q rest (a.put o.dst (.slice A' ys.length c')) w'):wpList Tryz.prog ops Q (o::rest) a w :=
 wpList_plain hgd fun _ hK=>by
  obtain⟨A',c',w',hrun,h2,h3⟩:=UR w base o.type g ys B c hg hb hr hlen;unfold Oper.wp execOp;simp only[ho,resolve,invoke,builtin,Sem.run_bind,Sem.run_pure,Result.andThen_ok,List.map_toArray,List.map_cons,List.map_nil,hs,hx,hrun];exact hK _ _ (h A' c' w' h2 h3)
end
theorem ZO (A:Option Addr)(c:Nat)(xs:List Int)(w:World)(hx:RdI w A xs)(hl:xs.length<=2^44) :
  Calls Tryz.prog 52 #[.slice A xs.length c] w fun e w'=>∃ A' c',e=.returned (.slice A' xs.length c')/\OwI w' w.heap.size A' c' xs/\Ext w w':=by
 rcases A with _ | ⟨b,off,sp⟩
 ·have h0:xs=[]:=by
   rcases hx with h | ⟨_,_,h,_⟩
   ·exact h
   ·cases h
  subst h0;clear hl hx;have hnil:=fun u:World=>Zcq u none 0 c
  simp only[List.length_nil];go_enter Tryz.func52,Tryz.ntmps52;go_wp2;go_ret;exact⟨_,_,rfl,OwI.nil _ _,Ext.rf _⟩
 ·have hnil:=fun u:World=>Zcq u (some ⟨b,off,sp⟩) xs.length c
  go_enter Tryz.func52,Tryz.ntmps52;go_wp2_with (at_builtin;refine Yn _ rfl _ _ rfl w.heap.size (some ⟨w.heap.size,0,none⟩) 0 0 [] xs (some ⟨b,off,sp⟩) c rfl rfl rfl (by exact OwI.new (xs:=[]) rfl (Nat.le_refl _) Yt) (by exact hx.ext ((Ext.rf _).alloc _)) (by simpa using hl) (by simp) ?_;rintro A1 c1 w1 hown hg _);go_ret;exact⟨_,_,rfl,hown,((Ext.rf w).alloc _).grow hg (by intro k hk;simp[bl] at hk;omega)⟩
end
section
def RdV (w:World)(e:TypeId)(A:Option Addr)(vs:List Value) : Prop :=
 vs=[]\/∃ b off cur,A=some ⟨b,off,none⟩/\w.heap[b]?=some (.cells cur e (0,0))/\∀ j v,vs[j]?=some v->cur[off+j]?=some v
def RdC (w:World)(A:Option Addr)(vs:List Value) : Prop :=
 vs=[]\/∃ b off,A=some ⟨b,off,none⟩/\b<w.heap.size/\∀ j v,vs[j]?=some v->w.cell? ⟨b,off+j,none⟩=some v
section
variable {w w':World} {e:TypeId} {A:Option Addr} {vs:List Value}
theorem RdV.nil (w:World)(e:TypeId)(A:Option Addr) : RdV w e A []:=.inl rfl
theorem RdV.rdC (h:RdV w e A vs) : RdC w A vs:=by
 rcases h with rfl | ⟨b,off,cur,rfl,hb,hc⟩
 ·exact .inl rfl
 ·exact .inr ⟨b,off,rfl,(Array.getElem?_eq_some_iff.1 hb).1,fun j v hj=>by rw[cell_of_row w b _ cur e (0,0) hb];exact hc j v hj⟩
theorem RdC.ext (h:RdC w A vs)(hb:Ext w w') : RdC w' A vs:=by
 rcases h with rfl | ⟨b,off,rfl,hlt,hc⟩
 ·exact .inl rfl
 ·exact .inr ⟨b,off,rfl,Nat.lt_of_lt_of_le hlt hb.size,fun j v hj=>by rw[hb.cell hlt];exact hc j v hj⟩
theorem RdV.keep (h:RdV w e A vs)(hb:∀ b,bl A=some b->w'.heap[b]?=w.heap[b]?) : RdV w' e A vs:=by
 rcases h with rfl | ⟨b,off,cur,rfl,hh,hc⟩
 ·exact .inl rfl
 ·exact .inr ⟨b,off,cur,rfl,(hb b rfl).trans hh,hc⟩
theorem RdV.lt (h:RdV w e A vs)(hne:vs≠[]) : ∀ b,bl A=some b->b<w.heap.size:=by
 intro b hb;rcases h with rfl | ⟨b',off,cur,rfl,hh,hc⟩
 ·exact absurd rfl hne
 ·simp[bl] at hb
  subst hb;exact(Array.getElem?_eq_some_iff.1 hh).1
theorem RdV.ext (h:RdV w e A vs)(hx:Ext w w') : RdV w' e A vs:=by
 rcases h with rfl | ⟨b,off,cur,rfl,hh,hc⟩
 ·exact .inl rfl
 ·exact .inr ⟨b,off,cur,rfl,(hx.block b (Array.getElem?_eq_some_iff.1 hh).1).trans hh,hc⟩
theorem RdV.mod {S:Nat->Prop}(h:RdV w e A vs)(hm:Mod S w w')(hS:∀ k cur,w.heap[k]?=some (.cells cur e (0,0))->¬S k) : RdV w' e A vs:=by
 rcases h with rfl | ⟨b,off,cur,rfl,hh,hc⟩
 ·exact .inl rfl
 ·exact .inr ⟨b,off,cur,rfl,(hm.block b (Array.getElem?_eq_some_iff.1 hh).1 (hS b cur hh)).trans hh,hc⟩
theorem RdV.blk {b:Nat}{cs:Array Value}(h:Blk w b e cs) : RdV w e (some ⟨b,0,none⟩) cs.toList :=
 .inr ⟨b,0,cs,rfl,h,fun j v hj=>by simpa using hj⟩
theorem RdV.at (h:RdV w e A vs){j:Nat}(hj:j<vs.length) : ∃ b off v,A=some ⟨b,off,none⟩/\b<w.heap.size/\w.cell? ⟨b,off+j,none⟩=some v/\Hid (vs[j]?=some v):=by
 rcases h.rdC with rfl | ⟨b,off,rfl,hlt,hc⟩
 ·simp at hj
 ·exact⟨b,off,vs[j],rfl,hlt,hc j _ (List.getElem?_eq_getElem hj),List.getElem?_eq_getElem hj⟩
theorem RdV.form (h:RdV w e A vs)(hne:vs≠[]) : ∃ b off,A=some ⟨b,off,none⟩/\b<w.heap.size/\∀ j v,vs[j]?=some v->w.cell? ⟨b,off+j,none⟩=some v:=by
 rcases h.rdC with rfl | ⟨b,off,rfl,hlt,hc⟩
 ·exact absurd rfl hne
 ·exact⟨b,off,rfl,hlt,hc⟩
theorem RdV.drop (h:RdV w e A vs)(k:Nat) : RdV w e (A.map (·.add k)) (vs.drop k):=by
 rcases h with rfl | ⟨b,off,cur,rfl,hh,hc⟩
 ·exact .inl (by simp)
 ·refine .inr ⟨b,off+k,cur,by simp[add_plain],hh,fun j v hj=>?_⟩
  rw[List.getElem?_drop] at hj;rw[Nat.add_assoc];exact hc _ v hj
theorem RdV.take (h:RdV w e A vs)(k:Nat) : RdV w e A (vs.take k):=by
 rcases h with rfl | ⟨b,off,cur,rfl,hh,hc⟩
 ·exact .inl (by simp)
 ·refine .inr ⟨b,off,cur,rfl,hh,fun j v hj=>?_⟩
  rw[List.getElem?_take] at hj;split at hj
  ·exact hc j v hj
  ·cases hj
end
def OwV (w:World)(base:Nat)(e:TypeId)(size:Nat)(A:Option Addr)(n c:Nat)(vs:List Value) : Prop:=w.ownsRow base e size (.slice A n c) n vs
section
variable {w w':World} {base:Nat} {e:TypeId} {size:Nat} {A:Option Addr} {n c:Nat} {vs:List Value}
theorem OwV.nil (w:World)(base:Nat)(e:TypeId)(size:Nat) : OwV w base e size none 0 0 []:=World.ownsRow_nil _ _ _ _
theorem OwV.cases (h:OwV w base e size A n c vs) : (A=none/\c=0/\n=0/\vs=[])\/∃ g cur,A=some ⟨g,0,none⟩/\base<=g/\w.heap[g]?=some (.cells cur e (0,0))/\n<=c/\c<=maxLen/\cur.size=c*size/\cur.toList.take (n*size)=vs:=by
 rcases h.2 with⟨hv,h0⟩ | ⟨g,cap,cur,hv,hb,hg,hn,hm,hs,ht⟩
 ·injection hv with h1 _ h3
  have:=h.1;rw[h0,Nat.zero_mul] at this;exact .inl ⟨h1,h3,h0,List.eq_nil_of_length_eq_zero this⟩
 ·injection hv with h1 _ h3
  subst h1 h3;exact .inr ⟨g,cur,rfl,hb,hg,hn,hm,hs,ht⟩
theorem OwV.mk {g:Nat}{cur:Array Value}(hb:base<=g)(hg:w.heap[g]?=some (.cells cur e (0,0)))(hn:n<=c)(hm:c<=maxLen)(hs:cur.size=c*size)(ht:cur.toList.take (n*size)=vs) : OwV w base e size (some ⟨g,0,none⟩) n c vs :=
 ⟨by rw[<-ht,List.length_take,Array.length_toList,hs];exact Nat.min_eq_left (Nat.mul_le_mul_right _ hn),.inr ⟨g,c,cur,rfl,hb,hg,hn,hm,hs,ht⟩⟩
theorem OwV.le (h:OwV w base e size A n c vs) : n<=c/\c<=maxLen:=by
 rcases h.cases with⟨rfl,rfl,rfl,rfl⟩ | ⟨g,cur,rfl,hb,hg,hn,hm,_⟩
 ·exact⟨Nat.le_refl _,Yt⟩
 ·exact⟨hn,hm⟩
theorem OwV.len (h:OwV w base e size A n c vs) : vs.length=n*size:=h.1
theorem OwV.read (h:OwV w base e size A n c vs) : RdV w e A vs:=by
 rcases h.cases with⟨rfl,rfl,rfl,rfl⟩ | ⟨g,cur,rfl,hb,hg,hn,hm,hs,ht⟩
 ·exact .inl rfl
 ·refine .inr ⟨g,0,cur,rfl,hg,fun j v hj=>?_⟩
  rw[<-ht,List.getElem?_take] at hj;split at hj
  ·simpa using hj
  ·cases hj
theorem OwV.keep (h:OwV w base e size A n c vs)(hb:∀ g,bl A=some g->w'.heap[g]?=w.heap[g]?) : OwV w' base e size A n c vs:=by
 rcases h.cases with⟨rfl,rfl,rfl,rfl⟩ | ⟨g,cur,rfl,hb',hg,hn,hm,hs,ht⟩
 ·exact OwV.nil _ _ _ _
 ·exact .mk hb' ((hb g rfl).trans hg) hn hm hs ht
theorem OwV.lt (h:OwV w base e size A n c vs) : ∀ k,bl A=some k->base<=k/\k<w.heap.size:=by
 intro k hk;rcases h.cases with⟨rfl,rfl,rfl,rfl⟩ | ⟨g,cur,rfl,hb',hg,_⟩
 ·simp[bl] at hk
 ·simp[bl] at hk
  subst hk;exact⟨hb',(Array.getElem?_eq_some_iff.1 hg).1⟩
theorem OwV.ext (h:OwV w base e size A n c vs)(hb:Ext w w') : OwV w' base e size A n c vs:=h.keep fun g hg=>hb.block g (h.lt g hg).2
theorem OwV.more {base':Nat}(h:OwV w base e size A n c vs)(hb:base'<=base) : OwV w base' e size A n c vs:=by
 rcases h.cases with⟨rfl,rfl,rfl,rfl⟩ | ⟨g,cur,rfl,hb',hg,hn,hm,hs,ht⟩
 ·exact OwV.nil _ _ _ _
 ·exact .mk (Nat.le_trans hb hb') hg hn hm hs ht
theorem OwV.mod {S:Nat->Prop}(h:OwV w base e size A n c vs)(hm:Mod S w w')(hg:∀ g,bl A=some g->¬S g) : OwV w' base e size A n c vs :=
 h.keep fun g hA=>hm.block g (h.lt g hA).2 (hg g hA)
theorem OwV.ne {g:Nat}{t:TypeId}{cs:Array Value}(h:OwV w base e size A n c vs)(hg:Blk w g t cs)(ht:t≠e) : ∀ k,bl A=some k->¬k=g:=by
 rintro k hk rfl;rcases h.cases with⟨rfl,rfl,rfl,rfl⟩ | ⟨g',cur,rfl,hb',hh,_⟩
 ·simp[bl] at hk
 ·simp[bl] at hk
  subst hk;exact Blk.ne (show Blk w g' _ _ from hh) hg (Ne.symm ht) rfl
theorem OwV.set {g:Nat}(h:OwV w base e size (some ⟨g,0,none⟩) n c vs){j:Nat}(hj:j<vs.length)(u:Value) :
  w.cell? ⟨g,j,none⟩=vs[j]?/\w.frozen? ⟨g,j,none⟩=false/\base<=g/\OwV (w.setCell ⟨g,j,none⟩ u) base e size (some ⟨g,0,none⟩) n c (vs.set j u):=by
 rcases h.cases with⟨h0,_⟩ | ⟨g',cur,hA,hb,hg,hn,hm,hs,ht⟩
 ·cases h0
 ·injection hA with hA
  injection hA with hA
  subst hA;refine⟨?_,by simp[World.frozen?,hg],hb,.mk (cur:=cur.setIfInBounds j u) hb ?_ hn hm (by simpa using hs) ?_⟩
  ·rw[cell_of_row w g _ cur _ (0,0) hg,<-ht,List.getElem?_take,if_pos]
   ·simp
   ·rw[<-ht,List.length_take] at hj
    omega
  ·simp[World.setCell,Array.getElem?_modify,hg]
  ·simp only[Array.toList_setIfInBounds,<-ht]
   rw[List.take_set]
theorem OwV.full {g:Nat}{cs:Array Value}(h:Blk w g e cs)(hb:base<=g)(hs:cs.size=n*size)(hm:n<=maxLen) : OwV w base e size (some ⟨g,0,none⟩) n n cs.toList :=
 .mk hb h (Nat.le_refl _) hm hs (List.take_of_length_le (by rw[Array.length_toList,hs];exact Nat.le_refl _))
end
section
variable (w:World) {t e:TypeId} {i:TypeInfo} {z:Value} {size bytes:Nat} (ht:Tryz.prog.underlying t=some (.slice e)) (hi:Tryz.prog.info? e=some i) (hz:i.zero=some z) (hsize:i.size=size) (hby:i.bytes=bytes) (hzs:z.cells.size=size) (hsz:0<size)
include ht hi hz hsize hby hzs hsz
theorem Wa (base:Nat)(ty:TypeId)(A:Option Addr)(n cA:Nat)(xs:List Value)(B:Option Addr)(m c:Nat)(ys:List Value)(hown:OwV w base e size A n cA xs)(hr:RdC w B ys)(hm:ys.length=m*size)(h1:∀ u∈ys,u.oneCell'=true)
  (h63:n+m<=maxLen) (hbytes:(n+m)*bytes<=140737488355328) (hbase:base<=w.heap.size) :
  ∃ A' c' w',(Builtin.append_ #[t,t] ty #[.slice A n cA,.slice B m c]).run Tryz.prog w=.ok (.slice A' (n+m) c') w'/\OwV w' base e size A' (n+m) c' (xs++ys)/\w.grownBy w' (bl A)/\(bl A'=bl A\/bl A'=some w.heap.size):=by
 rcases B with _ | ad
 ·have hy:ys=[]:=by
   rcases hr with h | ⟨b,off,h,_⟩
   ·exact h
   ·cases h
  subst hy;have hm0:m=0:=by
   simp only[List.length_nil] at hm;rcases Nat.eq_zero_or_pos m with h | h
   ·exact h
   ·have:=Nat.mul_pos h hsz;omega
  subst hm0;refine⟨A,cA,w,?_,by simpa using hown,⟨rfl,rfl,rfl,Nat.le_refl _,fun _ _ _=>rfl⟩,.inl rfl⟩;have hle:=hown.le.1;simp[Builtin.append_,run_underlying ht,sizeOf,typeInfo,hi,Builtin.lenOf,Builtin.firstCells,hle]
  cases A<;>simp[storeCells]
 ·have hnews:∀ j u,ys[j]?=some u->w.cell? (ad.add j)=some u:=by
   intro j u hu;rcases hr with rfl | ⟨b,off,h,_,hc⟩
   ·simp at hu
   ·injection h with h
    subst h;rw[add_plain];exact hc j u hu
  obtain⟨v',w',hrun,h2,h3,_,h5⟩:=run_append_own_at (P:=Tryz.prog) w base t ty e i z size bytes ht hi hz hsize hby hzs hsz _ n _ hown ad m c ys hm hnews h1 h63 hbytes hbase;rw[Z7] at h3 h5;have hv:∃ A' c',v'=.slice A' (n+m) c':=by
   rcases h2.2 with⟨rfl,h0⟩ | ⟨g,cap,cur,rfl,_⟩
   ·exact⟨none,0,by rw[h0]⟩
   ·exact⟨some ⟨g,0,none⟩,cap,rfl⟩
  obtain⟨A',c',rfl⟩:=hv;rw[Z7] at h5;exact⟨A',c',w',hrun,h2,h3,h5⟩
theorem JZ (base:Nat)(ty:TypeId)(g n:Nat)(cs:Array Value)(B:Option Addr)(m c:Nat)(ys:List Value)(hg:Blk w g e cs)(hb:base<=g)(hn:cs.size=n*size)(hr:RdC w B ys)(hm:ys.length=m*size)(h1:∀ u∈ys,u.oneCell'=true)
  (h63:n+m<=maxLen) (hbytes:(n+m)*bytes<=140737488355328) :
  ∃ A' c' w',(Builtin.append_ #[t,t] ty #[.slice (some ⟨g,0,none⟩) n n,.slice B m c]).run Tryz.prog w=.ok (.slice A' (n+m) c') w'/\OwV w' base e size A' (n+m) c' (cs.toList++ys)/\Ext w w':=by
 by_cases hy:ys=[]
 ·subst hy
  have hm0:m=0:=by
   simp only[List.length_nil] at hm;rcases Nat.eq_zero_or_pos m with h | h
   ·exact h
   ·have:=Nat.mul_pos h hsz;omega
  subst hm0;refine⟨some ⟨g,0,none⟩,n,w,?_,by simpa using OwV.full hg hb hn (by simpa using h63),Ext.rf _⟩;rcases B with _ | ad
  ·simp[Builtin.append_,run_underlying ht,sizeOf,typeInfo,hi,Builtin.lenOf,Builtin.firstCells,storeCells]
  ·simp[Builtin.append_,run_underlying ht,sizeOf,typeInfo,hi,Builtin.lenOf,Builtin.firstCells,storeCells,loadCells,loadCellsFrom]
 ·have hm0:0<m:=by
   rcases Nat.eq_zero_or_pos m with h | h
   ·rw[h,Nat.zero_mul] at hm
    exact absurd (List.eq_nil_of_length_eq_zero hm) hy
   ·exact h
  obtain⟨b,off,rfl,hc⟩:∃ b off,B=some ⟨b,off,none⟩/\∀ j x,ys[j]?=some x->w.cell? ⟨b,off+j,none⟩=some x:=by
   rcases hr with h | ⟨b,off,h,_,hc⟩
   ·exact absurd h hy
   ·exact⟨b,off,h,hc⟩
  have hnews:∀ j u,ys[j]?=some u->w.cell? ((⟨b,off,none⟩:Addr).add j)=some u:=by
   intro j u hu;rw[add_plain];exact hc j u hu
  have holds:∀ j u,cs.toList[j]?=some u->w.cell? ((⟨g,0,none⟩:Addr).add j)=some u:=by
   intro j u hu;rw[add_plain,hg.cell]
   simpa using hu
  subst hsize hby;have hrun:=run_append_grow (P:=Tryz.prog) w t ty e i z ht hi hz ⟨g,0,none⟩ n n cs.toList (by rw[Array.length_toList];exact hn) holds ⟨b,off,none⟩ m c ys hm hnews (by omega) (by have h:=h63;simp only[maxLen] at h;omega) (growslice_fits (by omega) hbytes);have hge:=grownCap_ge w (n+m) n e;have hle:=grownCap_le_maxLen w (n+m) n e h63;have hlen:(cs.toList++ys).length=(n+m)*i.size:=by rw[List.length_append,Array.length_toList,hn,hm,Nat.add_mul]
  refine⟨_,_,_,hrun,.mk (cur:=_) (Nat.le_trans hb (Nat.le_of_lt hg.lt)) (heap_alloc_new w.drew _) hge hle ?_ ?_,((Ext.rf w).drew).alloc _⟩
  ·simp only[Array.size_append,List.size_toArray,size_zeroCells,hzs,Array.length_toList,hn,hm,<-Nat.add_mul]
   congr 1
   omega
  ·simp only[Array.toList_append,List.append_assoc]
   rw[<-List.append_assoc,<-hlen];exact List.take_left
theorem Zw {ops:Array Oper}{rest:List Oper}{o:Oper}{a:Act}{Q:Exit->Act->World->Prop}(hgd:o.guard=none)(s x:Operand)
  (ho:o.op=.call { callee:=.builtin .append,args:=#[s,x],argTypes:=#[t,t] })
  (base:Nat) (A:Option Addr) (n cA:Nat) (xs:List Value) (B:Option Addr) (m c:Nat) (ys:List Value) (hs:a.eval s=.slice A n cA) (hx:a.eval x=.slice B m c) (hown:OwV w base e size A n cA xs) (hr:RdC w B ys) (hm:ys.length=m*size) (h1:∀ u∈ys,u.oneCell'=true)
  (h63:n+m<=maxLen) (hbytes:(n+m)*bytes<=140737488355328) (hbase:base<=w.heap.size)
  (h:∀ A' c' w',OwV w' base e size A' (n+m) c' (xs++ys)->w.grownBy w' (bl A)->(bl A'=bl A\/bl A'=some w.heap.size)->wpList Tryz.prog ops Q rest (a.put o.dst (.slice A' (n+m) c')) w'):wpList Tryz.prog ops Q (o::rest) a w :=
 wpList_plain hgd fun _ hK=>by
  obtain⟨A',c',w',hrun,h2,h3,h4⟩:=Wa w ht hi hz hsize hby hzs hsz base o.type A n cA xs B m c ys hown hr hm h1 h63 hbytes hbase;unfold Oper.wp execOp;simp only[ho,resolve,invoke,builtin,Sem.run_bind,Sem.run_pure,Result.andThen_ok,List.map_toArray,List.map_cons,List.map_nil,hs,hx,hrun];exact hK _ _ (h A' c' w' h2 h3 h4)
theorem J0 {ops:Array Oper}{rest:List Oper}{o:Oper}{a:Act}{Q:Exit->Act->World->Prop}(hgd:o.guard=none)(s x:Operand)
  (ho:o.op=.call { callee:=.builtin .append,args:=#[s,x],argTypes:=#[t,t] })
  (base g n:Nat) (cs:Array Value) (B:Option Addr) (m c:Nat) (ys:List Value) (hs:a.eval s=.slice (some ⟨g,0,none⟩) n n) (hx:a.eval x=.slice B m c) (hg:Blk w g e cs) (hb:base<=g) (hn:cs.size=n*size) (hr:RdC w B ys) (hm:ys.length=m*size) (h1:∀ u∈ys,u.oneCell'=true)
  (h63:n+m<=maxLen) (hbytes:(n+m)*bytes<=140737488355328)
  (h:∀ A' c' w',OwV w' base e size A' (n+m) c' (cs.toList++ys)->Ext w w'->wpList Tryz.prog ops Q rest (a.put o.dst (.slice A' (n+m) c')) w'):wpList Tryz.prog ops Q (o::rest) a w :=
 wpList_plain hgd fun _ hK=>by
  obtain⟨A',c',w',hrun,h2,h3⟩:=JZ w ht hi hz hsize hby hzs hsz base o.type g n cs B m c ys hg hb hn hr hm h1 h63 hbytes;unfold Oper.wp execOp;simp only[ho,resolve,invoke,builtin,Sem.run_bind,Sem.run_pure,Result.andThen_ok,List.map_toArray,List.map_cons,List.map_nil,hs,hx,hrun];exact hK _ _ (h A' c' w' h2 h3)
end
end
section
def ofT (w:World)(base:Nat)(ts:List TypeId)(k:Nat) : Prop:=base<=k/\∃ cs t,w.heap[k]?=some (.cells cs t (0,0))/\t∈ts
def ModT (base:Nat)(ts:List TypeId)(w w':World) : Prop:=Mod (ofT w base ts) w w'
section
variable {base:Nat} {ts:List TypeId} {w w' w2:World}
theorem ModT.rf (w:World) : ModT base ts w w:=Mod.rf w
theorem ModT.of_ext (h:Ext w w') : ModT base ts w w':=Mod.of_ext h
theorem ModT.tr (h:ModT base ts w w')(k:ModT base ts w' w2) : ModT base ts w w2:=by
 refine Mod.tr' h k fun i hi hs=>?_
 by_cases ho:ofT w base ts i
 ·exact ho
 ·obtain⟨hb,cs,t,hc,ht⟩:=hs
  exact⟨hb,cs,t,(h.block i hi ho).symm.trans hc,ht⟩
theorem ModT.ext (h:ModT base ts w w')(k:Ext w' w2) : ModT base ts w w2:=h.tr (.of_ext k)
theorem ModT.set (w:World){g:Nat}{t:TypeId}{cs:Array Value}(hg:Blk w g t cs)(ht:t∈ts)(hb:base<=g)(i:Nat)(u:Value) : ModT base ts w (w.setCell ⟨g,i,none⟩ u) :=
 Mod.set (p:=⟨g,i,none⟩) (Mod.rf w) (.inl ⟨hb,cs,t,hg,ht⟩) u
theorem ModT.size (h:ModT base ts w w') : w.heap.size<=w'.heap.size:=Mod.size h
theorem ModT.more {ts':List TypeId}{base':Nat}(h:ModT base ts w w')(hb:base'<=base)(ht:∀ t∈ts,t∈ts') : ModT base' ts' w w' :=
 Mod.mono h fun _ _ ⟨h1,cs,t,h2,h3⟩=>⟨Nat.le_trans hb h1,cs,t,h2,ht t h3⟩
theorem Ext.modT {w0:World}(h:Ext w0 w)(k:ModT base ts w w')(hb:w0.heap.size<=base) : Ext w0 w':=h.mod k fun _ hk hs=>by have:=hs.1;omega
theorem Blk.modT {g:Nat}{t:TypeId}{cs:Array Value}(h:Blk w g t cs)(k:ModT base ts w w')(ht:t∉ts) : Blk w' g t cs :=
 h.mod k fun hs=>by
  obtain⟨_,cs',t',h1,h2⟩:=hs;rw[h] at h1
  injection h1 with h1
  injection h1 with _ h1
  subst h1;exact ht h2
theorem RdV.modT {e:TypeId}{A:Option Addr}{vs:List Value}(h:RdV w e A vs)(k:ModT base ts w w')(ht:e∉ts) : RdV w' e A vs :=
 h.mod k fun b cur hb hs=>by
  obtain⟨_,cs',t',h1,h2⟩:=hs;rw[hb] at h1
  injection h1 with h1
  injection h1 with _ h1
  subst h1;exact ht h2
theorem OwI.modT {base':Nat}{A:Option Addr}{c:Nat}{xs:List Int}(h:OwI w base' A c xs)(k:ModT base ts w w')(ht:3∉ts) : OwI w' base' A c xs :=
 h.keep fun g hg=>by
  rcases h.cases with⟨rfl,rfl,rfl⟩ | ⟨g',cur,rfl,hb',hh,_⟩
  ·simp[bl] at hg
  ·simp[bl] at hg
   subst hg;exact k.block g' (Array.getElem?_eq_some_iff.1 hh).1 fun hs=>by
    obtain⟨_,cs',t',h1,h2⟩:=hs;rw[hh] at h1
    injection h1 with h1
    injection h1 with _ h1
    subst h1;exact ht h2
theorem OwV.modT {base':Nat}{e:TypeId}{size n c:Nat}{A:Option Addr}{vs:List Value}(h:OwV w base' e size A n c vs)(k:ModT base ts w w')(ht:e∉ts) : OwV w' base' e size A n c vs :=
 h.keep fun g hg=>by
  rcases h.cases with⟨rfl,rfl,rfl,rfl⟩ | ⟨g',cur,rfl,hb',hh,_⟩
  ·simp[bl] at hg
  ·simp[bl] at hg
   subst hg;exact k.block g' (Array.getElem?_eq_some_iff.1 hh).1 fun hs=>by
    obtain⟨_,cs',t',h1,h2⟩:=hs;rw[hh] at h1
    injection h1 with h1
    injection h1 with _ h1
    subst h1;exact ht h2
theorem RdI.modT {A:Option Addr}{xs:List Int}(h:RdI w A xs)(k:ModT base ts w w')(hb:∀ b,bl A=some b->b<base) : RdI w' A xs:=by
 rcases h with rfl | ⟨b,off,rfl,hlt,hc⟩
 ·exact .inl rfl
 ·refine .inr ⟨b,off,rfl,Nat.lt_of_lt_of_le hlt k.size,fun j x hj=>?_⟩
  have h1:=hb b rfl;rw[<-hc j x hj];exact World.cell?_of_block (k.block b hlt fun hs=>by have:=hs.1;omega)
end
end
section
open Go.Deep
theorem US : (Tryz.prog.info? 9).map (fun i=>(i.zero,i.size,i.bytes))=some (some (.string ⟨#[]⟩),1,16):=by kernel_rfl
def txV (l:List Txt) : List Value:=l.map txS
theorem UV (l:List Txt)(a:Txt) : txV (l++[a])=txV l++[txS a]:=by unfold txV;rw[List.map_append];rfl
theorem Xt (l:List Txt) : (txV l).length=l.length:=by unfold txV;rw[List.length_map]
theorem ZdQ (base:Nat)(A:Option Addr)(c:Nat)(l:List Txt)(s:Txt)(w:World)(h:OwV w base 9 1 A l.length c (txV l))(h0:l≠[])(hn:l.length<=1000)(hlen:(Lib.join l s).length<=140737488355328) :
  Calls Tryz.prog 121 #[.slice A l.length c,.string ⟨s.toArray⟩] w fun e w'=>e=.returned (txS (Lib.join l s))/\Ext w w':=by
 have hr:=h.read.rdC;have hle:=h.le;rcases hr with e | ⟨b,off,rfl,hlt,hc⟩
 ·exact absurd (List.map_eq_nil_iff.1 e) h0
 ·have e1:(l.map fun t:Txt=>(⟨t.toArray⟩:ByteArray)).map (·.data.toList)=l:=by
   rw[List.map_map];exact(List.map_congr_left fun t _=>by simp).trans (List.map_id l)
  have J:=ZdP b off c (l.map fun t:Txt=>(⟨t.toArray⟩:ByteArray)) ⟨s.toArray⟩ w (fun j x hj=>by
   rw[List.getElem?_map] at hj;obtain⟨t,ht,rfl⟩:=Option.map_eq_some_iff.1 hj;refine hc j _ ?_;unfold txV;rw[List.getElem?_map,ht]
   rfl) hlt (by rw[List.length_map];omega) (by rw[List.length_map];exact hle.1) (by rw[e1];simpa using hlen)
  rw[e1,List.length_map] at J;refine J.mono ?_;rintro e w' ⟨rfl,x⟩;exact⟨by simp[txS],x⟩
theorem Zbb (s:ByteArray)(c:UInt8)(w:World)(hs:s.size<4294967281) :
  Calls Tryz.prog 37 #[.string s,.string ⟨#[c]⟩,.int .i64 0,.int .i64 (-1)] w fun e w' =>
   e=.returned (.slice (some ⟨w.heap.size,0,none⟩) (Lib.countB s ⟨#[c]⟩+1) (Lib.countB s ⟨#[c]⟩+1)) /\
    w'=w.alloc (.cells ((Lib.splitB ⟨#[c]⟩ 0 (Lib.countB s ⟨#[c]⟩) s).map Value.string).toArray 9):=by
 have hle:=Lib.countB_le ⟨#[c]⟩ (Nat.le_refl 1) s.size s (Nat.le_refl _);have hlen:=Lib.splitB_all ⟨#[c]⟩ (Nat.le_refl 1) 0 _ s rfl;have C:=Any.strings_genSplit_core (ρ:=WS) { split with } US s ⟨#[c]⟩ 0 (-1) (Lib.countB s ⟨#[c]⟩+1) w hs (Nat.le_refl 1) (Nat.zero_le _)
  (fun x cs _=>by
   have I:=Any.strings_Index_one (ρ:=WS) { split with } x c (w.alloc (.cells cs 9));have e:Lib.indexB x ⟨#[c]⟩=Lib.indexByte x.data.toList c:=Lib.index_one _ _;rw[e];exact I)
  (by
   have K:=Any.strings_Count_one (ρ:=WS) { split with } s c w;have e:Lib.countB s ⟨#[c]⟩=s.data.toList.count c:=Lib.count_one c _;rw[e];exact K)
  (by decide) (by decide) (by rw[if_pos (by decide)];omega)
 rw[Nat.add_sub_cancel,hlen] at C;have e2:Lib.cellsOf (Lib.splitB ⟨#[c]⟩ 0 (Lib.countB s ⟨#[c]⟩) s) (Lib.countB s ⟨#[c]⟩+1)=((Lib.splitB ⟨#[c]⟩ 0 (Lib.countB s ⟨#[c]⟩) s).map Value.string).toArray:=by rw[<-hlen];exact Lib.cellsOf_full _
 rw[e2] at C;exact C
theorem J1 (s:Txt)(c:UInt8) : (Lib.splitB ⟨#[c]⟩ 0 (Lib.countB ⟨s.toArray⟩ ⟨#[c]⟩) ⟨s.toArray⟩).map Value.string=txV (Zp c s):=by
 have e:Lib.countB ⟨s.toArray⟩ ⟨#[c]⟩=s.count c:=Lib.count_one c _;have h:=Lib.splitB_data ⟨#[c]⟩ 0 (s.count c) ⟨s.toArray⟩;have h2:(Lib.splitB ⟨#[c]⟩ 0 (s.count c) ⟨s.toArray⟩).map (·.data.toList)=Zp c s:=h.trans (Zcp c s);rw[e,<-h2];unfold txV;rw[List.map_map];exact(List.map_congr_left fun x _=>by simp[txS]).symm
theorem UW (s:Txt)(c:UInt8) : Lib.countB ⟨s.toArray⟩ ⟨#[c]⟩+1=(Zp c s).length:=by
 have h:=congrArg List.length (J1 s c);rw[Xt,List.length_map] at h;rw[<-h];exact(Lib.splitB_all ⟨#[c]⟩ (Nat.le_refl 1) 0 _ ⟨s.toArray⟩ rfl).symm
theorem UZ (s:Txt)(c:UInt8)(w:World)(hs:s.length<4294967281) :
  Calls Tryz.prog 20 #[.string ⟨s.toArray⟩,.string ⟨#[c]⟩] w fun e w'=>e=.returned (.slice (some ⟨w.heap.size,0,none⟩) (Zp c s).length (Zp c s).length)/\w'=w.alloc (.cells (txV (Zp c s)).toArray 9):=by
 have C:=Zbb ⟨s.toArray⟩ c w (by simpa [Lib.size_eq] using hs);rw[UW,J1] at C;have C2:=Hd C;have hlen:=UW s c;have hle:=Lib.countB_le ⟨#[c]⟩ (Nat.le_refl 1) s.length ⟨s.toArray⟩ (Nat.le_of_eq (by simp[Lib.size_eq]));have hl:(Zp c s).length<=4294967282:=by rw[Lib.size_eq] at hle;simp at hle;omega
 clear hlen hle C;go_enter Tryz.func20,Tryz.ntmps20;go_wp2_with (go_at_call 37;refine C2.out.mono ?_;rintro e w' ⟨rfl,rfl⟩);go_ret;exact⟨rfl,rfl⟩
def RdE {α:Type}(size:Nat)(R:World->List Value->α->Prop)(w:World)(A:Option Addr)(xs:List α) : Prop :=
 xs=[]\/∃ b off,A=some ⟨b,off,none⟩/\b<w.heap.size/\∀ i x,xs[i]?=some x->∃ cs:List Value,R w cs x/\cs.length=size/\∀ j v,cs[j]?=some v->w.cell? ⟨b,off+i*size+j,none⟩=some v
section
variable {α:Type} {size:Nat} {R:World->List Value->α->Prop} {w w':World} {A:Option Addr} {xs:List α}
theorem RdE.ext (h:RdE size R w A xs)(hb:Ext w w')(hR:∀ cs x,R w cs x->R w' cs x) : RdE size R w' A xs:=by
 rcases h with rfl | ⟨b,off,rfl,hlt,hc⟩
 ·exact .inl rfl
 ·refine .inr ⟨b,off,rfl,Nat.lt_of_lt_of_le hlt hb.size,fun i x hi=>?_⟩
  obtain⟨cs,h1,h2,h3⟩:=hc i x hi;exact⟨cs,hR _ _ h1,h2,fun j v hj=>by rw[hb.cell hlt];exact h3 j v hj⟩
theorem RdE.at (h:RdE size R w A xs){i:Nat}(hi:i<xs.length) : ∃ b off cs x,A=some ⟨b,off,none⟩/\b<w.heap.size/\R w cs x/\cs.length=size/\(∀ j v,cs[j]?=some v->w.cell? ⟨b,off+i*size+j,none⟩=some v)/\Hid (xs[i]?=some x):=by
 rcases h with rfl | ⟨b,off,rfl,hlt,hc⟩
 ·simp at hi
 ·obtain⟨cs,h1,h2,h3⟩:=hc i xs[i] (List.getElem?_eq_getElem hi)
  exact⟨b,off,cs,xs[i],rfl,hlt,h1,h2,h3,List.getElem?_eq_getElem hi⟩
end
section
variable {H:Type} {enc:TypeId×Value->H} {W:World}
def UE {α:Type}(enc:TypeId×Value->H)(W:World)(e:TypeId)(R:World->List Value->α->Prop) : Prop :=
 ∀ (fuel:Nat) (cs:List Value) (x:DataW H×List MemPlace),DataW.trod enc Tryz.prog W 0 (fun _=>true) true fuel e cs=some x->∃ a:α,R W cs a
theorem ZdR {α:Type}{n:Nat}{P:Nat->α->Prop}(h:∀ i,i<n->∃ a,P i a) : ∃ xs:List α,xs.length=n/\∀ i x,xs[i]?=some x->P i x:=by
 induction n with
 | zero=>exact⟨[],rfl,fun i x hx=>by simp at hx⟩
 | succ n ih =>
  obtain⟨xs,h1,h2⟩:=ih fun i hi=>h i (by omega)
  obtain⟨a,ha⟩:=h n (by omega);refine⟨xs++[a],by simp[h1],fun i x hx=>?_⟩
  by_cases hi:i<xs.length
  ·rw[List.getElem?_append_left hi] at hx
   exact h2 i x hx
  ·rw[List.getElem?_append_right (by omega)] at hx
   obtain⟨h0,hx⟩:=List.getElem?_eq_some_iff.1 hx;have:i=n:=by simp at h0;omega
   subst this;simp at hx;subst hx;exact ha
theorem ZdS {α:Type}{t e:TypeId}{size:Nat}{R:World->List Value->α->Prop}(ht:Tryz.prog.underlying t=some (.slice e))(hsz:Tryz.prog.cellsOf e=size)(h0:0<size)(hR:UE enc W e R)
  {fuel:Nat} {cs:List Value} {x:DataW H×List MemPlace} (h:DataW.trod enc Tryz.prog W 0 (fun _=>true) true fuel t cs=some x) :
  ∃ (A:Option Addr) (xs:List α) (c:Nat),cs=[.slice A xs.length c]/\RdE size R W A xs/\xs.length<=c/\c<=maxLen:=by
 rcases open_slice ht h with⟨rfl,_⟩ | ⟨a,len,cap,m,n,D,Pl,rfl,_,hl,hm,hmm,_,hi⟩
 ·exact⟨none,[],0,rfl,.inl rfl,Nat.le_refl 0,Yt⟩
 ·simp only[if_true] at hmm
  subst hmm;have each:∀ i,i<len->∃ y:α,∃ cs':List Value,R W cs' y/\cs'.length=size/\∀ j v,cs'[j]?=some v->W.cell? (a.add (i*size+j))=some v:=by
   intro i hil;obtain⟨cs',hc,ht'⟩:=hi i (by omega);obtain⟨y,hy⟩:=hR _ _ _ ht';obtain⟨_,hcl,hat⟩:=World.cells?_some hc;refine⟨y,cs',hy,by rw[hcl,hsz],fun j v hj=>?_⟩;have hjl:j<Tryz.prog.cellsOf e:=by rw[<-hcl];exact(List.getElem?_eq_some_iff.1 hj).1
   have:=hat j hjl;rw[hj,hsz,Go.Deep.add_add] at this;exact this
  obtain⟨xs,hx1,hx2⟩:=ZdR each;subst hx1;refine⟨some a,xs,_,rfl,?_,hl,hm⟩
  by_cases hx0:xs=[]
  ·exact .inl hx0
  ·obtain⟨y0,hy0⟩:∃ y,xs[0]?=some y:=by
    cases xs with
    | nil=>exact absurd rfl hx0
    | cons y ys=>exact⟨y,rfl⟩
   obtain⟨cs0,_,hl0,hc0⟩:=hx2 0 y0 hy0;have hv:cs0[0]?=some (cs0[0]'(by omega)):=List.getElem?_eq_getElem (by omega);have hcell:=hc0 0 _ hv;obtain⟨b,off,spot⟩:=a;have hspot:spot=none:=by simpa [Addr.add] using World.cell?_spot hcell
   subst hspot;refine .inr ⟨b,off,rfl,by simpa [Addr.add] using World.block_lt_of_cell? W _ hcell,fun i y hy=>?_⟩;obtain⟨cs',h1,h2,h3⟩:=hx2 i y hy;exact⟨cs',h1,h2,fun j v hj=>by rw[Nat.add_assoc,<-add_plain];exact h3 j v hj⟩
def Zhg (_:World)(cs:List Value)(x:Int) : Prop:=cs=[.int .i64 x]/\-9223372036854775808<=x/\x<=9223372036854775807
theorem Yy : UE enc W 3 Zhg:=fun fuel cs x h=>by
 obtain⟨n,rfl,_,hw⟩:=DataW.trod_int Tryz.underlying3 h;exact⟨n,rfl,Zgl hw⟩
def RInts (w:World)(cs:List Value)(l:List Int) : Prop:=∃ A c,cs=[.slice A l.length c]/\RdI w A l/\Ints l/\l.length<=c/\c<=maxLen
theorem RInts.ext {w w':World}{cs:List Value}{l:List Int}(h:RInts w cs l)(hb:Ext w w') : RInts w' cs l:=by
 obtain⟨A,c,h1,h2,h3⟩:=h;exact⟨A,c,h1,h2.ext hb,h3⟩
theorem Zbc : UE enc W 22 RInts:=fun fuel cs x h=>by
 obtain⟨A,xs,c,rfl,h1,h2,h3⟩:=ZdS Tryz.underlying22 Yx (by omega) Yy h;refine⟨xs,A,c,rfl,?_,?_,h2,h3⟩
 ·rcases h1 with rfl | ⟨b,off,rfl,hb,hc⟩
  ·exact .inl rfl
  ·refine .inr ⟨b,off,rfl,hb,fun j x hj=>?_⟩
   obtain⟨cs,⟨rfl,_⟩,_,hcell⟩:=hc j x hj;have:=hcell 0 _ rfl
   simpa using this
 ·intro x hx
  rcases h1 with rfl | ⟨b,off,rfl,hb,hc⟩
  ·cases hx
  ·obtain⟨i,hi,rfl⟩:=List.mem_iff_getElem.1 hx
   obtain⟨cs,⟨_,hbd⟩,_⟩:=hc i xs[i] (List.getElem?_eq_getElem hi);exact hbd
theorem J2 {t:TypeId}{fs:Array Field}{fuel:Nat}{cs:List Value}{x:DataW H×List MemPlace}(ht:Tryz.prog.underlying t=some (.struct fs))(h:DataW.trod enc Tryz.prog W 0 (fun _=>true) true fuel t cs=some x) :
  cs.length=Tryz.prog.cellsOf t/\∀ (i:Nat) (f:Field),fs[i]?=some f->∃ n y,DataW.trod enc Tryz.prog W 0 (fun _=>true) true n f.type ((cs.drop f.offset).take (Tryz.prog.cellsOf f.type))=some y:=by
 obtain⟨xs,n,_,_,hlen,hl,hf⟩:=DataW.trod_struct ht h;refine⟨hlen,fun i f hi=>?_⟩;have hlt:i<xs.length:=by rw[hl];exact(Array.getElem?_eq_some_iff.1 hi).1
 exact⟨n,xs[i],by rw[hf i f hi];exact List.getElem?_eq_getElem hlt⟩
theorem YI {t:TypeId}{fs:Array Field}{fuel:Nat}{cs:List Value}{x:DataW H×List MemPlace}(ht:Tryz.prog.underlying t=some (.struct fs))(h:DataW.trod enc Tryz.prog W 0 (fun _=>true) true fuel t cs=some x)
  (i:Nat) (ft:TypeId) (o s:Nat) (hf:(fs[i]?).map (fun f=>(f.type,f.offset))=some (ft,o)) (hs:Tryz.prog.cellsOf ft=s):∃ n y,DataW.trod enc Tryz.prog W 0 (fun _=>true) true n ft ((cs.drop o).take s)=some y:=by
 obtain⟨f,hf1,hf2⟩:=Option.map_eq_some_iff.1 hf;simp only[Prod.mk.injEq] at hf2;obtain⟨rfl,rfl⟩:=hf2;subst hs;exact(J2 ht h).2 i f hf1
end
end
section
def Zc (a0:Act) : List (Nat×Option Tmp)->(Nat->Value)->Act
 | [],_=>a0
 | p::ps,u=>(Zc a0 ps u).put p.2 (u p.1)
def upd (u:Nat->Value)(i:Nat)(v:Value) : Nat->Value:=fun j=>if j=i then v else u j
def XE (ops:Array Oper)(rem:List (Nat×Option Tmp))(i:Nat) : List Nat :=
 match ops[i]? with
 | none=>[]
 | some o=>(o.after.toList.filter fun e=>Region.binds .any e&&(rem.map (·.1)).contains e.on).map (·.on)
theorem Zg {ops:Array Oper}{rem:List (Nat×Option Tmp)}{i j:Nat}(h:(XE ops rem i).contains j=true) : j∈XE ops rem i:=by simpa using h
theorem Act.put_put_ne (a:Act){x y:Option Tmp}(v u:Value)(h:∀ d,x=some d->y≠some d) : (a.put x v).put y u=(a.put y u).put x v:=Act.put_comm a v u h
theorem Act.put_twice (a:Act)(x:Option Tmp)(v u:Value) : (a.put x v).put x u=a.put x u:=by
 cases x with
 | none=>rfl
 | some d=>simp[Act.put,Array.setIfInBounds_setIfInBounds]
theorem U2 (a0:Act)(i:Nat)(d:Option Tmp)(u:Nat->Value)(v:Value) : ∀ (rem:List (Nat×Option Tmp)),(rem.map (·.1)).Nodup->(rem.filterMap (·.2)).Nodup->(i,d)∈rem ->
  (Zc a0 rem u).put d v=Zc a0 rem (upd u i v)
 | [],_,_,h=>by cases h
 | p::ps,hn,hd,h=>by
  have same:∀ (qs:List (Nat×Option Tmp)),i∉qs.map (·.1)->Zc a0 qs (upd u i v)=Zc a0 qs u:=by
   intro qs
   induction qs with
   | nil=>intro _;rfl
   | cons q qs ih =>
    intro hq;simp only[List.map_cons,List.mem_cons,not_or] at hq;simp only[Zc,ih hq.2,upd,if_neg (Ne.symm hq.1)]
  rcases List.mem_cons.1 h with rfl | h'
  ·have hni:i∉ps.map (·.1):=by simpa using (List.nodup_cons.1 hn).1
   simp only[Zc,same ps hni,upd,if_true];exact Act.put_twice _ _ _ _
  ·have hpi:p.1≠i:=by
    rintro rfl;exact(List.nodup_cons.1 hn).1 (List.mem_map.2 ⟨_,h',rfl⟩)
   have hd':(ps.filterMap (·.2)).Nodup:=by
    cases hp:p.2 with
    | none=>simpa [List.filterMap_cons,hp] using hd
    | some t=>rw[List.filterMap_cons,hp] at hd;exact(List.nodup_cons.1 hd).2
   have ih:=U2 a0 i d u v ps (List.nodup_cons.1 hn).2 hd' h';simp only[Zc,upd,if_neg hpi];rw[<-ih];refine Act.put_put_ne _ _ _ ?_;intro t ht hdt;rw[List.filterMap_cons,ht] at hd;exact(List.nodup_cons.1 hd).1 (List.mem_filterMap.2 ⟨(i,d),h',hdt⟩)
theorem ZdT (a:Act)(d:Tmp) : a.put (some d) (a.tmps.getD d undef)=a:=by
 have:a.tmps.setIfInBounds d (a.tmps.getD d undef)=a.tmps:=by
  apply Array.ext_getElem?;intro j;rw[Array.getElem?_setIfInBounds];split
  ·rename_i h
   subst h;split
   ·rename_i h;simp[Array.getD,h]
   ·rename_i h;simp[Array.getElem?_eq_none (Nat.le_of_not_lt h)]
  ·rfl
 show ({ a with tmps:=a.tmps.setIfInBounds d (a.tmps.getD d undef) }:Act)=a;rw[this]
theorem U3 (a0:Act)(u:Nat->Value)(i:Nat)(v:Value) : ∀ (qs:List (Nat×Option Tmp)),i∉qs.map (·.1)->Zc a0 qs (upd u i v)=Zc a0 qs u
 | [],_=>rfl
 | q::qs,hq=>by
  simp only[List.map_cons,List.mem_cons,not_or] at hq;simp only[Zc,U3 a0 u i v qs hq.2,upd,if_neg (Ne.symm hq.1)]
theorem Uk (a0:Act) : ∀ (rem:List (Nat×Option Tmp)),(rem.map (·.1)).Nodup->∃ u,Zc a0 rem u=a0
 | [],_=>⟨fun _=>undef,rfl⟩
 | p::ps,hn=>by
  obtain⟨u,hu⟩:=Uk a0 ps (List.nodup_cons.1 hn).2;have hni:p.1∉ps.map (·.1):=(List.nodup_cons.1 hn).1;refine⟨upd u p.1 (match p.2 with | some d=>a0.tmps.getD d undef | none=>undef),?_⟩;simp only[Zc,U3 a0 u _ _ ps hni,hu,upd,if_true]
  cases p.2 with
  | none=>rfl
  | some d=>exact ZdT a0 d
section
variable {P:Program} {ops:Array Oper} {Q:Exit->Act->World->Prop}
def Wz (listed:Array Bool)(rem:List (Nat×Option Tmp)) : Nat:=(rem.filter fun p => !listed.getD p.1 true).length
def Wh (ops:Array Oper)(rs:List Nat) : Nat->Nat->Nat->Bool
 | 0,_,_=>false
 | f+1,i,q=>match ops[i]? with
  | none=>false
  | some o=>o.after.toList.any (fun e=>Region.binds .any e&&(e.on==q || (rs.contains e.on&&Wh ops rs f e.on q)))
theorem Wi {listed:Array Bool}{rs:List Nat}(hcl:∀ p∈rs,listed.getD p true=true->∀ o,ops[p]?=some o->∀ e∈o.after.toList,Region.binds .any e=true->listed.getD e.on true=true) :
  ∀ (f i:Nat),(∀ o,ops[i]?=some o->∀ e∈o.after.toList,Region.binds .any e=true->listed.getD e.on true=true)->∀ q,Wh ops rs f i q=true->listed.getD q true=true:=by
 intro f
 induction f with
 | zero=>intro i _ q h;cases h
 | succ f ih =>
  intro i hi q h;unfold Wh at h
  cases ho:ops[i]? with
  | none=>rw[ho] at h;cases h
  | some o =>
   rw[ho] at h;obtain⟨e,he,h⟩:=List.any_eq_true.1 h;simp only[Bool.and_eq_true,Bool.or_eq_true,beq_iff_eq] at h;obtain⟨hb,h⟩:=h;have h1:=hi o ho e he hb;rcases h with rfl | ⟨h2,h3⟩
   ·exact h1
   ·exact ih e.on (hcl e.on (by simpa using h2) h1) q h3
theorem Vg {listed:Array Bool}{i:Nat}(h:((ops[i]?.map fun o=>o.after.all fun e => !Region.binds .any e || listed.getD e.on false).getD false)=true) :
  ∀ o,ops[i]?=some o->∀ e∈o.after.toList,Region.binds .any e=true->listed.getD e.on true=true:=by
 intro o ho e he hb;rw[ho] at h;simp only[Option.map_some,Option.getD_some,Array.all_eq_true_iff_forall_mem] at h;have:=h e (by simpa using he);rw[hb] at this;simp only[Bool.not_true,Bool.false_or] at this
 by_cases hlt:e.on<listed.size
 ·simp only[Array.getD,hlt,dif_pos] at this ⊢
  simpa using this
 ·simp[Array.getD,hlt]
def WU (ops:Array Oper)(listed listed1:Array Bool)(rem:List (Nat×Option Tmp)) : Bool :=
 decide ((rem.map (·.1)).Nodup)&&decide ((rem.filterMap (·.2)).Nodup)&&decide (listed.size=ops.size)&&decide (listed1.size=ops.size) &&
 rem.all (fun p=>match ops[p.1]? with
  | none=>false
  | some o=>(o.dst==p.2)&&o.after.all (fun e => !Region.binds .any e || (decide (e.on<p.1)&&((rem.map (·.1)).contains e.on || listed.getD e.on true)))) &&
 (List.range ops.size).all (fun i=>if (rem.map (·.1)).contains i then !listed.getD i true&&listed1.getD i true
  else(listed1.getD i true==listed.getD i true)&&(listed.getD i true || rem.all (fun p=>Wh ops (rem.map (·.1)) (rem.length+1) i p.1) || (match ops[i]? with
   | none=>false
   | some o=>o.after.any (fun e=>Region.binds .any e&&decide (e.on<ops.size) && !listed.getD e.on true && !(rem.map (·.1)).contains e.on))))
def ZdU (ops:Array Oper)(rem:List (Nat×Option Tmp))(kill:Nat->List Nat)(i j:Nat) : Bool :=
 decide (i≠j) && !(kill j).contains i&&(kill j).all (fun k => !Wh ops (rem.map (·.1)) (rem.length+1) i k) && !Wh ops (rem.map (·.1)) (rem.length+1) j i
def Zbd (ops:Array Oper)(rem:List (Nat×Option Tmp))(kill:Nat->List Nat) : Bool :=
 rem.all fun p=>(XE ops rem p.1).all fun j=>(kill j).all fun k=>k==p.1
theorem Ul {σ:Type}(rem:List (Nat×Option Tmp))(kill:Nat->List Nat)(R:σ->World->Prop)(V:Nat->Value->σ->World->Prop)(Stab:Nat->σ->World->σ->World->Prop){listed0:Array Bool}(listed1:Array Bool)(hok:WU ops listed0 listed1 rem=true)(hkill:Zbd ops rem kill=true)
  (stab:∀ i j v s w s' w',ZdU ops rem kill i j=true->V j v s w->Stab i s w s' w'->V j v s' w')
  {a0:Act}
  (step:∀ p∈rem,∀ u s w,R s w->(∀ j∈XE ops rem p.1,V j (u j) s w)->∀ K:Act->World->Prop,(∀ v s' w',V p.1 v s' w'->R s' w'->Stab p.1 s w s' w'->K ((Zc a0 rem u).put p.2 v) w')->wpOp P ops Q p.1 K (Zc a0 rem u) w)
  (n:Nat) (done:∀ u s w,R s w->(∀ p∈rem,kill p.1=[]->V p.1 (u p.1) s w)->wpAny P .any ops Q n listed1 (Zc a0 rem u) w) {s0:σ} {w0:World} (hR:R s0 w0) :
  wpAny P .any ops Q (rem.length+n) listed0 a0 w0:=by
 simp only[WU,Bool.and_eq_true,decide_eq_true_eq] at hok;obtain⟨⟨⟨⟨⟨hn,hdn⟩,hsz⟩,hsz1⟩,hall⟩,hcomp⟩:=hok;have hall:=List.all_eq_true.1 hall;have hcomp:=List.all_eq_true.1 hcomp;have hmem:∀ i∈rem.map (·.1),listed0.getD i true=false/\i<ops.size:=by
  intro i hi;obtain⟨p,hp,rfl⟩:=List.mem_map.1 hi;have h1:=hall p hp;have hlt:p.1<ops.size:=by
   rcases Nat.lt_or_ge p.1 ops.size with h | h
   ·exact h
   ·rw[Array.getElem?_eq_none h] at h1;simp at h1
  have:=hcomp p.1 (List.mem_range.2 hlt);have hc:(rem.map (·.1)).contains p.1=true:=by simpa using hi
  rw[hc] at this;simp only[if_true,Bool.and_eq_true,Bool.not_eq_true'] at this;exact⟨this.1,hlt⟩
 have hone:∀ i∈rem.map (·.1),listed1.getD i true=true:=by
  intro i hi;have:=hcomp i (List.mem_range.2 (hmem i hi).2);have hc:(rem.map (·.1)).contains i=true:=by simpa using hi
  rw[hc] at this;simp only[if_true,Bool.and_eq_true] at this;exact this.2
 have hrest:∀ i,i<ops.size->i∉rem.map (·.1)->listed1.getD i true=listed0.getD i true/\((listed0.getD i true=true\/∀ p∈rem,Wh ops (rem.map (·.1)) (rem.length+1) i p.1=true)\/∃ o,ops[i]?=some o/\∃ e∈o.after.toList,Region.binds .any e=true/\e.on<ops.size/\listed0.getD e.on true=false/\e.on∉rem.map (·.1)):=by
  intro i hi hni;have:=hcomp i (List.mem_range.2 hi);have hc:(rem.map (·.1)).contains i=false:=by
   cases h:(rem.map (·.1)).contains i with
   | false=>rfl
   | true=>exact absurd (by simpa using h) hni
  rw[hc] at this;simp only[Bool.false_eq_true,if_false,Bool.and_eq_true,beq_iff_eq,Bool.or_eq_true] at this;refine⟨this.1,?_⟩;rcases this.2 with(h | h) | h
  ·exact .inl (.inl h)
  ·exact .inl (.inr fun p hp=>List.all_eq_true.1 h p hp)
  ·right
   rw[Array.getElem?_eq_getElem hi] at h;refine⟨ops[i],Array.getElem?_eq_getElem hi,?_⟩;simp only[Array.any_toList.symm,List.any_eq_true,Bool.and_eq_true,decide_eq_true_eq,Bool.not_eq_true'] at h;obtain⟨e,he,⟨⟨h1,h2⟩,h3⟩,h4⟩:=h;exact⟨e,he,h1,h2,h3,by simpa using h4⟩
 suffices H:∀ k (listed:Array Bool) (u:Nat->Value) (s:σ) (w:World),listed.size=ops.size->R s w->(∀ i,i<ops.size->i∉rem.map (·.1)->listed.getD i true=listed0.getD i true) ->
   (∀ p∈rem,listed.getD p.1 true=true->(∀ k∈kill p.1,listed.getD k true=false)->V p.1 (u p.1) s w)->(∀ p∈rem.map (·.1),listed.getD p true=true->∀ o,ops[p]?=some o->∀ e∈o.after.toList,Region.binds .any e=true->listed.getD e.on true=true)->Wz listed rem=k->wpAny P .any ops Q (k+n) listed (Zc a0 rem u) w by
  obtain⟨u,hu⟩:=Uk a0 rem hn;have hopen:Wz listed0 rem=rem.length:=by
   unfold Wz;rw[List.filter_eq_self.2];intro p hp;simp[(hmem p.1 (List.mem_map.2 ⟨p,hp,rfl⟩)).1]
  have h:=H rem.length listed0 u s0 w0 hsz hR (fun i hi hni=>rfl) (fun p hp hl _=>by
   have:=(hmem p.1 (List.mem_map.2 ⟨p,hp,rfl⟩)).1;rw[this] at hl
   cases hl) (fun p hp hl=>by
   rw[(hmem p hp).1] at hl
   cases hl) hopen
  rwa [hu] at h
 intro k
 induction k with
 | zero =>
  intro listed u s w hs hRw hout hV hcl hopen;have hall':∀ p∈rem,listed.getD p.1 true=true:=by
   intro p hp;simp only[Wz,List.length_eq_zero_iff,List.filter_eq_nil_iff,Bool.not_eq_true',Bool.not_eq_false] at hopen;exact hopen p hp
  have hl:listed=listed1:=by
   apply Array.ext
   ·rw[hs,hsz1]
   ·intro i h1 h2
    have:listed.getD i true=listed1.getD i true:=by
     by_cases hr:i∈rem.map (·.1)
     ·rw[hone i hr]
      obtain⟨p,hp,rfl⟩:=List.mem_map.1 hr;exact hall' p hp
     ·rw[hout i (by omega) hr,(hrest i (by omega) hr).1]
    simpa [Array.getD,h1,h2] using this
  rw[hl,Nat.zero_add];exact done u s w hRw (fun p hp hk=>hV p hp (hall' p hp) (fun k h=>by rw[hk] at h;cases h))
 | succ k ih =>
  intro listed u s w hs hRw hout hV hcl hopen;rw[Nat.add_right_comm];have hsome:∃ p∈rem,listed.getD p.1 true=false:=by
   have:(rem.filter fun p => !listed.getD p.1 true)≠[]:=by
    intro h;simp only[Wz,h,List.length_nil] at hopen;omega
   obtain⟨p,hp⟩:=List.exists_mem_of_ne_nil _ this;obtain⟨h1,h2⟩:=List.mem_filter.1 hp;exact⟨p,h1,by simpa using h2⟩
  have hno:∀ i,i∈Region.ready .any ops listed->i∈rem.map (·.1):=by
   intro i hi;obtain⟨hi1,hi2⟩:=List.mem_filter.1 hi;have hilt:=List.mem_range.1 hi1;simp only[Bool.and_eq_true] at hi2;have hil:listed.getD i true=false:=by simpa using hi2.1
   by_cases hr:i∈rem.map (·.1)
   ·exact hr
   ·exfalso
    obtain⟨h1,h2⟩:=hrest i hilt hr;rw[hout i hilt hr] at hil;rcases h2 with(h2 | h2) | h2
    ·rw[h2] at hil;cases hil
    rotate_left
    ·obtain⟨o,ho,e,he,hb,hsz2,hl0,hnr⟩:=h2
     have h3:=hi2.2;rw[ho] at h3;simp only[Option.map_some,Option.getD_some,Array.all_eq_true_iff_forall_mem] at h3;have:=h3 e (by simpa using he);rw[hb] at this;simp only[Bool.not_true,Bool.false_or] at this;have hlt:e.on<listed.size:=by rw[hs];exact hsz2
     have e1:listed.getD e.on false=listed.getD e.on true:=by simp only[Array.getD,hlt,dif_pos]
     rw[e1,hout e.on hsz2 hnr,hl0] at this
     cases this
    ·obtain⟨p,hp,hpl⟩:=hsome
     have:=Wi hcl _ i (Vg hi2.2) p.1 (h2 p hp);rw[hpl] at this
     cases this
  constructor
  ·intro hnil
   exfalso
   have key:∀ i,i<ops.size->i∈rem.map (·.1)->listed.getD i true=true:=by
    intro i
    induction i using Nat.strongRecOn with
    | _ i ihi =>
     intro hi hr;obtain⟨p,hp,rfl⟩:=List.mem_map.1 hr;have h1:=hall p hp
     cases hl:listed.getD p.1 true with
     | true=>rfl
     | false =>
      exfalso
      have hready:p.1∈Region.ready .any ops listed:=by
       refine List.mem_filter.2 ⟨List.mem_range.2 hi,?_⟩;rw[Array.getElem?_eq_getElem hi] at h1 ⊢;simp only[Bool.and_eq_true,beq_iff_eq] at h1;simp only[hl,Bool.not_false,Option.map_some,Option.getD_some,Bool.true_and];rw[Array.all_eq_true_iff_forall_mem] at h1 ⊢;intro e he;have:=h1.2 e he
       cases hb:Region.binds .any e with
       | false=>rfl
       | true =>
        rw[hb] at this;simp only[Bool.not_true,Bool.false_or,Bool.and_eq_true,decide_eq_true_eq,Bool.or_eq_true] at this;have hlt:e.on<listed.size:=by rw[hs];omega
        have hh:listed.getD e.on true=true:=by
         rcases this.2 with h | h
         ·exact ihi e.on this.1 (by omega) (by simpa using h)
         ·by_cases hr':e.on∈rem.map (·.1)
          ·exact ihi e.on this.1 (by omega) hr'
          ·rw[hout e.on (by omega) hr'];exact h
        simp only[Array.getD,hlt,dif_pos] at hh ⊢
        simpa using hh
      rw[hnil] at hready
      cases hready
   obtain⟨p,hp,hpl⟩:=hsome;have:=key p.1 (hmem p.1 (List.mem_map.2 ⟨p,hp,rfl⟩)).2 (List.mem_map.2 ⟨p,hp,rfl⟩);rw[this] at hpl
   cases hpl
  ·intro i hi
   have hir:=hno i hi;obtain⟨hi1,hi2⟩:=List.mem_filter.1 hi;have hilt:=List.mem_range.1 hi1;simp only[Bool.and_eq_true] at hi2;have hil:listed.getD i true=false:=by simpa using hi2.1
   obtain⟨p,hp,rfl⟩:=List.mem_map.1 hir;refine step p hp u s w hRw ?_ _ ?_
   ·intro j hj
    rw[XE,Array.getElem?_eq_getElem hilt] at hj;obtain⟨e,he,rfl⟩:=List.mem_map.1 hj;obtain⟨he1,he2⟩:=List.mem_filter.1 he;simp only[Bool.and_eq_true] at he2;have hjr:e.on∈rem.map (·.1):=by simpa using he2.2
    obtain⟨q,hq,hqe⟩:=List.mem_map.1 hjr;have hjd:e.on∈XE ops rem p.1:=by
     rw[XE,Array.getElem?_eq_getElem hilt];exact List.mem_map.2 ⟨e,he,rfl⟩
    have hkj:∀ k∈kill q.1,listed.getD k true=false:=by
     intro k hk;rw[hqe] at hk;have h9:=List.all_eq_true.1 (List.all_eq_true.1 (List.all_eq_true.1 hkill p hp) e.on hjd) k hk;obtain rfl:k=p.1:=by simpa using h9
     exact hil
    rw[<-hqe];refine hV q hq ?_ hkj;have h3:=hi2.2;rw[Array.getElem?_eq_getElem hilt] at h3;simp only[Option.map_some,Option.getD_some,Array.all_eq_true_iff_forall_mem] at h3;have:=h3 e (by simpa using he1);rw[he2.1] at this;simp only[Bool.not_true,Bool.false_or] at this;rw[hqe];have hlt:e.on<listed.size:=by rw[hs,<-hqe];exact(hmem q.1 (List.mem_map.2 ⟨q,hq,rfl⟩)).2
    simp only[Array.getD,hlt,dif_pos] at this ⊢
    simpa using this
   ·intro v s' w' hv hR' hst
    have hpp:(p.1,p.2)∈rem:=hp;rw[U2 a0 p.1 p.2 u v rem hn hdn hpp];have hset:∀ j,(listed.setIfInBounds p.1 true).getD j true=if j=p.1 then true else listed.getD j true:=by
     intro j;simp only[Array.getD_eq_getD_getElem?,Array.getElem?_setIfInBounds]
     by_cases hj:p.1=j
     ·subst hj
      simp;split<;>simp
     ·rw[if_neg hj,if_neg (Ne.symm hj)]
    refine ih _ _ _ _ (by simpa using hs) hR' ?_ ?_ ?_ ?_
    ·intro j hj hjr
     have hjp:¬j=p.1:=fun e=>hjr (by rw[e];exact List.mem_map.2 ⟨p,hp,rfl⟩)
     rw[hset,if_neg hjp];exact hout j hj hjr
    ·intro q hq hql hkq
     rw[hset] at hql
     by_cases he:q.1=p.1
     ·rw[he]
      simpa [upd] using hv
     ·rw[if_neg he] at hql
      simp only[upd,if_neg he];have hk1:∀ k∈kill q.1,k≠p.1/\listed.getD k true=false:=by
       intro k hk;have h9:=hkq k hk;rw[hset] at h9
       by_cases hkp:k=p.1
       ·rw[if_pos hkp] at h9;cases h9
       ·rw[if_neg hkp] at h9;exact⟨hkp,h9⟩
      refine stab p.1 q.1 _ _ _ _ _ ?_ (hV q hq hql fun k hk=>(hk1 k hk).2) hst;unfold ZdU;simp only[Bool.and_eq_true,decide_eq_true_eq,Bool.not_eq_true'];refine⟨⟨⟨Ne.symm he,?_⟩,List.all_eq_true.2 fun k hk=>?_⟩,?_⟩
      ·cases hc:(kill q.1).contains p.1 with
       | false=>rfl
       | true=>exact absurd rfl (hk1 p.1 (by simpa using hc)).1
      ·cases hc:Wh ops (rem.map (·.1)) (rem.length+1) p.1 k with
       | false=>rfl
       | true =>
        have h5:=Wi hcl _ p.1 (Vg hi2.2) k hc;rw[(hk1 k hk).2] at h5
        cases h5
      ·cases hc:Wh ops (rem.map (·.1)) (rem.length+1) q.1 p.1 with
       | false=>rfl
       | true =>
        have h5:=Wi hcl _ q.1 (hcl q.1 (List.mem_map.2 ⟨q,hq,rfl⟩) hql) p.1 hc;rw[hil] at h5
        cases h5
    ·intro q hq hql o ho e he hb
     rw[hset];split
     ·rfl
     ·rw[hset] at hql
      by_cases hqp:q=p.1
      ·subst hqp
       exact Vg hi2.2 o ho e he hb
      ·rw[if_neg hqp] at hql
       exact hcl q hq hql o ho e he hb
    ·have hlt:Wz (listed.setIfInBounds p.1 true) rem+1=Wz listed rem:=by
      unfold Wz;have h1:∀ (qs:List (Nat×Option Tmp)),(qs.map (·.1)).Nodup->p∈qs->(qs.filter fun q => !(listed.setIfInBounds p.1 true).getD q.1 true).length+1=(qs.filter fun q => !listed.getD q.1 true).length:=by
       intro qs hqn hpq;have heq:∀ (rs:List (Nat×Option Tmp)),p.1∉rs.map (·.1)->(rs.filter fun q => !(listed.setIfInBounds p.1 true).getD q.1 true)=(rs.filter fun q => !listed.getD q.1 true):=by
        intro rs hrs;refine List.filter_congr fun q hq=>?_
        have hne:q.1≠p.1:=fun e=>hrs (e ▸ List.mem_map.2 ⟨q,hq,rfl⟩)
        rw[hset,if_neg hne]
       induction qs with
       | nil=>cases hpq
       | cons r rs ihr =>
        rcases List.mem_cons.1 hpq with rfl | hpq'
        ·have:=heq rs (List.nodup_cons.1 hqn).1
         rw[List.filter_cons,List.filter_cons,this,hset,if_pos rfl,hil];simp
        ·have ih2:=ihr (List.nodup_cons.1 hqn).2 hpq'
         have hne:r.1≠p.1:=by
          intro e;exact(List.nodup_cons.1 hqn).1 (List.mem_map.2 ⟨p,hpq',e.symm⟩)
         rw[List.filter_cons,List.filter_cons,hset,if_neg hne];split<;>(try simp only[List.length_cons])<;>omega
      exact h1 rem hn hp
     omega
theorem Wj (rem:List (Nat×Option Tmp))(R:World->Prop)(V:Nat->Value->World->Prop)(Stab:World->World->Prop){listed0:Array Bool}(listed1:Array Bool)(hok:WU ops listed0 listed1 rem=true)
  (stab:∀ j v w w',V j v w->Stab w w'->V j v w')
  {a0:Act}
  (step:∀ p∈rem,∀ u w,R w->(∀ j∈XE ops rem p.1,V j (u j) w)->∀ K:Act->World->Prop,(∀ v w',V p.1 v w'->R w'->Stab w w'->K ((Zc a0 rem u).put p.2 v) w')->wpOp P ops Q p.1 K (Zc a0 rem u) w)
  (n:Nat) (done:∀ u w,R w->(∀ p∈rem,V p.1 (u p.1) w)->wpAny P .any ops Q n listed1 (Zc a0 rem u) w) {w0:World} (hR:R w0) :
  wpAny P .any ops Q (rem.length+n) listed0 a0 w0 :=
 Ul (σ:=Unit) rem (fun _=>[]) (fun _=>R) (fun j v _=>V j v) (fun _ _ w _ w'=>Stab w w') listed1 hok (by simp[Zbd]) (fun _ j v _ w _ w' _=>stab j v w w') (fun p hp u _ w hR hd K hK=>step p hp u w hR hd K fun v w'=>hK v () w') n (fun u _ w hR h=>done u w hR fun p hp=>h p hp rfl) (s0:=()) hR
end
section
variable {P:Program} {ops:Array Oper} {Q:Exit->Act->World->Prop}
theorem Zm (rem:List (Nat×Option Tmp))(f:Nat->Value){listed0:Array Bool}(listed1:Array Bool)(hok:WU ops listed0 listed1 rem=true){a0:Act}{w:World}{n:Nat}
  (step:∀ p∈rem,∀ u:Nat->Value,(∀ j∈XE ops rem p.1,u j=f j)->∀ K:Act->World->Prop,K ((Zc a0 rem u).put p.2 (f p.1)) w->wpOp P ops Q p.1 K (Zc a0 rem u) w)
  (done:wpAny P .any ops Q n listed1 (Zc a0 rem f) w):wpAny P .any ops Q (rem.length+n) listed0 a0 w:=by
 refine Wj rem (fun w'=>w'=w) (fun i v _=>v=f i) (fun _ _=>True) listed1 hok (fun _ _ _ _ h _=>h) ?_ n ?_ rfl
 ·rintro p hp u w' rfl hD K hK
  exact step p hp u hD K (hK _ _ rfl rfl trivial)
 ·rintro u w' rfl hV
  have:∀ qs:List (Nat×Option Tmp),(∀ p∈qs,u p.1=f p.1)->Zc a0 qs u=Zc a0 qs f:=by
   intro qs
   induction qs with
   | nil=>intro _;rfl
   | cons q qs ih =>
    intro h;simp only[Zc,ih (fun p hp=>h p (List.mem_cons_of_mem _ hp)),h q List.mem_cons_self]
  rw[this rem hV];exact done
end
section
variable {P:Program} {ops:Array Oper} {o:Oper} {a:Act} {w w':World} {K:Act->World->Prop} {Q:Exit->Act->World->Prop} {E:Prop}
end
end
section
def VF (f:Nat->Option Value)(g:Nat->Value->World->Prop)(i:Nat)(v:Value)(w:World) : Prop:=match f i with
 | some c=>v=c
 | none=>g i v w
theorem VF.stab {f:Nat->Option Value}{g:Nat->Value->World->Prop}{Stab:World->World->Prop}(h:∀ j v w w',f j=none->g j v w->Stab w w'->g j v w')(j:Nat)(v:Value)(w w':World)(hv:VF f g j v w)(hs:Stab w w') : VF f g j v w':=by
 unfold VF at *
 cases hf:f j with
 | some c=>rw[hf] at hv;exact hv
 | none=>rw[hf] at hv;exact h j v w w' hf hv hs
theorem VF.k {f:Nat->Option Value}{g:Nat->Value->World->Prop}{i:Nat}{v c:Value}{w:World}(h:VF f g i v w)(hf:f i=some c) : v=c:=by unfold VF at h;rw[hf] at h;exact h
theorem VF.g {f:Nat->Option Value}{g:Nat->Value->World->Prop}{i:Nat}{v:Value}{w:World}(h:VF f g i v w)(hf:f i=none) : g i v w:=by unfold VF at h;rw[hf] at h;exact h
theorem VF.mk {f:Nat->Option Value}{g:Nat->Value->World->Prop}{i:Nat}{c:Value}{w:World}(hf:f i=some c) : VF f g i c w:=by unfold VF;rw[hf]
theorem VF.mg {f:Nat->Option Value}{g:Nat->Value->World->Prop}{i:Nat}{v:Value}{w:World}(hf:f i=none)(h:g i v w) : VF f g i v w:=by unfold VF;rw[hf];exact h
def YY (ops:Array Oper)(i:Nat) : Option (Option (Nat×Bool)×Op×TypeId×Option Tmp):=(ops[i]?).map fun o=>(o.guard,o.op,o.type,o.dst)
def Zj (ρ:Operand->Value)(op:Op)(t:TypeId) : Sem Next:=execOp ρ { dst:=none,op:=op,type:=t,pos := "",after:=#[],guard:=none }
theorem J3 (ρ:Operand->Value)(o:Oper) : execOp ρ o=Zj ρ o.op o.type:=rfl
section
variable {P:Program} {ops:Array Oper} {i:Nat} {op:Op} {t:TypeId} {d:Option Tmp} {a:Act} {w w':World} {K:Act->World->Prop} {Q:Exit->Act->World->Prop}
theorem Zbe (hi:YY ops i=some (none,op,t,d))(h:∀ o:Oper,o.op=op->o.type=t->o.dst=d->o.upon P a K Q ((Zj a.eval op t).run P w)) : wpOp P ops Q i K a w:=by
 unfold YY at hi;obtain⟨o,ho,he⟩:=Option.map_eq_some_iff.1 hi;simp only[Prod.mk.injEq] at he;obtain⟨h1,h2,h3,h4⟩:=he;unfold wpOp;simp only[ho];rw[if_pos (by simp[Region.wanted,h1])];refine .inl ?_;rw[Oper.wp,J3,h2,h3];exact h o h2 h3 h4
theorem Zl (hi:YY ops i=some (none,op,t,d))(v:Value)(hrun:(Zj a.eval op t).run P w=.ok (.value v) w')(hK:K (a.put d v) w') : wpOp P ops Q i K a w :=
 Zbe hi fun o _ _ hd=>by rw[hrun,Oper.upon_value,hd];exact hK
theorem Zfl (hi:YY ops i=some (none,op,t,d))(hrun:(Zj a.eval op t).run P w=.ok .skip w')(hK:K (a.put d undef) w') : wpOp P ops Q i K a w :=
 Zbe hi fun o _ _ hd=>by rw[hrun,Oper.upon_skip,hd];exact hK
theorem Ze {T:TypeId}{x:Operand}(hi:YY ops i=some (none,.load T x,t,d))(p:Value)(hx:a.eval x=p)(v:Value)(hrun:(Instr.loadAt T p).run P w=.ok v w)(hK:K (a.put d v) w) : wpOp P ops Q i K a w :=
 Zl hi v (by simp[Zj,execOp,hx,hrun]) hK
theorem Vb {T:TypeId}{x y:Operand}(hi:YY ops i=some (none,.indexAddr T x y,t,d))(p q:Value)(hx:a.eval x=p)(hy:a.eval y=q)(v:Value)(hrun:(Instr.indexAt T p q).run P w=.ok v w)(hK:K (a.put d v) w) : wpOp P ops Q i K a w :=
 Zl hi v (by simp[Zj,execOp,hx,hy,hrun]) hK
theorem ZdV {T:TypeId}{x:Operand}(hi:YY ops i=some (none,.buildSlice T 1 #[(0,x)],t,d))(p:Value)(hx:a.eval x=p)(v:Value)(hrun:(Instr.buildSlice T 1 #[(0,p)]).run P w=.ok v w')(hK:K (a.put d v) w') : wpOp P ops Q i K a w :=
 Zl hi v (by simp[Zj,execOp,hx,hrun]) hK
theorem ZR {T:TypeId}{x y:Operand}(hi:YY ops i=some (none,.store T x y,t,d))(p v:Value)(hx:a.eval x=p)(hy:a.eval y=v)(hrun:(Instr.storeAt T p v).run P w=.ok () w')(hK:K (a.put d undef) w') : wpOp P ops Q i K a w :=
 Zfl hi (by simp[Zj,execOp,hx,hy,hrun]) hK
theorem Vh {s x:Operand}{t1 t2:TypeId}(hi:YY ops i=some (none,.call { callee:=.builtin .append,args:=#[s,x],argTypes:=#[t1,t2] },t,d))(p q:Value)(hs:a.eval s=p)(hx:a.eval x=q)(v:Value)(hrun:(Builtin.append_ #[t1,t2] t #[p,q]).run P w=.ok v w')(hK:K (a.put d v) w') : wpOp P ops Q i K a w :=
 Zl hi v (by simp[Zj,execOp,resolve,invoke,builtin,Sem.run_bind,Sem.run_pure,Result.andThen_ok,hs,hx,hrun]) hK
theorem Zi {f:Nat}{xs:Array Operand}{ts:Array TypeId}(hi:YY ops i=some (none,.call { callee:=.value (.func f),args:=xs,argTypes:=ts },t,d))(args:Array Value)(hf:(callFunc f args).run P w=.ok (.enter f args) w)(hargs:xs.map a.eval=args)(R:Ending->World->Prop)(hc:Calls P f args w R)(hK:∀ e w',R e w'->∃ v,e=.returned v/\K (a.put d v) w') : wpOp P ops Q i K a w :=
 Zbe hi fun o _ _ hd=>by
  have e1:(Zj a.eval (.call { callee:=.value (.func f),args:=xs,argTypes:=ts }) t).run P w=.ok (.enter f args) w:=by
   simp[Zj,execOp,resolve,invoke,Sem.run_bind,Sem.run_pure,Result.andThen_ok,hargs,Deferred.ofValue,Act.eval,hf]
  rw[e1,Oper.upon_enter];refine hc.mono fun e w1 he=>?_
  obtain⟨v,rfl,hk⟩:=hK e w1 he;rw[hd];exact hk
theorem Zcr {g:Nat×Bool}(hi:YY ops i=some (some g,op,t,d))(hg:yielded ops a.tmps g.1=some g.2)(h:∀ o:Oper,o.op=op->o.type=t->o.dst=d->o.upon P a K Q ((Zj a.eval op t).run P w)) : wpOp P ops Q i K a w:=by
 unfold YY at hi;obtain⟨o,ho,he⟩:=Option.map_eq_some_iff.1 hi;simp only[Prod.mk.injEq] at he;obtain⟨h1,h2,h3,h4⟩:=he;unfold wpOp;simp only[ho];rw[if_pos (by simp[Region.wanted,h1,hg])];refine .inl ?_;rw[Oper.wp,J3,h2,h3];exact h o h2 h3 h4
theorem ZdW {g:Nat×Bool}{T:TypeId}{x:Operand}(hi:YY ops i=some (some g,.load T x,t,d))(hg:yielded ops a.tmps g.1=some g.2)(p:Value)(hx:a.eval x=p)(v:Value)(hrun:(Instr.loadAt T p).run P w=.ok v w)(hK:K (a.put d v) w) : wpOp P ops Q i K a w :=
 Zcr hi hg fun o _ _ hd=>by
  have e1:(Zj a.eval (.load T x) t).run P w=.ok (.value v) w:=by simp[Zj,execOp,hx,hrun]
  rw[e1,Oper.upon_value,hd];exact hK
theorem J4 {g:Nat×Bool}{f:Nat}{xs:Array Operand}{ts:Array TypeId}(hi:YY ops i=some (some g,.call { callee:=.value (.func f),args:=xs,argTypes:=ts },t,d))(hg:yielded ops a.tmps g.1=some g.2)(args:Array Value)(hf:(callFunc f args).run P w=.ok (.enter f args) w)(hargs:xs.map a.eval=args)(R:Ending->World->Prop)(hc:Calls P f args w R)(hK:∀ e w',R e w'->∃ v,e=.returned v/\K (a.put d v) w') : wpOp P ops Q i K a w :=
 Zcr hi hg fun o _ _ hd=>by
  have e1:(Zj a.eval (.call { callee:=.value (.func f),args:=xs,argTypes:=ts }) t).run P w=.ok (.enter f args) w:=by
   simp[Zj,execOp,resolve,invoke,Sem.run_bind,Sem.run_pure,Result.andThen_ok,hargs,Deferred.ofValue,Act.eval,hf]
  rw[e1,Oper.upon_enter];refine hc.mono fun e w1 he=>?_
  obtain⟨v,rfl,hk⟩:=hK e w1 he;rw[hd];exact hk
theorem Zu {md:Region.Mode}{listed:Array Bool}{n:Nat}{v:Value}(hi:YY ops i=some (none,op,t,d))(hs:Region.noSelect ops=true)(hf:Region.free md ops listed i=true)(hr:(Region.ready md ops listed).contains i=true)
  (hQ:∀ c a w,Q (.panic c) (a.put d v) w->Q (.panic c) a w) (hy:∀ u,(Zj a.eval op t).run P u=.ok (.value v) u) (h:wpAny P md ops Q n (listed.setIfInBounds i true) (a.put d v) w):wpAny P md ops Q (n+1) listed a w:=by
 unfold YY at hi;obtain⟨o,ho,he⟩:=Option.map_eq_some_iff.1 hi;simp only[Prod.mk.injEq] at he;obtain⟨h1,rfl,rfl,rfl⟩:=he;exact wpAny_take ho hs hf hr hQ (.inl ⟨by simp[Region.wanted,h1],hy⟩) h
theorem Za {md:Region.Mode}{listed:Array Bool}{n:Nat}{v:Value}(i:Nat)(op:Op)(t:TypeId)(d:Option Tmp)(hi:YY ops i=some (none,op,t,d))(hc:(Region.noSelect ops&&(Region.free md ops listed i&&(Region.ready md ops listed).contains i))=true)(hQ:∀ c a w,Q (.panic c) (a.put d v) w->Q (.panic c) a w)(hy:∀ u,(execOp a.eval { dst:=none,op:=op,type:=t,pos := "",after:=#[],guard:=none }).run P u=.ok (.value v) u)(h:wpAny P md ops Q n (listed.setIfInBounds i true) (a.put d v) w) : wpAny P md ops Q (n+1) listed a w:=by
 simp only[Bool.and_eq_true] at hc;exact Zu hi hc.1 hc.2.1 hc.2.2 hQ hy h
theorem lay : (∀ (a:Act) (d:Option Nat) (v:Value),a.put d v=(match d with | some d=>{ a with tmps:=a.tmps.setIfInBounds d v } | none=>a))/\(∀ (l:List Value) (i:Nat) (v:Value),l.toArray.setIfInBounds i v=(l.set i v).toArray)/\(∀ (x:Value) (l:List Value) (v:Value),(x::l).set 0 v=v::l)/\(∀ (x:Value) (l:List Value) (i:Nat) (v:Value),(x::l).set (i+1) v=x::l.set i v):=⟨fun _ d _=>by cases d<;>rfl,fun _ _ _=>by simp,fun _ _ _=>rfl,fun _ _ _ _=>rfl⟩
theorem JE {md:Region.Mode}{listed:Array Bool}{n:Nat}{v:Value}{g:Nat×Bool}(hi:YY ops i=some (some g,op,t,d))(hs:Region.noSelect ops=true)(hf:Region.free md ops listed i=true)(hr:(Region.ready md ops listed).contains i=true)
  (hQ:∀ c a w,Q (.panic c) (a.put d v) w->Q (.panic c) a w) (hg:yielded ops a.tmps g.1=some g.2) (hy:∀ u,(Zj a.eval op t).run P u=.ok (.value v) u) (h:wpAny P md ops Q n (listed.setIfInBounds i true) (a.put d v) w):wpAny P md ops Q (n+1) listed a w:=by
 unfold YY at hi;obtain⟨o,ho,he⟩:=Option.map_eq_some_iff.1 hi;simp only[Prod.mk.injEq] at he;obtain⟨h1,rfl,rfl,rfl⟩:=he;exact wpAny_take ho hs hf hr hQ (.inl ⟨by simp[Region.wanted,h1,hg],hy⟩) h
theorem Yk {md:Region.Mode}{listed:Array Bool}{n:Nat}{v:Value}{g:Nat×Bool}(i:Nat)(op:Op)(t:TypeId)(d:Option Tmp)(hi:YY ops i=some (some g,op,t,d))(hc:(Region.noSelect ops&&(Region.free md ops listed i&&(Region.ready md ops listed).contains i))=true)(hQ:∀ c a w,Q (.panic c) (a.put d v) w->Q (.panic c) a w)(hg:yielded ops a.tmps g.1=some g.2)(hy:∀ u,(execOp a.eval { dst:=none,op:=op,type:=t,pos := "",after:=#[],guard:=none }).run P u=.ok (.value v) u)(h:wpAny P md ops Q n (listed.setIfInBounds i true) (a.put d v) w) : wpAny P md ops Q (n+1) listed a w:=by
 simp only[Bool.and_eq_true] at hc;exact JE hi hc.1 hc.2.1 hc.2.2 hQ hg hy h
theorem Zfm {md:Region.Mode}{listed:Array Bool}{n:Nat}{g:Nat×Bool}{b:Bool}(hi:YY ops i=some (some g,op,t,d))(hs:Region.noSelect ops=true)(hf:Region.free md ops listed i=true)(hr:(Region.ready md ops listed).contains i=true)
  (hQ:∀ c a w,Q (.panic c) (a.put d undef) w->Q (.panic c) a w) (hg:yielded ops a.tmps g.1=some b) (hb:(b != g.2)=true) (h:wpAny P md ops Q n (listed.setIfInBounds i true) (a.put d undef) w):wpAny P md ops Q (n+1) listed a w:=by
 unfold YY at hi;obtain⟨o,ho,he⟩:=Option.map_eq_some_iff.1 hi;simp only[Prod.mk.injEq] at he;obtain⟨h1,rfl,rfl,rfl⟩:=he;refine wpAny_take ho hs hf hr hQ (.inr ⟨?_,rfl⟩) h;obtain⟨g1,g2⟩:=g;simp only at hg hb
 cases b<;>cases g2<;>simp_all[Region.wanted]
theorem Z9 {md:Region.Mode}{listed:Array Bool}{n:Nat}{g:Nat×Bool}(i:Nat)(op:Op)(t:TypeId)(d:Option Tmp)(b:Bool)(hi:YY ops i=some (some g,op,t,d))(hc:(Region.noSelect ops&&(Region.free md ops listed i&&(Region.ready md ops listed).contains i))=true)(hQ:∀ c a w,Q (.panic c) (a.put d undef) w->Q (.panic c) a w)(hg:yielded ops a.tmps g.1=some b)(hb:(b != g.2)=true)(h:wpAny P md ops Q n (listed.setIfInBounds i true) (a.put d undef) w) : wpAny P md ops Q (n+1) listed a w:=by
 simp only[Bool.and_eq_true] at hc;exact Zfm hi hc.1 hc.2.1 hc.2.2 hQ hg hb h
theorem Zd {md:Region.Mode}{listed:Array Bool}{n:Nat}(i:Nat)(h1:Region.ready md ops listed=[i])(h:wpOp P ops Q i (wpAny P md ops Q n (listed.setIfInBounds i true)) a w) : wpAny P md ops Q (n+1) listed a w :=
 ⟨fun h0=>absurd (h1.symm.trans h0) (by simp),fun j hj=>by
  rw[h1] at hj;obtain rfl:j=i:=by simpa using hj
  exact h⟩
end
theorem Vw {P:Program}{t e:TypeId}{i0:TypeInfo}{size:Nat}(ht:P.underlying t=some (.slice e))(hi:P.info? e=some i0)(hsz:i0.size=size)(A:Option Addr)(n c lo:Nat)(L:Int)(hL:L=(lo:Int))(h1:lo<=n)(h2:n<=c)(u:World) :
  (Instr.sliceAt t (.slice A n c) (some (.int .i64 L)) none none).run P u=.ok (.slice (if c=lo then A else A.map (·.add (lo*size))) (n-lo) (c-lo)) u:=by
 subst hL;have he:P.elem t=e:=by simp[Program.elem,ht]
 have h0:(0:Int)<=(lo:Int)/\(lo:Int)<=(n:Int):=by omega
 have ht':P.underlying t=some (.slice (P.elem t)):=by rw[he];exact ht
 simp[run_sliceAt_slice,ht',Instr.slice,run_underlying ht,Instr.sliceBounds,Instr.sliceBound,asIntOf,h0,h1,sizeOf,typeInfo,hi,hsz]
theorem RdI.drop {w:World}{A:Option Addr}{xs:List Int}{c lo:Nat}(h:RdI w A xs)(h1:lo<=xs.length)(h2:xs.length<=c) : RdI w (if c=lo then A else A.map (·.add (lo*1))) (xs.drop lo):=by
 by_cases hc:c=lo
 ·left
  exact List.drop_of_length_le (by omega)
 ·rw[if_neg hc]
  rcases h with rfl | ⟨b,off,rfl,hb,hcc⟩
  ·left;simp
  ·refine .inr ⟨b,off+lo,by simp[Addr.add],hb,fun j x hj=>?_⟩
   rw[List.getElem?_drop] at hj;have:=hcc (lo+j) x hj
   rwa [<-Nat.add_assoc] at this
theorem Ints.drop {xs:List Int}(h:Ints xs)(n:Nat) : Ints (xs.drop n):=fun x hx=>h x (List.mem_of_mem_drop hx)
end
section
open Go.Deep
structure InstP where
 kind:Int
 n:Int
 cap:Int
 weight:List Int
 value:List Int
 cost:List (List Int)
def RInst (w:World)(vs:List Value)(i:InstP) : Prop:=∃ (A:Option Addr) (a:Nat) (B:Option Addr) (b:Nat) (C:Option Addr) (c:Nat),
 vs=[.int .i64 i.kind,.int .i64 i.n,.int .i64 i.cap,.slice A i.weight.length a,.slice B i.value.length b,.slice C i.cost.length c] /\
 (RdI w A i.weight/\Ints i.weight/\i.weight.length<=a/\a<=maxLen)/\(RdI w B i.value/\Ints i.value/\i.value.length<=b/\b<=maxLen)/\(RdE 1 RInts w C i.cost/\i.cost.length<=c/\c<=maxLen)
theorem RInst.ext {w w':World}{vs:List Value}{i:InstP}(h:RInst w vs i)(x:Ext w w') : RInst w' vs i:=by
 obtain⟨A,a,B,b,C,c,rfl,⟨h1,h2⟩,⟨h3,h4⟩,⟨h5,h6⟩⟩:=h;exact⟨A,a,B,b,C,c,rfl,⟨h1.ext x,h2⟩,⟨h3.ext x,h4⟩,⟨h5.ext x fun _ _ h=>h.ext x,h6⟩⟩
section
variable {H:Type} {enc:TypeId×Value->H} {W:World}
theorem ZdX : Tryz.prog.cellsOf 22=1:=by kernel_rfl
end
end
section
section
variable {P:Program} {ops:Array Oper} {Q:Exit->Act->World->Prop}
theorem Zh (rem:List (Nat×Option Tmp))(R:World->Prop)(V:Nat->Value->World->Prop)(Stab:World->World->Prop){listed0:Array Bool}(listed1:Array Bool)(hok:WU ops listed0 listed1 rem=true)
  (stab:∀ j v w w',V j v w->Stab w w'->V j v w')
  {a0:Act}
  (step:∀ p∈rem,∀ u w,R w->(∀ j∈XE ops rem p.1,V j (u j) w)->∀ K:Act->World->Prop,(∀ v w',V p.1 v w'->R w'->Stab w w'->K ((Zc a0 rem u).put p.2 v) w')->wpOp P ops Q p.1 K (Zc a0 rem u) w)
  (n:Nat) (done:∀ u w,R w->(∀ p∈rem,V p.1 (u p.1) w)->wpAny P .any ops Q n listed1 (Zc a0 rem u) w) {w0:World} (hR:R w0) :
  wpAny P .any ops Q (rem.length+n) listed0 a0 w0 :=
 Wj rem R V Stab listed1 hok stab step n done hR
end
end
section
open Go.Deep
def RowsO (w:World)(base:Nat)(us:List Value)(rows:List (List Int)) : Prop :=
 us.length=rows.length/\∀ (i:Nat) (r:List Int),rows[i]?=some r->∃ (A:Option Addr) (c:Nat),us[i]?=some (.slice A r.length c)/\OwI w base A c r
section
variable {w w':World} {base:Nat} {us:List Value} {rows:List (List Int)}
theorem RowsO.nil (w:World)(base:Nat) : RowsO w base [] []:=⟨rfl,fun i r h=>by simp at h⟩
theorem RowsO.ext (h:RowsO w base us rows)(hx:Ext w w') : RowsO w' base us rows :=
 ⟨h.1,fun i r hr=>by obtain⟨A,c,h1,h3⟩:=h.2 i r hr;exact⟨A,c,h1,h3.ext hx⟩⟩
theorem RowsO.more {base':Nat}(h:RowsO w base us rows)(hb:base'<=base) : RowsO w base' us rows :=
 ⟨h.1,fun i r hr=>by obtain⟨A,c,h1,h3⟩:=h.2 i r hr;exact⟨A,c,h1,h3.more hb⟩⟩
theorem RowsO.modT {base':Nat}{ts:List TypeId}(h:RowsO w base us rows)(k:ModT base' ts w w')(ht:3∉ts) : RowsO w' base us rows :=
 ⟨h.1,fun i r hr=>by obtain⟨A,c,h1,h3⟩:=h.2 i r hr;exact⟨A,c,h1,h3.modT k ht⟩⟩
theorem RowsO.snoc (h:RowsO w base us rows){r:List Int}{A:Option Addr}{c:Nat}(ho:OwI w base A c r) : RowsO w base (us++[.slice A r.length c]) (rows++[r]):=by
 obtain⟨h1,h2⟩:=h;refine⟨by simp[h1],fun i q hq=>?_⟩
 by_cases hi:i<rows.length
 ·rw[List.getElem?_append_left hi] at hq
  obtain⟨A',c',q1,q3⟩:=h2 i q hq;exact⟨A',c',by rw[List.getElem?_append_left (by omega)];exact q1,q3⟩
 ·rw[List.getElem?_append_right (by omega)] at hq
  obtain⟨h0,hq⟩:=List.getElem?_eq_some_iff.1 hq;have:i=rows.length:=by simp at h0;omega
  subst this;simp at hq;subst hq;exact⟨A,c,by rw[List.getElem?_append_right (by omega),h1];simp,ho⟩
end
def RowsD (us:List Value) : Prop:=∀ (i j:Nat) (vi vj:Value),i<j->us[i]?=some vi->us[j]?=some vj->∀ b,vi.ownBlock=some b->vj.ownBlock≠some b
theorem RowsD.nil : RowsD []:=fun i j vi vj _ h=>by simp at h
theorem RowsD.snoc {w W:World}{base:Nat}{us:List Value}{rows:List (List Int)}{A:Option Addr}{c:Nat}{r:List Int}(h:RowsD us)(hR:RowsO w base us rows)(ho:OwI W w.heap.size A c r) : RowsD (us++[.slice A r.length c]):=by
 intro i j vi vj hij hi hj b hb e
 by_cases hjl:j<us.length
 ·rw[List.getElem?_append_left hjl] at hj
  rw[List.getElem?_append_left (by omega)] at hi;exact h i j vi vj hij hi hj b hb e
 ·rw[List.getElem?_append_right (by omega)] at hj
  obtain⟨h0,hj⟩:=List.getElem?_eq_some_iff.1 hj;have hj':j=us.length:=by simp at h0;omega
  subst hj';simp at hj;subst hj;rw[List.getElem?_append_left hij] at hi;obtain⟨r',hr'⟩:∃ r',rows[i]?=some r':=⟨rows[i]'(by rw[<-hR.1];exact hij),List.getElem?_eq_getElem _⟩;obtain⟨A',c',q1,q2⟩:=hR.2 i r' hr';rw[hi] at q1;obtain rfl:=Option.some.inj q1;rw[Z7] at hb e;have h1:=(q2.lt b hb).2;have h2:=(ho.lt b e).1;omega
theorem OwV.grownT {w w':World}{base size n c:Nat}{E:TypeId}{A:Option Addr}{xs:List Value}(h:OwV w base E size A n c xs)(hg:w.grownBy w' (bl A)) : ModT base [E] w w':=by
 refine Mod.grown hg fun g hA=>?_
 rcases h.cases with⟨rfl,_⟩ | ⟨g',cur,rfl,hb,hh,_⟩
 ·simp[bl] at hA
 ·simp[bl] at hA
  subst hA;exact⟨hb,cur,_,hh,by simp⟩
theorem Zb {W W':World}(x:Ext W W'){b o:Nat}{v:Value}(hb:b<W.heap.size)(hc:W.cell? ⟨b,o,none⟩=some v) : W'.cell? ⟨b,o,none⟩=some v:=(x.cells.1 _ o hb).trans hc
def InstO (w:World)(base:Nat)(vs:List Value)(i:InstP) : Prop:=∃ (A:Option Addr) (a:Nat) (B:Option Addr) (b:Nat) (C:Option Addr) (c:Nat) (us:List Value),
 vs=[.int .i64 i.kind,.int .i64 i.n,.int .i64 i.cap,.slice A i.weight.length a,.slice B i.value.length b,.slice C i.cost.length c] /\
 OwI w base A a i.weight/\OwI w base B b i.value/\OwV w base 22 1 C i.cost.length c us/\RowsO w base us i.cost
section
variable {P:Program} {ops:Array Oper} {i:Nat} {op:Op} {t:TypeId} {d:Option Tmp} {a:Act} {w w':World} {K:Act->World->Prop} {Q:Exit->Act->World->Prop}
end
theorem ZgX {w:World}{g base:Nat}{t:TypeId}{a0 a1 a2 a3 a4 a5:Value}(h:Blk w g t #[a0,a1,a2,a3,a4,a5])(hb:base<=g)(u0 u1 u2 u3 u4 u5:Value) :
  Blk ((((((w.setCell ⟨g,0,none⟩ u0).setCell ⟨g,1,none⟩ u1).setCell ⟨g,2,none⟩ u2).setCell ⟨g,3,none⟩ u3).setCell ⟨g,4,none⟩ u4).setCell ⟨g,5,none⟩ u5) g t #[u0,u1,u2,u3,u4,u5] /\
  ModT base [t] w ((((((w.setCell ⟨g,0,none⟩ u0).setCell ⟨g,1,none⟩ u1).setCell ⟨g,2,none⟩ u2).setCell ⟨g,3,none⟩ u3).setCell ⟨g,4,none⟩ u4).setCell ⟨g,5,none⟩ u5):=by
 have h0:=h.set 0 u0;have h1:=h0.set 1 u1;have h2:=h1.set 2 u2;have h3:=h2.set 3 u3;have h4:=h3.set 4 u4;have h5:=h4.set 5 u5;exact⟨h5,(((((ModT.set w h (by simp) hb 0 u0).tr (ModT.set _ h0 (by simp) hb 1 u1)).tr (ModT.set _ h1 (by simp) hb 2 u2)).tr (ModT.set _ h2 (by simp) hb 3 u3)).tr (ModT.set _ h3 (by simp) hb 4 u4)).tr (ModT.set _ h4 (by simp) hb 5 u5)⟩
theorem U4 : (Tryz.prog.info? 22).map (fun i=>(i.zero,i.size,i.bytes))=some (some (.slice none 0 0),1,24):=by kernel_rfl
end
section
open Go.Deep
def XY (n:Int) : Int:=if n<0 then 1 else if 2147483647<n then 5 else 0
theorem Xh (n:Int)(w:World) : Calls Tryz.prog 199 #[.int .i64 n] w fun e w'=>e=.returned (.int .i64 (XY n))/\Ext w w':=by
 unfold XY
 by_cases h1:n<0
 ·rw[if_pos h1]
  go_enter Tryz.func199,Tryz.ntmps199;go_wp2_with (fail);exact bodyPost_ret (v:=.int .i64 1) (by simp[results,Tryz.results199,go_sem]) rfl ⟨rfl,XI⟩
 ·rw[if_neg h1]
  by_cases h2:2147483647<n
  ·rw[if_pos h2]
   go_enter Tryz.func199,Tryz.ntmps199;go_wp2_with (fail);exact bodyPost_ret (v:=.int .i64 5) (by simp[results,Tryz.results199,go_sem]) rfl ⟨rfl,XI⟩
  ·rw[if_neg h2]
   go_enter Tryz.func199,Tryz.ntmps199;go_wp2_with (fail);exact bodyPost_ret (v:=.int .i64 0) (by simp[results,Tryz.results199,go_sem]) rfl ⟨rfl,XI⟩
def Wv (k n:Int) : Int:=if k=1 then(if n<1 then 1 else if 64<n then 5 else 0) else if k=2 then(if n<1 then 1 else if 24<n then 5 else 0) else if k=3 then(if n<1 then 1 else if 24<n then 5 else 0) else 14
theorem ZcL (k n cap:Int)(a b c:Value)(w:World) : Calls Tryz.prog 125 #[.agg #[.int .i64 k,.int .i64 n,.int .i64 cap,a,b,c]] w fun e w'=>e=.returned (.int .i64 (Wv k n))/\Ext w w':=by
 unfold Wv
 by_cases k1:k=1
 ·subst k1
  rw[if_pos rfl]
  by_cases h1:n<1
  ·rw[if_pos h1]
   go_enter Tryz.func125,Tryz.ntmps125;go_wp2_with (fail);exact bodyPost_ret (v:=.int .i64 1) (by simp[results,Tryz.results125,go_sem]) rfl ⟨rfl,XI⟩
  ·rw[if_neg h1]
   by_cases h2:64<n
   ·rw[if_pos h2]
    go_enter Tryz.func125,Tryz.ntmps125;go_wp2_with (fail);exact bodyPost_ret (v:=.int .i64 5) (by simp[results,Tryz.results125,go_sem]) rfl ⟨rfl,XI⟩
   ·rw[if_neg h2]
    go_enter Tryz.func125,Tryz.ntmps125;go_wp2_with (fail);exact bodyPost_ret (v:=.int .i64 0) (by simp[results,Tryz.results125,go_sem]) rfl ⟨rfl,XI⟩
 ·rw[if_neg k1]
  by_cases k2:k=2
  ·subst k2
   rw[if_pos rfl]
   by_cases h1:n<1
   ·rw[if_pos h1]
    go_enter Tryz.func125,Tryz.ntmps125;go_wp2_with (fail);exact bodyPost_ret (v:=.int .i64 1) (by simp[results,Tryz.results125,go_sem]) rfl ⟨rfl,XI⟩
   ·rw[if_neg h1]
    by_cases h2:24<n
    ·rw[if_pos h2]
     go_enter Tryz.func125,Tryz.ntmps125;go_wp2_with (fail);exact bodyPost_ret (v:=.int .i64 5) (by simp[results,Tryz.results125,go_sem]) rfl ⟨rfl,XI⟩
    ·rw[if_neg h2]
     go_enter Tryz.func125,Tryz.ntmps125;go_wp2_with (fail);exact bodyPost_ret (v:=.int .i64 0) (by simp[results,Tryz.results125,go_sem]) rfl ⟨rfl,XI⟩
  ·rw[if_neg k2]
   by_cases k3:k=3
   ·subst k3
    rw[if_pos rfl]
    by_cases h1:n<1
    ·rw[if_pos h1]
     go_enter Tryz.func125,Tryz.ntmps125;go_wp2_with (fail);exact bodyPost_ret (v:=.int .i64 1) (by simp[results,Tryz.results125,go_sem]) rfl ⟨rfl,XI⟩
    ·rw[if_neg h1]
     by_cases h2:24<n
     ·rw[if_pos h2]
      go_enter Tryz.func125,Tryz.ntmps125;go_wp2_with (fail);exact bodyPost_ret (v:=.int .i64 5) (by simp[results,Tryz.results125,go_sem]) rfl ⟨rfl,XI⟩
     ·rw[if_neg h2]
      go_enter Tryz.func125,Tryz.ntmps125;go_wp2_with (fail);exact bodyPost_ret (v:=.int .i64 0) (by simp[results,Tryz.results125,go_sem]) rfl ⟨rfl,XI⟩
   ·rw[if_neg k3]
    go_enter Tryz.func125,Tryz.ntmps125;go_wp2_with (fail);exact bodyPost_ret (v:=.int .i64 14) (by simp[results,Tryz.results125,go_sem]) rfl ⟨rfl,XI⟩
def YQ : List Int->Int
 | []=>0
 | x::l=>if XY x=0 then YQ l else XY x
theorem Vx (a b:List Int) : YQ (a++b)=if YQ a=0 then YQ b else YQ a:=by
 induction a with
 | nil=>rfl
 | cons x l ih =>
  simp only[List.cons_append,YQ];split
  ·exact ih
  ·rename_i h
   first | rfl | rw[if_neg h]
def Ww : List Int->List Int->List Int
 | x::xs,y::ys=>x::y::Ww xs ys
 | _,_=>[]
theorem VT : ∀ (a b c d:List Int),a.length=b.length->Ww (a++c) (b++d)=Ww a b++Ww c d
 | [],[],_,_,_=>by simp[Ww]
 | x::a,y::b,c,d,h=>by
  have:=VT a b c d (by simpa using h);simp[Ww,this]
 | [],_::_,_,_,h=>by simp at h
 | _::_,[],_,_,h=>by simp at h
def ZY (cap:Int)(xs ys:List Int)(k:Nat) : Int:=YQ (cap::Ww (xs.take k) (ys.take k))
theorem J5 (cap:Int)(xs ys:List Int) : ZY cap xs ys 0=XY cap:=by
 simp only[ZY,List.take_zero,Ww,YQ];split
 ·rename_i h;exact h.symm
 ·rfl
theorem J6 {cap:Int}{xs ys:List Int}{k:Nat}{x y:Int}(hx:xs[k]?=some x)(hy:ys[k]?=some y)(h0:ZY cap xs ys k=0) :
  ZY cap xs ys (k+1)=if XY x=0 then XY y else XY x:=by
 obtain⟨lx,hx⟩:=List.getElem?_eq_some_iff.1 hx;obtain⟨ly,hy⟩:=List.getElem?_eq_some_iff.1 hy;unfold ZY at *;rw[List.take_succ_eq_append_getElem lx,List.take_succ_eq_append_getElem ly,VT _ _ _ _ (by simp;omega),<-List.cons_append,Vx,if_pos h0,hx,hy];simp only[Ww,YQ];split
 ·split
  ·rename_i h;exact h.symm
  ·rfl
 ·rfl
theorem J8 {cap:Int}{xs ys:List Int}{k:Nat}(hl:xs.length=ys.length)(h:ZY cap xs ys k≠0) : ZY cap xs ys xs.length=ZY cap xs ys k:=by
 have e:Ww xs ys=Ww (xs.take k) (ys.take k)++Ww (xs.drop k) (ys.drop k):=by
  rw[<-VT _ _ _ _ (by simp[hl]),List.take_append_drop,List.take_append_drop]
 unfold ZY at *;rw[List.take_length,hl,List.take_length,e,<-List.cons_append,Vx,if_neg h]
theorem ZcM (A B:Option Addr)(a b:Nat)(k cap:Int)(xs ys:List Int)(C:Value)(w:World)(hA:RdI w A xs)(hB:RdI w B ys)(la:xs.length<=a)(ma:a<=maxLen)(lb:ys.length<=b)(mb:b<=maxLen)(hxy:xs.length=ys.length) :
  Calls Tryz.prog 127 #[.agg #[.int .i64 k,.int .i64 xs.length,.int .i64 cap,.slice A xs.length a,.slice B ys.length b,C]] w fun e w'=>e=.returned (.int .i64 (ZY cap xs ys xs.length))/\Ext w w':=by
 unfold maxLen at ma mb;replace hxy:=Hd hxy;have B1:Hid (Blk (w.alloc (.cells #[.int .i64 k,.int .i64 xs.length,.int .i64 cap,.slice A xs.length a,.slice B ys.length b,C] 74)) w.heap.size 74 #[.int .i64 k,.int .i64 xs.length,.int .i64 cap,.slice A xs.length a,.slice B ys.length b,C]):=.new rfl;have X:Hid (Ext w (w.alloc (.cells #[.int .i64 k,.int .i64 xs.length,.int .i64 cap,.slice A xs.length a,.slice B ys.length b,C] 74))):=(Ext.rf _).alloc _;have hC:=Hd (Xh cap);go_enter Tryz.func127,Tryz.ntmps127;go_wp2_with (fail);refine(Xh cap _).mono ?_;rintro e w2 ⟨rfl,x2⟩;go_wp2_with (fail);go_loopw [3,4] (fun e i wr=>∃ j:Nat,i=.int .i64 j/\e=.int .i64 (ZY cap xs ys j)/\j<=xs.length/\Ext w wr/\Hid (Blk wr w.heap.size 74 #[.int .i64 k,.int .i64 xs.length,.int .i64 cap,.slice A xs.length a,.slice B ys.length b,C])) (fun _ i _=>xs.length-(intOf i).toNat)
 case atStart=>exact⟨0,rfl,by rw[J5],by omega,Ext.tr (a:=w) XI x2,B1.out.ext x2⟩
 case round =>
  obtain⟨wo,rfl⟩:=Wq wr;obtain⟨j,rfl,rfl,hj,Y,B2⟩:=hrel;have c1:=B2.out.c1;have c3:=B2.out.c3;have c4:=B2.out.c4;have cA:=hA.ext Y;have cB:=hB.ext Y
  by_cases he:ZY cap xs ys j=0
  ·have he':(ZY cap xs ys j==0)=true:=by rw[beq_iff_eq];exact he
   have HE:=Hd he;clear he
   by_cases hlt:j<xs.length
   ·obtain⟨bb,off,x,rfl,_,hc1,hx1,_⟩:=cA.at hlt
    obtain⟨bb',off',y,rfl,_,hc2,hy1,_⟩:=cB.at (k:=j) (by have:=hxy.out;omega);have hlt2:j<ys.length:=by have:=hxy.out;omega
    have S:=Hd (J6 hx1.out hy1.out HE.out);go_wp2_with (fail);refine(Xh x _).mono ?_;rintro e w3 ⟨rfl,x3⟩;have Y3:=Ext.tr Y x3;have B3:=B2.out.ext x3;have c4':=B3.c4;have hc2':=(x3.cells.1 _ (off'+j) (by assumption)).trans hc2
    by_cases hn:XY x=0
    ·have hn':(XY x==0)=true:=by rw[beq_iff_eq];exact hn
     have HN:=Hd hn;clear hn;go_wp2_with (fail);refine(Xh y _).mono ?_;rintro e w4 ⟨rfl,x4⟩;have Y4:=Ext.tr Y3 x4;have B4:=Hd (B3.ext x4);have HR:Hid (ZY cap xs ys (j+1)=XY y):=by
      have h1:=S.out;rw[if_pos HN.out] at h1;exact h1
     clear c1 c3 c4 c4' hc1 hc2 hc2' he' hn';go_wp2;go_roundw
     case rel=>exact⟨j+1,by go_num,by rw[HR.out],by omega,Y4,B4⟩
     case measure=>simp[intOf];omega
    ·have hn':(XY x==0)=false:=by rw[beq_eq_false_iff_ne];exact hn
     have HR:Hid (ZY cap xs ys (j+1)=XY x):=by
      have h1:=S.out;rw[if_neg hn] at h1;exact h1
     clear hn;have B4:=Hd B3;clear c1 c3 c4 c4' hc1 hc2 hc2' he' B3;go_wp2;go_roundw
     case rel=>exact⟨j+1,by go_num,by rw[HR.out],by omega,Y3,B4⟩
     case measure=>simp[intOf];omega
   ·obtain rfl:j=xs.length:=by omega
    clear cA cB c3 c4;go_wp2;go_ret;exact⟨rfl,Y⟩
  ·have he':(ZY cap xs ys j==0)=false:=by rw[beq_eq_false_iff_ne];exact he
   have HE:Hid (ZY cap xs ys xs.length=ZY cap xs ys j):=J8 hxy.out he;clear he cA cB c3 c4
   by_cases hlt:j<xs.length
   ·go_wp2
    go_ret;exact⟨Wu HE.out.symm,Y⟩
   ·go_wp2
    go_ret;exact⟨Wu HE.out.symm,Y⟩
def Wk (k:Int)(r c:Nat) : List Int->Int
 | []=>0
 | n::l=>if XY n=0 then(if k=3/\r=c/\n≠0 then 8 else Wk k r (c+1) l) else XY n
def YR (k:Int)(r:Nat) : List (List Int)->Int
 | []=>0
 | row::l=>if Wk k r 0 row=0 then YR k (r+1) l else Wk k r 0 row
theorem RdE.ints {w:World}{A:Option Addr}{l:List (List Int)}(h:RdE 1 RInts w A l){r:Nat}(hr:r<l.length) :
  ∃ b off B row c,A=some ⟨b,off,none⟩/\b<w.heap.size/\w.cell? ⟨b,off+r,none⟩=some (.slice B row.length c)/\Hid (l[r]?=some row)/\Hid (l.drop r=row::l.drop (r+1))/\RdI w B row/\Ints row/\row.length<=c/\c<=9223372036854775807:=by
 obtain⟨b,off,cs,row,rfl,hb,⟨B,c,rfl,h1,h2,h3,h4⟩,_,hc,he⟩:=h.at hr;have hc0:=hc 0 _ rfl;unfold maxLen at h4;have he':=he.out;refine⟨b,off,B,row,c,rfl,hb,by simpa using hc0,he,?_,h1,h2,h3,h4⟩;obtain⟨hl,hv⟩:=List.getElem?_eq_some_iff.1 he';exact(by rw[List.drop_eq_getElem_cons hl,hv]:l.drop r=row::l.drop (r+1))
theorem ZdY (k n cap:Int)(A B:Value)(C:Option Addr)(c:Nat)(l:List (List Int))(w:World)(hC:RdE 1 RInts w C l)(lc:l.length<=c)(mc:c<=maxLen) :
  Calls Tryz.prog 128 #[.agg #[.int .i64 k,.int .i64 n,.int .i64 cap,A,B,.slice C l.length c]] w fun e w'=>e=.returned (.int .i64 (YR k 0 l))/\Ext w w':=by
 unfold maxLen at mc;have B1:Hid (Blk (w.alloc (.cells #[.int .i64 k,.int .i64 n,.int .i64 cap,A,B,.slice C l.length c] 74)) w.heap.size 74 #[.int .i64 k,.int .i64 n,.int .i64 cap,A,B,.slice C l.length c]):=.new rfl;go_enter Tryz.func128,Tryz.ntmps128;go_wp2_with (fail);go_loopw [11] (fun i wr=>∃ r:Nat,i=.int .i64 r/\r<=l.length/\Hid (YR k 0 l=YR k r (l.drop r))/\Ext w wr/\Hid (Blk wr w.heap.size 74 #[.int .i64 k,.int .i64 n,.int .i64 cap,A,B,.slice C l.length c])) (fun i _=>l.length-(intOf i).toNat)
 case atStart=>exact⟨0,rfl,by omega,by exact rfl,XI,B1⟩
 case round =>
  obtain⟨wo,rfl⟩:=Wq wr;obtain⟨r,rfl,hr,HT,Y,B2⟩:=hrel
  by_cases hlt:r<l.length
  ·obtain⟨b,off,D,row,d,rfl,_,hc1,_,HD,rr,ir,ld,md⟩:=(hC.ext Y fun _ _ h=>h.ext Y).ints hlt
   go_wp2_with (fail);go_loopw [18] (fun i wr=>∃ j:Nat,i=.int .i64 j/\j<=row.length/\Hid (Wk k r 0 row=Wk k r j (row.drop j))/\Ext w wr/\Ext wo wr/\Hid (Blk wr w.heap.size 74 #[.int .i64 k,.int .i64 n,.int .i64 cap,A,B,.slice (some ⟨b,off,none⟩) l.length c])) (fun i _=>row.length-(intOf i).toNat)
   case atStart=>exact⟨0,rfl,by omega,by exact rfl,Y,Ext.rf _,B2⟩
   case round =>
    obtain⟨j,rfl,hj,HJ,Y2,X2,B3⟩:=hrel
    by_cases hlj:j<row.length
    ·obtain⟨bb,off',x,rfl,_,hc2,_,hd2⟩:=(rr.ext X2).at hlj
     go_wp2_with (fail);refine(Xh x _).mono ?_;rintro e w3 ⟨rfl,x3⟩;have Y3:=Ext.tr Y2 x3;have X3:=Ext.tr X2 x3;have B4:=Hd (B3.out.ext x3);have k0:=B4.out.c0
     by_cases hn:XY x=0
     ·have hn':(XY x != 0)=false:=by simpa using hn
      have HN:=Hd hn;clear hn hc1 hc2
      by_cases k3:k=3
      ·subst k3
       by_cases hrj:r=j
       ·subst hrj
        by_cases hx:x=0
        ·have hx':(x != 0)=false:=by simpa using hx
         have HR:Hid (Wk 3 r 0 row=Wk 3 r (r+1) (row.drop (r+1))):=by
          have h1:=HJ.out;rw[hd2.out,Wk,if_pos HN.out,if_neg (by simp[hx])] at h1;exact h1
         clear hx;go_wp2;go_roundw
         case rel=>exact⟨r+1,by go_num,by omega,HR,Y3,X3,B4⟩
         case measure=>simp[intOf];omega
        ·have hx':(x != 0)=true:=by simpa using hx
         have HR:Hid (YR 3 0 l=8):=by
          have h1:=HJ.out;rw[hd2.out,Wk,if_pos HN.out,if_pos ⟨rfl,rfl,hx⟩] at h1;have h2:=HT.out;rw[HD.out,YR,h1] at h2;exact h2
         clear hx;go_wp2;go_ret;exact⟨Wu HR.out.symm,Y3⟩
       ·have hrj':((r:Int)==(j:Int))=false:=by rw[beq_eq_false_iff_ne];omega
        have HR:Hid (Wk 3 r 0 row=Wk 3 r (j+1) (row.drop (j+1))):=by
         have h1:=HJ.out;rw[hd2.out,Wk,if_pos HN.out,if_neg (by simp[hrj])] at h1;exact h1
        go_wp2;go_roundw
        case rel=>exact⟨j+1,by go_num,by omega,HR,Y3,X3,B4⟩
        case measure=>simp[intOf];omega
      ·have k3':(k==3)=false:=by rw[beq_eq_false_iff_ne];exact k3
       have HR:Hid (Wk k r 0 row=Wk k r (j+1) (row.drop (j+1))):=by
        have h1:=HJ.out;rw[hd2.out,Wk,if_pos HN.out,if_neg (by simp[k3])] at h1;exact h1
       clear k3;go_wp2;go_roundw
       case rel=>exact⟨j+1,by go_num,by omega,HR,Y3,X3,B4⟩
       case measure=>simp[intOf];omega
     ·have hn':(XY x != 0)=true:=by simpa using hn
      have HR:Hid (YR k 0 l=XY x):=by
       have h1:=HJ.out;rw[hd2.out,Wk,if_neg hn] at h1;have h2:=HT.out;rw[HD.out,YR,h1,if_neg hn] at h2;exact h2
      clear hn hc1 hc2;go_wp2;go_ret;exact⟨Wu HR.out.symm,Y3⟩
    ·have hd2:=UO (xs:=row) (k:=j) (by omega)
     have HR:Hid (YR k 0 l=YR k (r+1) (l.drop (r+1))):=by
      have h1:=HJ.out;rw[hd2.out,Wk] at h1;have h2:=HT.out;rw[HD.out,YR,if_pos h1] at h2;exact h2
     clear hc1;go_wp2;go_roundw
     case rel=>exact⟨r+1,by go_num,by omega,HR,Y2,B3⟩
     case measure=>simp[intOf];omega
  ·have hd:=UO (xs:=l) (k:=r) (by omega)
   have HR:Hid (YR k 0 l=0):=by
    have h1:=HT.out;rw[hd.out,YR] at h1;exact h1
   clear hd;go_wp2;go_ret;exact⟨Wu HR.out.symm,Y⟩
def Vy {α:Type}(p:α->Bool)(k:Nat) : List α->Int
 | []=>-1
 | x::l=>if p x then(k:Int) else Vy p (k+1) l
theorem J9 {α:Type}(p:α->Bool) : ∀ (k:Nat) (l:List α),decide (0<=Vy p k l)=l.any p
 | k,[]=>by simp[Vy]
 | k,x::l=>by
  unfold Vy
  cases h:p x with
  | true=>simp[h]
  | false=>simpa [h] using J9 p (k+1) l
theorem ZdZ (g:Nat)(lb:Array Value)(p:Nat->Bool)(eg:∀ args w,(callFunc g args).run Tryz.prog w=.ok (.enter g args) w)(C:Option Addr)(c:Nat)(l:List (List Int))(w:World)(hC:RdE 1 RInts w C l)(lx:l.length<=maxLen)
  (hp:∀ (W:World) (B:Option Addr) (r:List Int) (d:Nat),r∈l->Ext w W->Calls Tryz.prog g (#[.slice B r.length d]++lb) W fun e w'=>e=.returned (.bool (p r.length))/\Ext W w') :
  Calls Tryz.prog 261 #[.slice C l.length c,.func (.func g) #[] lb] w fun e w'=>e=.returned (.int .i64 (Vy (fun r:List Int=>p r.length) 0 l))/\Ext w w':=by
 unfold maxLen at lx;go_enter Tryz.func261,Tryz.ntmps261;go_wp2_with (fail);go_loopw [8] (fun i wr=>∃ j:Nat,i=.int .i64 j/\j<=l.length/\Hid (Vy (fun r:List Int=>p r.length) 0 l=Vy (fun r:List Int=>p r.length) j (l.drop j))/\Ext w wr) (fun i _=>l.length-(intOf i).toNat)
 case atStart=>exact⟨0,rfl,by omega,by exact rfl,Ext.rf _⟩
 case round =>
  obtain⟨j,rfl,hj,HJ,Y⟩:=hrel
  by_cases hlt:j<l.length
  ·obtain⟨b,off,D,row,d,rfl,_,hc1,hx,hd,rr,ir,ld,md⟩:=(hC.ext Y fun _ _ h=>h.ext Y).ints hlt
   have hcall:=hp wr D row d (List.mem_of_getElem? hx.out) Y;clear hp
   cases hq:p row.length with
   | true =>
    rw[hq] at hcall;have HR:Hid (Vy (fun r:List Int=>p r.length) 0 l=j):=by
     have h1:=HJ.out;rw[hd.out,Vy,if_pos hq] at h1;exact h1
    clear hq;go_wp2_with (go_at_fn g;refine hcall.mono ?_;rintro e w' ⟨rfl,x'⟩);go_ret;exact⟨Wu HR.out.symm,Ext.tr Y x'⟩
   | false =>
    rw[hq] at hcall;have HR:Hid (Vy (fun r:List Int=>p r.length) 0 l=Vy (fun r:List Int=>p r.length) (j+1) (l.drop (j+1))):=by
     have h1:=HJ.out;rw[hd.out,Vy,if_neg (by simp[hq])] at h1;exact h1
    clear hq;go_wp2_with (go_at_fn g;refine hcall.mono ?_;rintro e w' ⟨rfl,x'⟩);go_roundw
    case rel=>exact⟨j+1,by go_num,by omega,HR,Ext.tr Y x'⟩
    case measure=>simp[intOf];omega
  ·have hd:=UO (xs:=l) (k:=j) (by omega)
   have HR:Hid (Vy (fun r:List Int=>p r.length) 0 l=-1):=by
    have h1:=HJ.out;rw[hd.out,Vy] at h1;exact h1
   clear hd hp;go_wp2;go_ret;exact⟨Wu HR.out.symm,Y⟩
theorem Zd0 (g:Nat)(lb:Array Value)(p:Nat->Bool)(eg:∀ args w,(callFunc g args).run Tryz.prog w=.ok (.enter g args) w)(C:Option Addr)(c:Nat)(l:List (List Int))(w:World)(hC:RdE 1 RInts w C l)(lx:l.length<=maxLen)
  (hp:∀ (W:World) (B:Option Addr) (r:List Int) (d:Nat),r∈l->Ext w W->Calls Tryz.prog g (#[.slice B r.length d]++lb) W fun e w'=>e=.returned (.bool (p r.length))/\Ext W w') :
  Calls Tryz.prog 197 #[.slice C l.length c,.func (.func g) #[] lb] w fun e w'=>e=.returned (.bool (l.any fun r=>p r.length))/\Ext w w':=by
 have H:=Hd (J9 (fun r:List Int=>p r.length) 0 l);go_enter Tryz.func197,Tryz.ntmps197;go_wp2_with (fail);refine(ZdZ g lb p eg C c l _ hC lx hp).mono ?_;rintro e w' ⟨rfl,x'⟩;clear hp;go_wp2;go_ret;exact⟨Zco H.out,x'⟩
theorem Zd1 (B:Option Addr)(m d:Nat)(g:Nat)(n:Int)(cs:Array Value)(w:World)(hg:Blk w g 74 cs)(hn:cs[1]?=some (.int .i64 n)) :
  Calls Tryz.prog 198 (#[.slice B m d]++#[.pointer (some ⟨g,0,none⟩)]) w fun e w'=>e=.returned (.bool ((m:Int) != n))/\Ext w w':=by
 have c1:w.cell? ⟨g,1,none⟩=some (.int .i64 n):=(hg.cell 1).trans hn;replace hg:=Hd hg;replace hn:=Hd hn;go_enter Tryz.func198,Tryz.ntmps198;go_wp2;go_ret;exact⟨rfl,Ext.rf _⟩
theorem Zaa : ∀ args w,(callFunc 198 args).run Tryz.prog w=.ok (.enter 198 args) w:=enters_of Tryz.func198 (by kernel_rfl) rfl
def VU (i:InstP) : Bool :=
 if i.kind=1 then((i.weight.length:Int)==i.n)&&((i.value.length:Int)==i.n)&&((i.cost.length:Int)==0)
 else(((i.cost.length:Int)==i.n)&&(i.cap==0)&&decide (i.weight.length+i.value.length=0)) && !(i.cost.any fun r=>(r.length:Int) != i.n)
def ZQ (i:InstP) : Int :=
 if Wv i.kind i.n=0 then(if VU i=true then(if i.kind=1 then ZY i.cap i.weight i.value i.weight.length else YR i.kind 0 i.cost) else 8) else Wv i.kind i.n
theorem Zbf (n cap:Int)(A B C:Option Addr)(a b c:Nat)(xs ys:List Int)(l:List (List Int))(w:World) :
  Calls Tryz.prog 126 #[.agg #[.int .i64 1,.int .i64 n,.int .i64 cap,.slice A xs.length a,.slice B ys.length b,.slice C l.length c]] w fun e w'=>e=.returned (.bool (((xs.length:Int)==n)&&((ys.length:Int)==n)&&((l.length:Int)==0)))/\Ext w w':=by
 cases h1:((xs.length:Int)==n)
 ·go_enter Tryz.func126,Tryz.ntmps126
  go_wp2;go_ret;exact⟨rfl,XI⟩
 ·cases h2:((ys.length:Int)==n)
  ·go_enter Tryz.func126,Tryz.ntmps126
   go_wp2;go_ret;exact⟨rfl,XI⟩
  ·cases h3:((l.length:Int)==0)
   ·go_enter Tryz.func126,Tryz.ntmps126
    go_wp2;go_ret;exact⟨rfl,XI⟩
   ·go_enter Tryz.func126,Tryz.ntmps126
    go_wp2;go_ret;exact⟨rfl,XI⟩
theorem Zbg (k n cap:Int)(A B C:Option Addr)(a b c:Nat)(xs ys:List Int)(l:List (List Int))(w:World)(hk:k≠1)(hC:RdE 1 RInts w C l)(lc:l.length<=c)(mc:c<=maxLen)(lx:xs.length<=1000000000)(ly:ys.length<=1000000000) :
  Calls Tryz.prog 126 #[.agg #[.int .i64 k,.int .i64 n,.int .i64 cap,.slice A xs.length a,.slice B ys.length b,.slice C l.length c]] w fun e w'=>e=.returned (.bool ((((l.length:Int)==n)&&(cap==0)&&decide (xs.length+ys.length=0)) && !(l.any fun r=>(r.length:Int) != n)))/\Ext w w':=by
 have B1:Hid (Blk (w.alloc (.cells #[.int .i64 k,.int .i64 n,.int .i64 cap,.slice A xs.length a,.slice B ys.length b,.slice C l.length c] 74)) w.heap.size 74 #[.int .i64 k,.int .i64 n,.int .i64 cap,.slice A xs.length a,.slice B ys.length b,.slice C l.length c]):=.new rfl;have hk':(k==1)=false:=by simpa using hk
 have lm:l.length<=maxLen:=by omega
 replace hC:=Hd hC;replace mc:=Hd mc;replace lm:=Hd lm;clear hk
 cases h1:((l.length:Int)==n)
 ·have h1':((l.length:Int) != n)=true:=by simp only[bne,h1];rfl
  go_enter Tryz.func126,Tryz.ntmps126;go_wp2;go_ret;exact⟨rfl,XI⟩
 ·have h1':((l.length:Int) != n)=false:=by simp only[bne,h1];rfl
  cases h2:(cap==0)
  ·have h2':(cap != 0)=true:=by simp only[bne,h2];rfl
   go_enter Tryz.func126,Tryz.ntmps126;go_wp2;go_ret;exact⟨rfl,XI⟩
  ·have h2':(cap != 0)=false:=by simp only[bne,h2];rfl
   by_cases hs:xs.length+ys.length=0
   ·have hs1:decide (xs.length+ys.length=0)=true:=by simpa using hs
    rw[hs1];have l0:xs.length=0:=by omega
    have l1:ys.length=0:=by omega
    rw[l0,l1] at B1 ⊢;clear hs hs1 l0 l1 lx ly;go_enter Tryz.func126,Tryz.ntmps126;go_wp2_with (fail);refine(Zd0 _ _ (fun m=>(m:Int) != n) Zaa C c l _ (hC.out.ext ((Ext.rf _).alloc _) fun _ _ h=>h.ext ((Ext.rf _).alloc _)) lm.out ?_).mono ?_
    ·intro W D r d _ hx
     exact Zd1 D r.length d w.heap.size n _ W (B1.out.ext hx) rfl
    rintro e w' ⟨rfl,x'⟩;go_wp2;go_ret;exact⟨by simp,Ext.tr (a:=w) XI x'⟩
   ·have hs1:decide (xs.length+ys.length=0)=false:=by simpa using hs
    rw[hs1];have hs2:(0:Int)<(xs.length:Int)+(ys.length:Int):=by omega
    clear hs hs1;go_enter Tryz.func126,Tryz.ntmps126;go_wp2;go_ret;exact⟨rfl,XI⟩
theorem Zbh {k n:Int}(h:Wv k n=0) : k=1\/k=2\/k=3:=by
 unfold Wv at h;split at h
 ·exact .inl ‹_›
 ·split at h
  ·exact .inr (.inl ‹_›)
  ·split at h
   ·exact .inr (.inr ‹_›)
   ·cases h
theorem Wb (i:InstP)(vs:List Value)(w:World)(H:RInst w vs i)(lw:i.weight.length<=1000000000)(lv:i.value.length<=1000000000) :
  Calls Tryz.prog 63 #[.agg (List.toArray vs)] w fun e w'=>e=.returned (.int .i64 (ZQ i))/\Ext w w':=by
 obtain⟨k,n,cap,xs,ys,l⟩:=i;obtain⟨A,a,B,b,C,c,rfl,⟨rA,iA,lA,mA⟩,⟨rB,iB,lB,mB⟩,⟨rC,lC,mC⟩⟩:=H;simp only at *;have B1:Hid (Blk (w.alloc (.cells #[.int .i64 k,.int .i64 n,.int .i64 cap,.slice A xs.length a,.slice B ys.length b,.slice C l.length c] 74)) w.heap.size 74 #[.int .i64 k,.int .i64 n,.int .i64 cap,.slice A xs.length a,.slice B ys.length b,.slice C l.length c]):=.new rfl;replace rA:=Hd rA;replace rB:=Hd rB;replace rC:=Hd rC;replace iA:=Hd iA;replace iB:=Hd iB;replace mA:=Hd mA;replace mB:=Hd mB;replace mC:=Hd mC;have X1:Ext w (w.alloc (.cells #[.int .i64 k,.int .i64 n,.int .i64 cap,.slice A xs.length a,.slice B ys.length b,.slice C l.length c] 74)):=(Ext.rf _).alloc _;replace X1:=Hd X1;go_enter Tryz.func63,Tryz.ntmps63;go_wp2_with (fail);refine(ZcL k n cap _ _ _ _).mono ?_;rintro e w2 ⟨rfl,x2⟩;have X2:=Hd (Ext.tr X1.out x2);have B2:=Hd (B1.out.ext x2);have d0:=B2.out.c0;have d1:=B2.out.c1;have d2:=B2.out.c2;have d3:=B2.out.c3;have d4:=B2.out.c4;have d5:=B2.out.c5
 by_cases hs:Wv k n=0
 ·have hs':(Wv k n != 0)=false:=by simpa using hs
  have qHS:ZQ ⟨k,n,cap,xs,ys,l⟩=(if VU ⟨k,n,cap,xs,ys,l⟩=true then(if k=1 then ZY cap xs ys xs.length else YR k 0 l) else 8):=by
   unfold ZQ;simp only[if_pos hs]
  have HS:=Hd qHS;clear qHS;have kk:=Zbh hs;replace hs:=Hd hs;clear x2
  by_cases k1:k=1
  ·subst k1
   have qHS2:ZQ ⟨1,n,cap,xs,ys,l⟩=(if (((xs.length:Int)==n)&&((ys.length:Int)==n)&&((l.length:Int)==0))=true then ZY cap xs ys xs.length else 8):=by
    have h1:=HS.out;unfold VU at h1
    simpa only [if_true] using h1
   have HS2:=Hd qHS2;clear qHS2;clear HS;go_wp2_with (fail);refine(Zbf n cap A B C a b c xs ys l _).mono ?_;rintro e w3 ⟨rfl,x3⟩;have X3:=Hd (Ext.tr X2.out x3);have B3:=Hd (B2.out.ext x3);have e0:=B3.out.c0;have e1:=B3.out.c1;have e2:=B3.out.c2;have e3:=B3.out.c3;have e4:=B3.out.c4;have e5:=B3.out.c5;clear d0 d1 d2 d3 d4 d5 x3 kk
   cases hh:(((xs.length:Int)==n)&&((ys.length:Int)==n)&&((l.length:Int)==0)) with
   | false =>
    have qHC:ZQ ⟨1,n,cap,xs,ys,l⟩=8:=by
     have h1:=HS2.out;rw[hh,if_neg (by decide)] at h1;exact h1
    have HC:=Hd qHC;clear qHC;clear hh;go_wp2;go_ret;exact⟨Wu HC.out.symm,X3.out⟩
   | true =>
    have qHC:ZQ ⟨1,n,cap,xs,ys,l⟩=ZY cap xs ys xs.length:=by
     have h1:=HS2.out;rw[hh,if_pos rfl] at h1;exact h1
    have HC:=Hd qHC;clear qHC;simp only[Bool.and_eq_true,beq_iff_eq] at hh;obtain⟨⟨rfl,hy⟩,hz⟩:=hh;clear HS2;have hyx:Hid (xs.length=ys.length):=by(have:xs.length=ys.length:=by omega);exact this
    clear hy hz;go_wp2_with (fail);refine(ZcM A B a b 1 cap xs ys _ _ (rA.out.ext X3.out) (rB.out.ext X3.out) lA mA.out lB mB.out hyx.out).mono ?_;rintro e w4 ⟨rfl,x4⟩;go_wp2;go_ret;exact⟨Wu HC.out.symm,Ext.tr X3.out x4⟩
  ·have k1':(k==1)=false:=by simpa using k1
   have qHS2:ZQ ⟨k,n,cap,xs,ys,l⟩=(if ((((l.length:Int)==n)&&(cap==0)&&decide (xs.length+ys.length=0)) && !(l.any fun r=>(r.length:Int) != n))=true then YR k 0 l else 8):=by
    have h1:=HS.out;unfold VU at h1
    simpa only [if_neg k1] using h1
   have HS2:=Hd qHS2;clear qHS2;clear HS;go_wp2_with (fail);refine(Zbg k n cap A B C a b c xs ys l _ k1 (rC.out.ext X2.out fun _ _ h=>h.ext X2.out) lC mC.out lw lv).mono ?_;rintro e w3 ⟨rfl,x3⟩;have X3:=Hd (Ext.tr X2.out x3);have B3:=Hd (B2.out.ext x3);have e0:=B3.out.c0;have e1:=B3.out.c1;have e2:=B3.out.c2;have e3:=B3.out.c3;have e4:=B3.out.c4;have e5:=B3.out.c5;clear d0 d1 d2 d3 d4 d5 x3 kk k1;generalize ((((l.length:Int)==n)&&(cap==0)&&decide (xs.length+ys.length=0)) && !(l.any fun r=>(r.length:Int) != n))=hh at HS2 ⊢
   cases hh with
   | false =>
    have HC:Hid (ZQ ⟨k,n,cap,xs,ys,l⟩=8):=HS2.out;clear HS2;go_wp2;go_ret;exact⟨Wu HC.out.symm,X3.out⟩
   | true =>
    have HC:Hid (ZQ ⟨k,n,cap,xs,ys,l⟩=YR k 0 l):=HS2.out;clear HS2;go_wp2_with (fail);refine(ZdY k n cap _ _ C c l _ (rC.out.ext X3.out fun _ _ h=>h.ext X3.out) lC mC.out).mono ?_;rintro e w4 ⟨rfl,x4⟩;go_wp2;go_ret;exact⟨Wu HC.out.symm,Ext.tr X3.out x4⟩
 ·have hs':(Wv k n != 0)=true:=by simpa using hs
  have qHC:ZQ ⟨k,n,cap,xs,ys,l⟩=Wv k n:=by
   unfold ZQ;simp only[if_neg hs]
  have HC:=Hd qHC;clear qHC;clear hs;go_wp2;go_ret;exact⟨Wu HC.out.symm,X2.out⟩
end
section
open Go.Shelf
def Zab : Go.Shelf.Ren:=⟨fun | 171=>41 | 243=>73 | 246=>140 | 283=>208 | 284=>209 | 285=>210 | 286=>211 | 129=>265 | 317=>264 | 318=>266 | 319=>267 | 320=>268 | 337=>313 | 338=>314 | n=>n,fun | 3=>3 | 9=>9 | 2=>2 | 4=>4 | 171=>319 | 0=>0 | 53=>44 | 37=>64 | 5=>5 | 173=>322 | 212=>360 | 51=>356 | 20=>20 | 213=>361 | 46=>298 | 232=>405 | 233=>406 | n=>n,fun | 17=>3 | 18=>4 | 19=>5 | n=>n⟩
theorem Zfn : LaysM.n171 Tryz.prog Zab where
 mixed:=by kernel_rfl
 f129:=Tryz.func265.trans (congrArg some (by kernel_rfl))
 f171:=Tryz.func41.trans (congrArg some (by kernel_rfl))
 f243:=Tryz.func73.trans (congrArg some (by kernel_rfl))
 f246:=Tryz.func140.trans (congrArg some (by kernel_rfl))
 f283:=Tryz.func208.trans (congrArg some (by kernel_rfl))
 f284:=Tryz.func209.trans (congrArg some (by kernel_rfl))
 f285:=Tryz.func210.trans (congrArg some (by kernel_rfl))
 f286:=Tryz.func211.trans (congrArg some (by kernel_rfl))
 f317:=Tryz.func264.trans (congrArg some (by kernel_rfl))
 f318:=Tryz.func266.trans (congrArg some (by kernel_rfl))
 f319:=Tryz.func267.trans (congrArg some (by kernel_rfl))
 f320:=Tryz.func268.trans (congrArg some (by kernel_rfl))
 f337:=Tryz.func313.trans (congrArg some (by kernel_rfl))
 f338:=Tryz.func314.trans (congrArg some (by kernel_rfl))
 t0:=Tryz.underlying0
 a0:=Tryz.isAgg0
 z0:=Tryz.sizeOf0
 v0:=Tryz.zeroValue0
 t2:=Tryz.underlying2
 a2:=Tryz.isAgg2
 z2:=Tryz.sizeOf2
 v2:=Tryz.zeroValue2
 t3:=Tryz.underlying3
 a3:=Tryz.isAgg3
 z3:=Tryz.sizeOf3
 v3:=Tryz.zeroValue3
 t4:=Tryz.underlying4
 a4:=Tryz.isAgg4
 z4:=Tryz.sizeOf4
 v4:=Tryz.zeroValue4
 t5:=Tryz.underlying5
 a5:=Tryz.isAgg5
 z5:=Tryz.sizeOf5
 v5:=Tryz.zeroValue5
 t9:=Tryz.underlying9
 a9:=Tryz.isAgg9
 z9:=Tryz.sizeOf9
 v9:=Tryz.zeroValue9
 t20:=Tryz.underlying20
 a20:=Tryz.isAgg20
 z20:=Tryz.sizeOf20
 v20:=Tryz.zeroValue20
 t37:=Tryz.underlying64
 a37:=Tryz.isAgg64
 z37:=Tryz.sizeOf64
 v37:=Tryz.zeroValue64
 t46:=Tryz.underlying298
 a46:=Tryz.isAgg298
 z46:=Tryz.sizeOf298
 v46:=Tryz.zeroValue298
 t51:=Tryz.underlying356
 a51:=Tryz.isAgg356
 z51:=Tryz.sizeOf356
 v51:=Tryz.zeroValue356
 t53:=Tryz.underlying44
 a53:=Tryz.isAgg44
 z53:=Tryz.sizeOf44
 v53:=Tryz.zeroValue44
 t171:=Tryz.underlying319
 a171:=Tryz.isAgg319
 z171:=Tryz.sizeOf319
 v171:=Tryz.zeroValue319
 t173:=Tryz.underlying322
 a173:=Tryz.isAgg322
 z173:=Tryz.sizeOf322
 v173:=Tryz.zeroValue322
 t212:=Tryz.underlying360
 a212:=Tryz.isAgg360
 z212:=Tryz.sizeOf360
 v212:=Tryz.zeroValue360
 t213:=Tryz.underlying361
 a213:=Tryz.isAgg361
 z213:=Tryz.sizeOf361
 t232:=Tryz.underlying405
 a232:=Tryz.isAgg405
 z232:=Tryz.sizeOf405
 v232:=Tryz.zeroValue405
 t233:=Tryz.underlying406
 a233:=Tryz.isAgg406
 z233:=Tryz.sizeOf406
 v233:=Tryz.zeroValue406
 g17:=by kernel_rfl
 g18:=by kernel_rfl
 g19:=by kernel_rfl
 i0:=by kernel_rfl
 i2:=by kernel_rfl
 i3:=by kernel_rfl
 i4:=by kernel_rfl
 i5:=by kernel_rfl
 i9:=by kernel_rfl
 i20:=by kernel_rfl
 i37:=by kernel_rfl
 i46:=by kernel_rfl
 i51:=by kernel_rfl
 i53:=by kernel_rfl
 i171:=by kernel_rfl
 i173:=by kernel_rfl
 i212:=by kernel_rfl
 i232:=by kernel_rfl
 i233:=by kernel_rfl
 m17:=by kernel_rfl
 m18:=by kernel_rfl
 m19:=by kernel_rfl
end
section
open Go.Deep
def Ten (w:World) : Prop:=Lib.TabIs Tryz.prog w "internal/strconv.uint64pow10" .u64 Lib.pow10Tab
theorem Ten.ext {w w':World}(h:Ten w)(x:Ext w w') : Ten w':=Lib.tabBelow_of_tabIs h w' x
theorem Zd2 {w0 w:World}(h:Ext w0 w)(os:Array Obj) : Ext w0 (Go.Sort.grow w os) :=
 Below.trans h ⟨rfl,rfl,rfl,by simp[Go.Sort.grow],fun k hk=>by have:=h.size;simp only[Go.Sort.grow];exact Array.getElem?_append_left (by omega)⟩
theorem Zd3 (n:Int)(h0:-9223372036854775808<=n)(h1:n<=9223372036854775807)(w:World)(hT:Ten w) :
  Calls Tryz.prog 41 #[.int .i64 n] w fun e w'=>e=.returned (.string ⟨(Lib.itoa n).toArray⟩)/\Ext w w':=by
 refine(Any.strconv_Itoa Zfn n h0 h1 w hT).mono ?_;rintro e w' ⟨rfl,k,os,rfl⟩;exact⟨rfl,Zd2 ((Ext.rf w).drewN k) os⟩
theorem WV (n:Int)(h0:-9223372036854775808<=n)(h1:n<=9223372036854775807)(w:World)(hT:Ten w) :
  Calls Tryz.prog 22 #[.int .i64 n] w fun e w'=>e=.returned (.string ⟨(Lib.itoa n).toArray⟩)/\Ext w w':=by
 have IT:=Hd (fun(W:World) (x:Ext w W)=>Zd3 n h0 h1 W (hT.ext x));go_enter Tryz.func22,Tryz.ntmps22;go_wp2_with (fail);refine(IT.out _ XI).mono ?_;rintro e w1 ⟨rfl,x1⟩;have X1:=Hd (Ext.tr (a:=w) XI x1);go_wp2_with (fail);go_ret;exact⟨rfl,X1.out⟩
def i64 (n:Int) : Prop:=-9223372036854775808<=n/\n<=9223372036854775807
section
variable {H:Type} {enc:TypeId×Value->H} {W:World}
end
end
section
theorem U6 {c:UInt8} : ∀ (a s:Txt),(∀ b∈a,b≠c)->Zp c (a++c::s)=a::Zp c s
 | [],s,_=>by rw[List.nil_append,Zp,if_pos rfl]
 | b::a,s,h=>by
  rw[List.cons_append,Zp,if_neg (h b (by simp)),U6 a s (fun x hx=>h x (by simp[hx]))]
theorem U7 {c:UInt8} : ∀ (a:Txt),(∀ b∈a,b≠c)->Zp c a=[a]
 | [],_=>rfl
 | b::a,h=>by
  rw[Zp,if_neg (h b (by simp)),U7 a (fun x hx=>h x (by simp[hx]))]
end
section
open Go.Shelf
def Bl (w:World)(base b:Nat)(l:Txt) : Prop:=Lib.IsBuilderF 307 5 base b (Lib.byteCells l) w
structure BK (base b:Nat)(w w':World) : Prop where
 below:Below base w w'
 kept:Lib.OthersKept 5 (some b) w w'
section
variable {base b:Nat} {w w' w2:World} {l:Txt}
theorem Bl.new (w:World) : Bl (w.alloc (.cells #[.pointer none,.slice none 0 0] 307)) w.heap.size w.heap.size []:=Lib.IsBuilderF.of (Lib.fresh_isBuilder 307 5 w)
theorem Bl.keep (h:Bl w base b l)(hk:∀ (k:Nat) (cs:Array Value) (t:TypeId) (fz:Nat×Nat),w.heap[k]?=some (Obj.cells cs t fz)->t=307\/t=5->w'.heap[k]?=w.heap[k]?) : Bl w' base b l:=by
 have at_:∀ p,Lib.BuilderAtF 307 5 base b p (Lib.byteCells l) w->Lib.BuilderAtF 307 5 base b p (Lib.byteCells l) w':=by
  rintro p ⟨hB,v,hb,hown,hne⟩;refine⟨hB,v,(hk b _ _ _ hb (.inl rfl)).trans hb,⟨hown.1,?_⟩,hne⟩;rcases hown.2 with hn | ⟨g,cap,cur,fz,hv,hbg,hg,rest⟩
  ·exact .inl hn
  ·exact .inr ⟨g,cap,cur,fz,hv,hbg,(hk g _ _ _ hg (.inr rfl)).trans hg,rest⟩
 exact Or.elim h (fun x=>.inl (at_ _ x)) (fun x=>.inr (at_ _ x))
theorem Bl.ext (h:Bl w base b l)(x:Ext w w') : Bl w' base b l:=h.keep fun k _ _ _ hk _=>x.block k (Array.getElem?_eq_some_iff.1 hk).1
theorem Bl.modT {base':Nat}{ts:List TypeId}(h:Bl w base b l)(m:ModT base' ts w w')(h1:307∉ts)(h2:5∉ts) : Bl w' base b l:=h.keep fun k cs t fz hk ht=>m.block k (Array.getElem?_eq_some_iff.1 hk).1 (by
 rintro ⟨_,cs',t',h3,h4⟩;rw[hk] at h3
 injection h3 with h3
 injection h3 with _ h3 _
 subst h3;rcases ht with rfl | rfl
 ·exact h1 h4
 ·exact h2 h4)
theorem Bl.le (h:Bl w base b l) : base<=b/\b<w.heap.size:=by
 rcases h with⟨hB,v,hb,_⟩ | ⟨hB,v,hb,_⟩<;>exact⟨hB,(Array.getElem?_eq_some_iff.1 hb).1⟩
theorem Bl.isB (h:Bl w base b l) : ∃ cs,w.heap[b]?=some (Obj.cells cs 307 (0,0)):=by
 rcases h with⟨hB,v,hb,_⟩ | ⟨hB,v,hb,_⟩<;>exact⟨_,hb⟩
theorem BK.tr (h:BK base b w w')(k:BK base b w' w2) : BK base b w w2:=⟨h.below.trans k.below,h.kept.trans k.kept⟩
theorem Ext.bk {w0:World}(h:Ext w0 w)(k:BK base b w w')(hb:w0.heap.size<=base) : Ext w0 w':=Below.trans h (Below.mono k.below hb)
theorem RdV.bk {e:TypeId}{A:Option Addr}{vs:List Value}(h:RdV w e A vs)(k:BK base b w w')(hB:Bl w base b l)(h1:e≠5)(h2:e≠307) : RdV w' e A vs:=by
 rcases h with rfl | ⟨g,off,cur,rfl,hg,hc⟩
 ·exact .inl rfl
 ·refine .inr ⟨g,off,cur,rfl,k.kept g _ hg ?_ ?_,hc⟩
  ·intro e1
   injection e1 with e1
   subst e1;obtain⟨cs,hb⟩:=hB.isB;rw[hb] at hg
   injection hg with hg
   injection hg with _ hg
   exact h2 hg.symm
  ·rintro c fz hh
   injection hh with _ hh
   exact h1 hh
theorem Blk.bk {g:Nat}{e:TypeId}{cs:Array Value}(h:Blk w g e cs)(k:BK base b w w')(hB:Bl w base b l)(h1:e≠5)(h2:e≠307) : Blk w' g e cs:=by
 refine k.kept g _ h ?_ ?_
 ·intro e1
  injection e1 with e1
  subst e1;obtain⟨cs',hb⟩:=hB.isB;have hg:w.heap[g]?=some (.cells cs e (0,0)):=h;rw[hb] at hg
  injection hg with hg
  injection hg with _ hg
  exact h2 hg.symm
 ·rintro c fz hh
  injection hh with _ hh
  exact h1 hh
theorem OwV.bk {base':Nat}{e:TypeId}{size n c:Nat}{A:Option Addr}{vs:List Value}(h:OwV w base' e size A n c vs)(k:BK base b w w')(hB:Bl w base b l)(h1:e≠5)(h2:e≠307) : OwV w' base' e size A n c vs :=
 h.keep fun g hg=>by
  rcases h.cases with⟨rfl,rfl,rfl,rfl⟩ | ⟨g',cur,rfl,hb',hh,_⟩
  ·simp[bl] at hg
  ·simp[bl] at hg
   subst hg;exact(Blk.bk (g:=g') hh k hB h1 h2).trans hh.symm
end
end
section
open Go.Deep
def dgT (u:Nat) : List UInt8:=if u=0 then [] else Lib.decDigits u
theorem Zd4 {u:Nat}(h:u≠0) : dgT u=dgT (u / 10)++[UInt8.ofNat (48+u%10)]:=by
 unfold dgT;rw[if_neg h,Lib.decDigits]
 by_cases h1:u<10
 ·rw[dif_pos h1,if_pos (by omega),Nat.mod_eq_of_lt h1]
  rfl
 ·rw[dif_neg h1,if_neg (by omega)]
theorem U8 (n:Int)(h0:-9223372036854775808<=n)(h1:n<=9223372036854775807)(w:World) :
  Calls Tryz.prog 15 #[.int .i64 n] w fun e w'=>e=.returned (.string ⟨(Lib.itoa n).toArray⟩)/\Ext w w':=by
 by_cases hz:n=0
 ·subst hz
  have e9:Lib.itoa 0=[48]:=by
   unfold Lib.itoa;rw[if_neg (by omega)];rw[Lib.decDigits];simp
  rw[e9];go_enter Tryz.func15,Tryz.ntmps15;go_wp2_with (fail);go_ret;exact⟨rfl,XI⟩
 ·have e1:(n==0)=false:=by simpa using hz
  have INV:∀ (i:Nat) (m:Int) (l:List UInt8),dgT m.natAbs++l=dgT n.natAbs->m.natAbs*10^i<=n.natAbs->(m=0->l=Lib.decDigits n.natAbs)/\(m≠0->i<20):=fun i m l e1 e2=>by
   refine⟨fun hm=>?_,fun hm=>?_⟩
   ·subst hm
    have h2:dgT (0:Int).natAbs=[]:=rfl;rw[h2,List.nil_append] at e1;rw[e1];unfold dgT;rw[if_neg (by omega)]
   ·refine Classical.byContradiction fun hi=>?_
    have h3:10^20<=10^i:=Nat.pow_le_pow_right (by omega) (by omega);have h4:1*10^i<=m.natAbs*10^i:=Nat.mul_le_mul_right _ (by omega);omega
  have HA:Hid (dgT n.natAbs++[]=dgT n.natAbs):=by
   have h:dgT n.natAbs++[]=dgT n.natAbs:=List.append_nil _;exact h
  have HL0:Hid (([]:List UInt8).length=0):=by
   have h:([]:List UInt8).length=0:=rfl;exact h
  have HB:Hid (n.natAbs*10^0<=n.natAbs):=Hd (by omega);replace INV:=Hd INV;go_enter Tryz.func15,Tryz.ntmps15;go_wp2_with (fail);go_loopw [3,4,5] (fun v3 v4 v5 wr=>∃ (l:List UInt8) (m:Int) (i:Nat),v3=.string ⟨l.toArray⟩/\v4=.int .i64 m/\v5=.int .i64 i/\i<=20/\Hid (l.length=i)/\Hid (dgT m.natAbs++l=dgT n.natAbs)/\Hid (m.natAbs*10^i<=n.natAbs)/\Hid (Ext w wr)) (fun _ v4 _ _=>(intOf v4).natAbs)
  case atStart=>exact⟨[],n,0,rfl,rfl,rfl,by omega,HL0,HA.out,HB.out,XI⟩
  case round =>
   obtain⟨wo,rfl⟩:=Wq wr;obtain⟨l,m,i,rfl,rfl,rfl,hi,ll,hl,hb,X⟩:=hrel;obtain⟨I1,I2⟩:=INV.out i m l hl.out hb.out;have lb:¬9223372036854775807<1+l.length:=by have:=ll.out;omega
   by_cases hm:m=0
   ·subst hm
    have hl9:=Hd (I1 rfl);clear I1 I2;have e3:((0:Int) != 0)=false:=by simp
    by_cases hi9:(i:Int)<20
    all_goals
     by_cases hn:n<0
     ·have e9:Hid (Lib.itoa n=45::l):=by
       have h:Lib.itoa n=45::l:=by
        unfold Lib.itoa;rw[if_pos hn,hl9.out]
       exact h
      go_wp2_with (fail);go_ret;rw[e9.out];exact⟨by first | rfl | (congr 2),X.out.tr XI⟩
     ·have e9:Hid (Lib.itoa n=l):=by
       have h:Lib.itoa n=l:=by
        unfold Lib.itoa;rw[if_neg hn,hl9.out,show n.natAbs=n.toNat by omega]
       exact h
      go_wp2_with (fail);go_ret;rw[e9.out];exact⟨rfl,X.out.tr XI⟩
   ·have hi20:=I2 hm
    have q1:(i:Int)<20:=by omega
    have e2:(m != 0)=true:=by simpa using hm
    have hmb:m.natAbs<=n.natAbs:=by
     have h3:m.natAbs*1<=m.natAbs*10^i:=Nat.mul_le_mul_left _ (Nat.pow_pos (by omega));have:=hb.out;omega
    have hd1:(m.tmod 10).natAbs=m.natAbs%10:=by rw[Int.natAbs_tmod];rfl
    have hd2:(m.tdiv 10).natAbs=m.natAbs / 10:=by rw[Int.natAbs_tdiv];rfl
    obtain⟨t,ht⟩:∃ t,m.tmod 10=t:=⟨_,rfl⟩;obtain⟨m2,hm2⟩:∃ m2,m.tdiv 10=m2:=⟨_,rfl⟩;rw[ht] at hd1;rw[hm2] at hd2;have wm:IntKind.i64.wrap m2=m2:=IntWalk.i64_in _ (by omega);obtain⟨d,hd⟩:∃ d,Hid (m.natAbs%10=d):=⟨_,rfl⟩;rw[hd.out] at hd1;have d9:d<=9:=by have:=hd.out;omega
    have w1:IntKind.i64.wrap (48+(d:Int))=48+(d:Int):=IntWalk.i64_in _ (by omega);have NL:Hid (dgT m2.natAbs++(UInt8.ofNat (48+d)::l)=dgT n.natAbs):=Hd (by
     rw[<-hl.out,Zd4 (u:=m.natAbs) (by omega),hd2,hd.out,List.append_assoc]
     rfl)
    have NB:Hid (m2.natAbs*10^(i+1)<=n.natAbs):=Hd (by
     refine Nat.le_trans ?_ hb.out;rw[Nat.pow_succ,hd2,Nat.mul_comm (10^i) 10,<-Nat.mul_assoc];exact Nat.mul_le_mul_right _ (Nat.div_mul_le_self _ _))
    have MS:Hid (m2.natAbs<m.natAbs):=Hd (by omega);clear hl hb I1 I2 hmb;have CV:=run_convert_bytes_arg (P:=Tryz.prog) (wo.alloc (.cells #[.int .u8 (48+(d:Int))] 5)) 64 5 Tryz.underlying64 Tryz.underlying5 wo.heap.size 0 1 1 [48+(d:Int)] rfl (fun i hi=>by
     obtain rfl:i=0:=by omega
     exact(show Blk (wo.alloc (.cells #[.int .u8 (48+(d:Int))] 5)) wo.heap.size 5 #[.int .u8 (48+(d:Int))] from .new rfl).cell 0) 9 Tryz.underlying9
    obtain⟨s0,hs0⟩:∃ s0,Hid (strOfNums [48+(d:Int)]=s0):=⟨_,rfl⟩;rw[hs0.out] at CV;have ls:¬9223372036854775807<s0.size+l.length:=by
     have h:s0.size=1:=by rw[<-hs0.out];rfl
     have:=ll.out;omega
    have LL:Hid ((UInt8.ofNat (48+d)::l).length=i+1):=Hd (by rw[List.length_cons,ll.out]);have ES:Hid (s0++(⟨l.toArray⟩:ByteArray)=⟨(UInt8.ofNat (48+d)::l).toArray⟩):=Hd (by
     rw[<-hs0.out];have e1:(48+(d:Int)).toNat=48+d:=by omega
     simp only[strOfNums,List.map_cons,List.map_nil,e1];apply ByteArray.ext;rw[ByteArray.data_append];simp)
    by_cases hneg:t<0
    ·have w0:IntKind.i64.wrap (0-t)=(d:Int):=by rw[show 0-t=(d:Int) by omega];exact IntWalk.i64_in _ (by omega)
     have w0':IntKind.i64.wrap (-t)=(d:Int):=by rw[show -t=(d:Int) by omega];exact IntWalk.i64_in _ (by omega)
     clear hd1 hd2;go_wp2_with (fail);go_roundw
     case rel=>exact⟨UInt8.ofNat (48+d)::l,m2,i+1,by rw[<-ES.out],rfl,by go_num,by omega,LL,NL,NB,X.out.tr XI⟩
     case measure=>(have h9:=MS.out;simp only[intOf];exact h9)
    ·obtain rfl:t=(d:Int):=by omega
     clear hd1 hd2;go_wp2_with (fail);go_roundw
     case rel=>exact⟨UInt8.ofNat (48+d)::l,m2,i+1,by rw[<-ES.out],rfl,by go_num,by omega,LL,NL,NB,X.out.tr XI⟩
     case measure=>(have h9:=MS.out;simp only[intOf];exact h9)
theorem Zfo (P:Program)(t:TypeId)(a b:Txt)(h:a.length+b.length<=1000000)(u:World) : (binOp .add t (.string ⟨a.toArray⟩) (.string ⟨b.toArray⟩)).run P u=.ok (.string ⟨(a++b).toArray⟩) u:=by
 rw[binOp_string_add,run_string_add_sum _ _ _ (by simp[ByteArray.size];omega)]
 congr 2
theorem Ye {P:Program}{ops:Array Oper}{i:Nat}{T T2 t:TypeId}{x y:Operand}{d:Option Tmp}{A:Act}{w:World}{K:Act->World->Prop}{Q:Exit->Act->World->Prop}(hi:YY ops i=some (none,.binOp .add T x y T2,t,d))(a b:Txt)(hx:A.eval x=.string ⟨a.toArray⟩)(hy:A.eval y=.string ⟨b.toArray⟩)(hl:a.length+b.length<=1000000)(hK:K (A.put d (.string ⟨(a++b).toArray⟩)) w) : wpOp P ops Q i K A w :=
 Zl hi _ (by simp[Zj,execOp,hx,hy,eqGuard,Zfo P T a b hl]) hK
theorem ZL (a b:Txt) : (⟨a.toArray⟩:ByteArray)++⟨b.toArray⟩=⟨(a++b).toArray⟩:=by
 refine ByteArray.ext ?_;simp
def Zac (L:List Txt)(w:World)(e:Ending)(w':World) : Prop:=∃ (A:Option Addr) (d:Nat),e=.returned (.slice A L.length d)/\OwV w' w.heap.size 9 1 A L.length d (txV L)/\Ext w w'
def InvC (c:UInt8)(s:Txt)(i f:Nat)(L:List Txt) : Prop:=(i<=s.length/\f<=i/\(∀ j,f<=j->j<i->s[j]?≠some c)/\Zp c s=L++Zp c (s.drop f))\/(i=s.length+1/\L=Zp c s)
theorem InvC.start (c:UInt8)(s:Txt) : InvC c s 0 0 []:=.inl ⟨by omega,by omega,fun j _ h=>by omega,rfl⟩
theorem Zd5 {c:UInt8}{s:Txt}{f i:Nat}(h:∀ j,f<=j->j<i->s[j]?≠some c) : ∀ b∈(s.drop f).take (i-f),b≠c:=by
 intro b hb e;subst e;obtain⟨k,hk,hk2⟩:=List.mem_iff_getElem.1 hb;have h1:((s.drop f).take (i-f))[k]?=some b:=by rw[List.getElem?_eq_getElem hk,hk2]
 rw[List.getElem?_take] at h1;split at h1
 ·rw[List.getElem?_drop] at h1
  exact h (f+k) (by omega) (by omega) h1
 ·cases h1
theorem InvC.hit {c:UInt8}{s:Txt}{i f:Nat}{L:List Txt}(h:InvC c s i f L)(hi:s[i]?=some c) : InvC c s (i+1) (i+1) (L++[(s.drop f).take (i-f)]):=by
 have hlt:=(List.getElem?_eq_some_iff.1 hi).1;rcases h with⟨h1,h2,h3,h4⟩ | ⟨h1,_⟩
 ·refine .inl ⟨by omega,by omega,fun j a b=>by omega,?_⟩
  have e:s.drop f=(s.drop f).take (i-f)++c::s.drop (i+1):=by
   refine(List.take_append_drop (i-f) (s.drop f)).symm.trans ?_
   congr 1
   rw[List.drop_drop,show f+(i-f)=i by omega,List.drop_eq_getElem_cons hlt]
   congr 1
   exact(List.getElem?_eq_some_iff.1 hi).2
  rw[h4]
  conv=>lhs;rw[e,U6 _ _ (Zd5 h3)]
  simp
 ·omega
theorem InvC.miss {c:UInt8}{s:Txt}{i f:Nat}{L:List Txt}{x:UInt8}(h:InvC c s i f L)(hi:s[i]?=some x)(hx:x≠c) : InvC c s (i+1) f L:=by
 have hlt:=(List.getElem?_eq_some_iff.1 hi).1;rcases h with⟨h1,h2,h3,h4⟩ | ⟨h1,_⟩
 ·refine .inl ⟨by omega,by omega,fun j a b=>?_,h4⟩
  by_cases hj:j<i
  ·exact h3 j a hj
  ·obtain rfl:j=i:=by omega
   rw[hi];intro e
   injection e with e
   exact hx e
 ·omega
theorem InvC.last {c:UInt8}{s:Txt}{f:Nat}{L:List Txt}(h:InvC c s s.length f L) : f<=s.length/\InvC c s (s.length+1) (s.length+1) (L++[(s.drop f).take (s.length-f)]):=by
 rcases h with⟨h1,h2,h3,h4⟩ | ⟨h1,_⟩
 ·refine⟨h2,.inr ⟨rfl,?_⟩⟩
  have hs:=Zd5 h3;have e:(s.drop f).take (s.length-f)=s.drop f:=List.take_of_length_le (by rw[List.length_drop];exact Nat.le_refl _);rw[e] at hs ⊢;rw[h4,U7 _ hs]
 ·omega
theorem InvC.done {c:UInt8}{s:Txt}{f:Nat}{L:List Txt}(h:InvC c s (s.length+1) f L) : L=Zp c s:=by
 rcases h with⟨h1,_⟩ | ⟨_,h⟩
 ·omega
 ·exact h
theorem InvC.le {c:UInt8}{s:Txt}{i f:Nat}{L:List Txt}(h:InvC c s i f L)(hi:i<=s.length) : f<=i:=by
 rcases h with⟨_,h,_⟩ | ⟨h,_⟩<;>omega
theorem Zad (s:Txt)(a b:Nat) : (⟨s.toArray⟩:ByteArray).extract a b=⟨((s.drop a).take (b-a)).toArray⟩:=by
 apply ByteArray.ext;apply Array.ext';rw[Lib.extract_data]
theorem Zd6 (s:Txt)(c:UInt8)(w:World)(hl:s.length<=1000000) :
  Calls Tryz.prog 25 #[.string ⟨s.toArray⟩,.int .u8 c.toNat] w (Zac (Zp c s) w):=by
 obtain⟨i0,hi,hz0,hz1,hz2⟩:=info_parts US;replace hi:=Hd hi;replace hz0:=Hd hz0;replace hz1:=Hd hz1;replace hz2:=Hd hz2;have hsz:(⟨s.toArray⟩:ByteArray).size=s.length:=by simp[Lib.size_eq]
 have EX:=Hd (Zad s);have AT:Hid (∀ (k:Nat) (hk:k<(⟨s.toArray⟩:ByteArray).size),s[k]?=some ((⟨s.toArray⟩:ByteArray)[k]'hk)):=Hd fun k hk=>Wy s k hk
 obtain⟨n,hn⟩:∃ n,s.length=n:=⟨_,rfl⟩;have NH:=Hd hn;rw[hn] at hsz hl;clear hn;generalize hs:(⟨s.toArray⟩:ByteArray)=sb at *;clear hs;have SZ:=Hd hsz;clear hsz;go_enter Tryz.func25,Tryz.ntmps25;go_wp2_with (fail);go_loopw [5,6,7] (fun ov fv iv wr=>∃ (i f:Nat) (B:Option Addr) (d:Nat) (L:List Txt),ov=.slice B L.length d/\fv=.int .i64 f/\iv=.int .i64 i/\i<=n+1/\f<=n+1/\L.length<=i/\Hid (InvC c s i f L)/\Hid (OwV wr w.heap.size 9 1 B L.length d (txV L))/\Hid (Ext w wr)) (fun _ _ iv _=>n+2-(intOf iv).toNat)
 case atStart=>exact⟨0,0,some ⟨w.heap.size,0,none⟩,0,[],rfl,rfl,rfl,by omega,by omega,by simp,Hd (InvC.start c s),Hd (OwV.full (cs:=#[]) (n:=0) (by(first | exact .new (by simp) | exact .drew (.new (by simp)) | exact .alloc (.new (by simp)) _ | exact .drew (.alloc (.new (by simp)) _) | exact .alloc (.alloc (.new (by simp)) _) _ | exact .drew (.alloc (.alloc (.new (by simp)) _) _) | (repeat (first | assumption | (refine Blk.new ?_;(focus (simp;done))) | apply Blk.drew | apply Blk.drewN | apply Blk.alloc)))) (Nat.le_refl _) rfl (by decide)),Hd XI⟩
 case round =>
  obtain⟨i,f,B,d,L,rfl,rfl,rfl,hi1,hf1,hL,IV,HO,Y⟩:=hrel;obtain⟨m,hm⟩:∃ m,L.length=m:=⟨_,rfl⟩;have HM:=Hd hm;rw[hm] at hL HO ⊢;clear hm
  by_cases hin:i<n
  ·have hi2:i<sb.size:=by rw[SZ.out];exact hin
   have hat:=AT.out i hi2;have hfi:=IV.out.le (by rw[NH.out];omega);have hi3:(i:Int)<(sb.size:Int):=by omega
   have hif:(f:Int)<=(i:Int):=by omega
   have hi4:(i:Int)<=(sb.size:Int):=by omega
   have hneq:((i:Int)==(sb.size:Int))=false:=beq_eq_false_iff_ne.2 (by omega)
   by_cases hxc:sb[i]'hi2=c
   ·have hbb:(((sb[i]'hi2).toNat:Int)==(c.toNat:Int))=true:=by rw[hxc];simp
    have IV2:=Hd (IV.out.hit (by rw[hat,hxc]));have EX2:=EX.out f i;clear hxc hat IV EX AT;go_wp2_with (at_builtin;refine Zw _ (e:=9) Tryz.underlying57 hi.out hz0.out hz1.out hz2.out (by simp[Value.cells]) (by omega) rfl _ _ rfl w.heap.size B m d (txV L) _ 1 1 [txS ((s.drop f).take (i-f))] rfl (by first | rfl | (simp;done)) (HO.out.ext XI) (RdV.blk (by(first | exact .new (by simp) | exact .drew (.new (by simp)) | exact .alloc (.new (by simp)) _ | exact .drew (.alloc (.new (by simp)) _) | exact .alloc (.alloc (.new (by simp)) _) _ | exact .drew (.alloc (.alloc (.new (by simp)) _) _) | (repeat (first | assumption | (refine Blk.new ?_;(focus (simp;done))) | apply Blk.drew | apply Blk.drewN | apply Blk.alloc))))).rdC (by rfl) (by simp[Value.oneCell',txS]) (by simp only[maxLen];omega) (by omega) (by have:=Y.out.size;simp;omega) ?_;rintro A6 c6 w6 o6 g6 _);have M6:ModT w.heap.size [9] wr w6:=(ModT.of_ext XI).tr ((HO.out.ext XI).grownT g6);have HM6:Hid ((L++[(s.drop f).take (i-f)]).length=m+1):=Hd (by rw[List.length_append,HM.out];rfl);have O6:Hid (OwV w6 w.heap.size 9 1 A6 (m+1) c6 (txV (L++[(s.drop f).take (i-f)]))):=by rw[UV];exact Hd o6
    have Y6:=Hd (Y.out.modT M6 (Nat.le_refl _));clear M6 o6 g6 HO;go_roundw
    case rel=>exact⟨i+1,i+1,A6,c6,L++[(s.drop f).take (i-f)],by rw[HM6.out],by go_num,by go_num,by omega,by omega,by rw[HM6.out];omega,IV2,by rw[HM6.out];exact O6,Y6⟩
    case measure=>simp[intOf];omega
   ·have hbb:(((sb[i]'hi2).toNat:Int)==(c.toNat:Int))=false:=beq_eq_false_iff_ne.2 fun h=>hxc (UInt8.toNat_inj.1 (by omega))
    have IV2:=Hd (IV.out.miss hat hxc);clear hxc hat IV EX AT;go_wp2_with (fail);go_roundw
    case rel=>exact⟨i+1,f,B,d,L,by rw[HM.out],rfl,by go_num,by omega,by omega,by rw[HM.out];omega,IV2,by rw[HM.out];exact HO,Hd (Y.out.tr XI)⟩
    case measure=>simp[intOf];omega
  ·by_cases hin2:i=n
   ·subst hin2
    have hnn:=NH.out;have IV1:=IV.out;rw[<-hnn] at IV1;obtain⟨hf2,IV3⟩:=IV1.last;rw[hnn] at IV3 hf2;have IV2:=Hd IV3;have hii:i=sb.size:=SZ.out.symm;have hneq:((i:Int)==(sb.size:Int))=true:=beq_iff_eq.2 (by omega);have hi4:(i:Int)<=(sb.size:Int):=by omega
    have hif:(f:Int)<=(i:Int):=by omega
    have EX2:=EX.out f i;clear hnn IV1 IV3 IV EX AT hii;go_wp2_with (at_builtin;refine Zw _ (e:=9) Tryz.underlying57 hi.out hz0.out hz1.out hz2.out (by simp[Value.cells]) (by omega) rfl _ _ rfl w.heap.size B m d (txV L) _ 1 1 [txS ((s.drop f).take (i-f))] rfl (by first | rfl | (simp;done)) (HO.out.ext XI) (RdV.blk (by(first | exact .new (by simp) | exact .drew (.new (by simp)) | exact .alloc (.new (by simp)) _ | exact .drew (.alloc (.new (by simp)) _) | exact .alloc (.alloc (.new (by simp)) _) _ | exact .drew (.alloc (.alloc (.new (by simp)) _) _) | (repeat (first | assumption | (refine Blk.new ?_;(focus (simp;done))) | apply Blk.drew | apply Blk.drewN | apply Blk.alloc))))).rdC (by rfl) (by simp[Value.oneCell',txS]) (by simp only[maxLen];omega) (by omega) (by have:=Y.out.size;simp;omega) ?_;rintro A6 c6 w6 o6 g6 _);have M6:ModT w.heap.size [9] wr w6:=(ModT.of_ext XI).tr ((HO.out.ext XI).grownT g6);have HM6:Hid ((L++[(s.drop f).take (i-f)]).length=m+1):=Hd (by rw[List.length_append,HM.out];rfl);have O6:Hid (OwV w6 w.heap.size 9 1 A6 (m+1) c6 (txV (L++[(s.drop f).take (i-f)]))):=by rw[UV];exact Hd o6
    have Y6:=Hd (Y.out.modT M6 (Nat.le_refl _));clear M6 o6 g6 HO;go_roundw
    case rel=>exact⟨i+1,i+1,A6,c6,L++[(s.drop f).take (i-f)],by rw[HM6.out],by go_num,by go_num,by omega,by omega,by rw[HM6.out];omega,IV2,by rw[HM6.out];exact O6,Y6⟩
    case measure=>simp[intOf]
   ·obtain rfl:i=n+1:=by omega
    have HD:Hid (L=Zp c s):=Hd (by have h:=IV.out;rw[<-NH.out] at h;exact h.done);have hgt:¬(((n+1:Nat):Int)<=(sb.size:Int)):=by have:=SZ.out;omega
    have hgt2:¬(n+1<=sb.size):=by have:=SZ.out;omega
    have hgt3:¬((n:Int)+1<=(sb.size:Int)):=by have:=SZ.out;omega
    clear IV EX AT;go_wp2_with (fail);go_ret;refine⟨B,d,?_,?_,Y.out.tr XI⟩
    ·rw[<-HD.out,HM.out]
     rfl
    ·rw[<-HD.out,HM.out]
     exact HO.out.ext XI
theorem Zbi (x:UInt8)(w:World) :
  Calls Tryz.prog 74 #[.int .u8 x.toNat] w fun e w'=>e=.returned (.bool (isD x))/\Ext w w':=by
 obtain⟨q,hq⟩:∃ q,Hid (isD x=q):=⟨_,rfl⟩;rw[hq.out];unfold isD at hq;generalize x.toNat=n at *
 by_cases h1:48<=n
 ·have i1:(48:Int)<=(n:Int):=by omega
  by_cases h2:n<=57
  ·have i2:(n:Int)<=57:=by omega
   have h:=hq.out;rw[decide_eq_true h1,decide_eq_true h2] at h;simp at h;subst h;clear hq;go_enter Tryz.func74,Tryz.ntmps74;go_wp2_with (fail);go_ret;exact⟨rfl,XI⟩
  ·have i2:¬(n:Int)<=57:=by omega
   have h:=hq.out;rw[decide_eq_false h2] at h;simp at h;subst h;clear hq;go_enter Tryz.func74,Tryz.ntmps74;go_wp2_with (fail);go_ret;exact⟨rfl,XI⟩
 ·have i1:¬(48:Int)<=(n:Int):=by omega
  have h:=hq.out;rw[decide_eq_false h1] at h;simp at h;subst h;clear hq;go_enter Tryz.func74,Tryz.ntmps74;go_wp2_with (fail);go_ret;exact⟨rfl,XI⟩
def Um (c:UInt8) : Int:=YP (c.toNat:Int)
def Zv (s:Txt)(a:Nat) : Int:=match s[a]? with
 | some c=>Um c
 | none=>1
def isL (c:UInt8) : Bool:=decide (Um c=3)
def Ya (s:Txt) : Nat:=(s.takeWhile isL).length
def ZJ (s:Txt)(a:Nat) : Int×Int×Int :=
 ((YB (Yr (s.drop a))).1,if (YB (Yr (s.drop a))).2.2=0 then(a:Int)+(YB (Yr (s.drop a))).2.1 else 0,(YB (Yr (s.drop a))).2.2)
def Zd7 (c:UInt8) : Bool:=decide (c≠10)
def Yg (s:Txt) : Nat:=(s.takeWhile Zd7).length
structure Tok where
 kind:Int
 text:Txt
 num:Int
 at_:Int
def Yo (s:Txt)(a:Nat) : Nat×Int×List Tok :=
 if Zv s a=1 then(a+1,0,[])
 else if Zv s a=4 then(a+Yg (s.drop a),0,[])
 else if Zv s a=3 then
  if 16<Ya (s.drop a) then(a,5,[])
  else(a+Ya (s.drop a),if Zv s (a+Ya (s.drop a))=2 then 2 else 0,[⟨1,(s.drop a).take (Ya (s.drop a)),0,a⟩])
 else if Zv s a=2 then
  if (ZJ s a).2.2≠0 then(a,(ZJ s a).2.2,[])
  else((ZJ s a).2.1.toNat,if Zv s (ZJ s a).2.1.toNat=3 then 2 else 0,[⟨2,[],(ZJ s a).1,a⟩])
 else(a,2,[])
def U9 (s:Txt) : Nat->Nat->List Tok->List Tok×Nat×Int
 | 0,a,l=>(l,a,0)
 | f+1,a,l =>
  if s.length<=a then(l++[⟨3,[],0,s.length⟩],0,0)
  else if (Yo s a).2.1≠0 then([],(Yo s a).1,(Yo s a).2.1)
  else U9 s f (Yo s a).1 (l++(Yo s a).2.2)
def Vi (s:Txt) : List Tok×Nat×Int:=if 65536<s.length then([],0,5) else U9 s (s.length+1) 0 []
theorem Q3 {s:Txt}{a:Nat}(h:a<s.length) : Zv s a=Um s[a]:=by unfold Zv;rw[List.getElem?_eq_getElem h]
theorem WY {p:UInt8->Bool}(s:Txt) : (s.takeWhile p).length<=s.length:=(List.takeWhile_prefix _).length_le
theorem Q5 {p:UInt8->Bool}{s:Txt}{a:Nat}(h:a<s.length)(hp:p s[a]=true) : 0<((s.drop a).takeWhile p).length:=by
 rw[List.drop_eq_getElem_cons h,List.takeWhile_cons_of_pos hp];simp
theorem Q7 {d:Txt}(h:(YB d).2.2=0) : d≠[]/\(YB d).2.1=d.length:=by
 unfold YB at h ⊢;split
 ·rename_i h1;rw[if_pos h1] at h;simp at h
 ·rename_i h1
  rw[if_neg h1] at h;split
  ·rename_i h2;rw[if_pos h2] at h;simp at h
  ·exact⟨fun e=>h1 (.inl e),rfl⟩
theorem Ja {s:Txt}{a:Nat}(h:a<s.length)(he:(Yo s a).2.1=0) : a<(Yo s a).1/\(Yo s a).1<=s.length:=by
 have hk:=Q3 h;unfold Yo at he ⊢;split
 ·exact⟨Nat.lt_succ_self _,h⟩
 rename_i h1;rw[if_neg h1] at he
 split
 ·rename_i h4
  have h5:Zd7 s[a]=true:=by
   unfold Zd7;simp only[decide_eq_true_eq];intro e;rw[hk,e] at h4
   revert h4
   decide
  have:=Q5 h h5;have h6:=WY (p:=Zd7) (s.drop a);rw[List.length_drop] at h6;unfold Yg;simp only;omega
 rename_i h4;rw[if_neg h4] at he
 split
 ·rename_i h3;rw[if_pos h3] at he
  have h5:isL s[a]=true:=by unfold isL;rw[<-hk];simpa using h3
  have:=Q5 h h5;have h6:=WY (p:=isL) (s.drop a);rw[List.length_drop] at h6;split
  ·rename_i h7;rw[if_pos h7] at he;simp at he
  ·unfold Ya
   simp only;omega
 rename_i h3;rw[if_neg h3] at he
 split
 ·rename_i h2;rw[if_pos h2] at he
  split
  ·rename_i h7;rw[if_pos h7] at he;exact absurd he h7
  ·rename_i h7
   have h8:(YB (Yr (s.drop a))).2.2=0:=by simpa [ZJ] using h7
   obtain⟨q1,q2⟩:=Q7 h8;have h9:(ZJ s a).2.1=((a+(Yr (s.drop a)).length:Nat):Int):=by unfold ZJ;simp only;rw[if_pos h8,q2];simp
   have h6:=Vt (s.drop a);rw[List.length_drop] at h6;have h10:=List.length_pos_iff.2 q1;simp only;rw[h9];omega
 ·rename_i h2;rw[if_neg h2] at he;simp at he
def ScanAt (RES:List Tok×Nat×Int)(s:Txt)(a:Nat)(l:List Tok) : Prop:=∃ f,s.length<f+a/\RES=U9 s f a l
theorem ScanAt.start (s:Txt) : ScanAt (U9 s (s.length+1) 0 []) s 0 []:=⟨_,by omega,rfl⟩
theorem ScanAt.fin {RES:List Tok×Nat×Int}{s:Txt}{a:Nat}{l:List Tok}(h:ScanAt RES s a l)(ha:a=s.length) : RES=(l++[⟨3,[],0,s.length⟩],0,0):=by
 obtain⟨f,h1,rfl⟩:=h;obtain⟨f,rfl⟩:∃ k,f=k+1:=⟨f-1,by omega⟩;rw[U9,if_pos (by omega)]
theorem ScanAt.bad {RES:List Tok×Nat×Int}{s:Txt}{a:Nat}{l:List Tok}(h:ScanAt RES s a l)(ha:a<s.length)(he:(Yo s a).2.1≠0) : RES=([],(Yo s a).1,(Yo s a).2.1):=by
 obtain⟨f,h1,rfl⟩:=h;obtain⟨f,rfl⟩:∃ k,f=k+1:=⟨f-1,by omega⟩;rw[U9,if_neg (by omega),if_pos he]
theorem ScanAt.step {RES:List Tok×Nat×Int}{s:Txt}{a:Nat}{l:List Tok}(h:ScanAt RES s a l)(ha:a<s.length)(he:(Yo s a).2.1=0) : ScanAt RES s (Yo s a).1 (l++(Yo s a).2.2):=by
 obtain⟨f,h1,rfl⟩:=h;obtain⟨f,rfl⟩:∃ k,f=k+1:=⟨f-1,by omega⟩;have:=(Ja ha he).1;exact⟨f,by omega,by rw[U9,if_neg (by omega),if_neg (by simp[he])]⟩
theorem Zfp (s:Txt)(a:Nat) : (Yo s a).2.2.length<=1:=by
 unfold Yo
 (repeat' split)<;>simp
end
end Go.Proofs.YtocfmioihaefoaaGreatDoor
