/- parts, packed by a program -/
import Derived.Test.YtabmoalgmdlmnaaGreatDoorRows
import Derived.WalkKit
import Derived.ProofKit
import Derived.OpenShut
import Derived.BigQuiet
import Derived.Deep.QuietTactic
import Derived.Deep.Slices
import Derived.Lib.Hide
import Derived.Lib.SmallJoins
import Derived.Deep.RegionHeld3
import Derived.StillTailTactics
import Derived.Deep.RegionLaw
import Derived.WalkSpells
import Derived.Deep.DeepFit
import Derived.JoinedCond
import Derived.Lib.ItoaNum
import Derived.Lib.Join
import Derived.Lib.OthersKept
import Derived.Shelf.Lays
import Derived.Shelf.Unicode.DecodeAny
import Derived.Shelf.Small.Strs
import Derived.Maps.AppendAt
import Derived.RegionTactic
import Derived.Lib.LaidU8
import Derived.Deep.CutBlock
import Derived.Deep.DeepCutAuto
import Derived.Shelf.LaysM
import Derived.Shelf.Strconv.Itoa3
import Derived.Lib.AppendIntMem
set_option maxRecDepth 100000
set_option maxHeartbeats 16000000
set_option linter.all false
namespace Go.Proofs.YtabmoalgmdlmnaaGreatDoor
open Go.ChangeAt Go.ChangeShapes Go.RowKit Go.WideShapes
section
abbrev Ext (w w':World) : Prop:=Below w.heap.size w w'
theorem Hd {p:Prop}(h:p) : Hid p:=Lib.hid h
theorem Wq (w:World) : ∃ v:World,v=w:=⟨_,rfl⟩
theorem Ext.rf (w:World) : Ext w w:=Below.refl _ _
theorem Ext.tr {a b c:World}(h:Ext a b)(k:Ext b c) : Ext a c:=Below.trans h (Below.mono k h.size)
theorem Ext.drewN {a b:World}(h:Ext a b)(n:Nat) : Ext a (b.drewN n):=⟨h.os,h.tape,h.output,h.size,h.block⟩
theorem Ext.drew {a b:World}(h:Ext a b) : Ext a b.drew:=Below.drew h
theorem Ext.alloc {a b:World}(h:Ext a b)(o:Obj) : Ext a (b.alloc o):=Below.alloc h h.size o
instance extRf (a:World) : Nonempty (Ext a a):=⟨Ext.rf a⟩
instance extDrew (a b:World)[h:Nonempty (Ext a b)] : Nonempty (Ext a b.drew):=⟨Ext.drew (h.elim id)⟩
instance extDrewN (a b:World)(n:Nat)[h:Nonempty (Ext a b)] : Nonempty (Ext a (b.drewN n)):=⟨Ext.drewN (h.elim id) n⟩
instance extAlloc (a b:World)(o:Obj)[h:Nonempty (Ext a b)] : Nonempty (Ext a (b.alloc o)):=⟨Ext.alloc (h.elim id) o⟩
theorem XI {a b:World}[h:Nonempty (Ext a b)] : Ext a b:=h.elim id
theorem Ext.setNew {a b:World}(h:Ext a b){p:Addr}(hp:a.heap.size<=p.block)(u:Value) : Ext a (b.setCell p u):=Below.setCell h hp u
theorem Ext.cells {W w1:World}(hb:Ext W w1) : (∀ b o,b<W.heap.size->w1.cell? ⟨b,o,none⟩=W.cell? ⟨b,o,none⟩)/\(∀ b o,b<W.heap.size->w1.frozen? ⟨b,o,none⟩=W.frozen? ⟨b,o,none⟩) :=
 ⟨fun b o h=>hb.cell (p:=⟨b,o,none⟩) h,fun b o h=>hb.frozen (p:=⟨b,o,none⟩) h⟩
def RdI (w:World)(A:Option Addr)(xs:List Int) : Prop :=
 xs=[]\/∃ b off,A=some ⟨b,off,none⟩/\b<w.heap.size/\∀ j x,xs[j]?=some x->w.cell? ⟨b,off+j,none⟩=some (.int .i64 x)
theorem RdI.at {w:World}{A:Option Addr}{xs:List Int}(h:RdI w A xs){k:Nat}(hk:k<xs.length) :
  ∃ b off x,A=some ⟨b,off,none⟩/\b<w.heap.size/\w.cell? ⟨b,off+k,none⟩=some (.int .i64 x)/\Hid (xs[k]?=some x)/\Hid (xs.drop k=x::xs.drop (k+1)):=by
 rcases h with rfl | ⟨b,off,rfl,hb,hc⟩
 ·simp at hk
 ·have e:xs[k]?=some xs[k]:=List.getElem?_eq_getElem hk
  exact⟨b,off,xs[k],rfl,hb,hc k _ e,e,List.drop_eq_getElem_cons hk⟩
theorem RdI.ext {w w':World}{A:Option Addr}{xs:List Int}(h:RdI w A xs)(hb:Ext w w') : RdI w' A xs:=by
 rcases h with rfl | ⟨b,off,rfl,hb',hc⟩
 ·exact .inl rfl
 ·exact .inr ⟨b,off,rfl,by have:=hb.size;omega,fun j x hj=>by rw[hb.cell hb'];exact hc j x hj⟩
theorem RdI.take {w:World}{A:Option Addr}{xs:List Int}(h:RdI w A xs)(n:Nat) : RdI w A (xs.take n):=by
 rcases h with rfl | ⟨b,off,rfl,hb',hc⟩
 ·exact .inl (by simp)
 ·exact .inr ⟨b,off,rfl,hb',fun j x hj=>hc j x (by rw[List.getElem?_take] at hj;split at hj<;>simp_all)⟩
def Blk (w:World)(g:Nat)(t:TypeId)(cs:Array Value) : Prop:=w.heap[g]?=some (.cells cs t (0,0))
section
variable {w w':World} {g:Nat} {t:TypeId} {cs:Array Value}
theorem Blk.lt (h:Blk w g t cs) : g<w.heap.size:=(Array.getElem?_eq_some_iff.1 h).1
theorem Blk.cell (h:Blk w g t cs)(i:Nat) : w.cell? ⟨g,i,none⟩=cs[i]?:=cell_of_row w g i cs t (0,0) h
theorem Blk.c0 {w:World}{g:Nat}{t:TypeId}{v0:Value}{r:List Value}(h:Blk w g t (List.toArray (v0::r))) : w.cell? ⟨g,0,none⟩=some v0:=h.cell 0
theorem Blk.c1 {w:World}{g:Nat}{t:TypeId}{v0 v1:Value}{r:List Value}(h:Blk w g t (List.toArray (v0::v1::r))) : w.cell? ⟨g,1,none⟩=some v1:=h.cell 1
theorem Blk.c2 {w:World}{g:Nat}{t:TypeId}{v0 v1 v2:Value}{r:List Value}(h:Blk w g t (List.toArray (v0::v1::v2::r))) : w.cell? ⟨g,2,none⟩=some v2:=h.cell 2
theorem Blk.c3 {w:World}{g:Nat}{t:TypeId}{v0 v1 v2 v3:Value}{r:List Value}(h:Blk w g t (List.toArray (v0::v1::v2::v3::r))) : w.cell? ⟨g,3,none⟩=some v3:=h.cell 3
theorem Blk.c4 {w:World}{g:Nat}{t:TypeId}{v0 v1 v2 v3 v4:Value}{r:List Value}(h:Blk w g t (List.toArray (v0::v1::v2::v3::v4::r))) : w.cell? ⟨g,4,none⟩=some v4:=h.cell 4
theorem Blk.c5 {w:World}{g:Nat}{t:TypeId}{v0 v1 v2 v3 v4 v5:Value}{r:List Value}(h:Blk w g t (List.toArray (v0::v1::v2::v3::v4::v5::r))) : w.cell? ⟨g,5,none⟩=some v5:=h.cell 5
theorem Blk.c6 {w:World}{g:Nat}{t:TypeId}{v0 v1 v2 v3 v4 v5 v6:Value}{r:List Value}(h:Blk w g t (List.toArray (v0::v1::v2::v3::v4::v5::v6::r))) : w.cell? ⟨g,6,none⟩=some v6:=h.cell 6
theorem Blk.c7 {w:World}{g:Nat}{t:TypeId}{v0 v1 v2 v3 v4 v5 v6 v7:Value}{r:List Value}(h:Blk w g t (List.toArray (v0::v1::v2::v3::v4::v5::v6::v7::r))) : w.cell? ⟨g,7,none⟩=some v7:=h.cell 7
theorem Blk.c8 {w:World}{g:Nat}{t:TypeId}{v0 v1 v2 v3 v4 v5 v6 v7 v8:Value}{r:List Value}(h:Blk w g t (List.toArray (v0::v1::v2::v3::v4::v5::v6::v7::v8::r))) : w.cell? ⟨g,8,none⟩=some v8:=h.cell 8
theorem Blk.c9 {w:World}{g:Nat}{t:TypeId}{v0 v1 v2 v3 v4 v5 v6 v7 v8 v9:Value}{r:List Value}(h:Blk w g t (List.toArray (v0::v1::v2::v3::v4::v5::v6::v7::v8::v9::r))) : w.cell? ⟨g,9,none⟩=some v9:=h.cell 9
theorem Blk.c10 {w:World}{g:Nat}{t:TypeId}{v0 v1 v2 v3 v4 v5 v6 v7 v8 v9 v10:Value}{r:List Value}(h:Blk w g t (List.toArray (v0::v1::v2::v3::v4::v5::v6::v7::v8::v9::v10::r))) : w.cell? ⟨g,10,none⟩=some v10:=h.cell 10
theorem Blk.c11 {w:World}{g:Nat}{t:TypeId}{v0 v1 v2 v3 v4 v5 v6 v7 v8 v9 v10 v11:Value}{r:List Value}(h:Blk w g t (List.toArray (v0::v1::v2::v3::v4::v5::v6::v7::v8::v9::v10::v11::r))) : w.cell? ⟨g,11,none⟩=some v11:=h.cell 11
theorem Blk.free (h:Blk w g t cs)(i:Nat) : w.frozen? ⟨g,i,none⟩=false:=by
 unfold Blk at h;simp[World.frozen?,h]
theorem Blk.new (h:g=w.heap.size) : Blk (w.alloc (.cells cs t)) g t cs:=by subst h;exact heap_alloc_new w _
theorem Blk.drew (h:Blk w g t cs) : Blk w.drew g t cs:=h
theorem Blk.drewN (h:Blk w g t cs)(n:Nat) : Blk (w.drewN n) g t cs:=h
theorem Blk.alloc (h:Blk w g t cs)(o:Obj) : Blk (w.alloc o) g t cs:=(Below.heap_alloc w o g h.lt).trans h
theorem Blk.set (h:Blk w g t cs)(i:Nat)(u:Value) : Blk (w.setCell ⟨g,i,none⟩ u) g t (cs.setIfInBounds i u):=by
 unfold Blk at h ⊢;simp[World.setCell,Array.getElem?_modify,h]
theorem Blk.far (h:Blk w g t cs){p:Addr}(hp:g≠p.block)(u:Value) : Blk (w.setCell p u) g t cs:=(Below.heap_setCell w p u g hp).trans h
theorem Blk.ext (h:Blk w g t cs)(hb:Ext w w') : Blk w' g t cs:=(hb.block g h.lt).trans h
theorem Blk.below {B:Nat}(h:Blk w g t cs)(hb:Below B w w')(hg:g<B) : Blk w' g t cs:=(hb.block g hg).trans h
theorem Blk.ne {g':Nat}{t':TypeId}{cs':Array Value}(h:Blk w g t cs)(h':Blk w g' t' cs')(hne:t≠t') : g≠g':=by
 rintro rfl;unfold Blk at h h';rw[h] at h'
 injection h' with h'
 injection h' with _ ht
 exact hne ht
theorem Blk.same {cs':Array Value}{t':TypeId}(h:Blk w g t cs)(h':Blk w g t' cs') : cs=cs':=by
 unfold Blk at h h';rw[h] at h'
 injection h' with h'
 injection h' with hc
end
theorem RdI.blk {w:World}{b:Nat}{cs:Array Value}{t:TypeId}{xs:List Int}(h:Blk w b t cs)(hx:cs.toList=xs.map (Value.int .i64)) : RdI w (some ⟨b,0,none⟩) xs:=by
 refine .inr ⟨_,_,rfl,h.lt,fun j x hj=>?_⟩;rw[h.cell];have:cs.toList[0+j]?=some (.int .i64 x):=by rw[hx];simp[hj]
 simpa using this
def Ints (xs:List Int) : Prop:=∀ x∈xs,-9223372036854775808<=x/\x<=9223372036854775807
theorem Z2 : 0<=maxLen:=by simp only[maxLen];omega
theorem Ints.nil : Ints []:=fun x hx=>absurd hx List.not_mem_nil
theorem Ints.take {xs:List Int}(h:Ints xs)(n:Nat) : Ints (xs.take n):=fun x hx=>h x (List.mem_of_mem_take hx)
theorem getD_some {α:Type}{xs:List α}{k:Nat}{x d:α}(h:xs[k]?=some x) : xs.getD k d=x:=by simp[List.getD,h]
theorem own : ownKnob Tryz.prog.godebug=none:=by kernel_rfl
theorem Xp : laidOutB Tryz.prog=true:=by kernel_rfl
theorem Xz : Tryz.prog.underlying 4=some .bool:=Tryz.underlying4
theorem Yt {ts:List TypeId}(h:ts.all (fun t=>Tryz.prog.readableRec t&&decide (t<Tryz.prog.types.size))=true) : ∀ t∈ts,Tryz.prog.readableRec t=true/\t<Tryz.prog.types.size:=fun t ht=>by
 have:=List.all_eq_true.1 h t ht
 simpa using this
section
variable {H:Type} {enc:TypeId×Value->H}
theorem ZU {W W':World}(hb:Ext W W') : ∀ {ts:List TypeId} {vs:List Value} {ds:List (DataW H)} {p:List MemPlace},(∀ t∈ts,Tryz.prog.readableRec t=true/\t<Tryz.prog.types.size) ->
  DataW.TrodAll enc Tryz.prog W 0 (fun _=>true) true ts vs ds p->(∀ x∈p,x.block<W.heap.size)->DataW.TrodAll enc Tryz.prog W' 0 (fun b=>decide (b<W.heap.size)) true ts vs ds p
 | [],[],[],_,_,h,_=>by simpa [DataW.TrodAll] using h
 | t::ts,v::vs,d::ds,_,hr,h,hlt=>by
  obtain⟨p,q,h0,h1,rfl⟩:=h;exact⟨p,q,Below.trod Xp (hr t (by simp)).1 (hr t (by simp)).2 h0 hb (fun x hx=>hlt x (by simp[hx])),ZU hb (fun t ht=>hr t (by simp[ht])) h1 (fun x hx=>hlt x (by simp[hx])),rfl⟩
 | [],_::_,_,_,_,h,_=>by simp[DataW.TrodAll] at h
 | [],[],_::_,_,_,h,_=>by simp[DataW.TrodAll] at h
 | _::_,[],_,_,_,h,_=>by simp[DataW.TrodAll] at h
 | _::_,_::_,[],_,_,h,_=>by simp[DataW.TrodAll] at h
theorem Y6 {f:Func}{s:ChangeSpec}{W W':World}{args:Array Value}{ds gs:List (DataW H)}{before:List MemPlace}
  (hW:DataW.Whole enc Tryz.prog f.params.toList s.vars false W args.toList ds gs before) (hvars:s.vars=[]) (hr:f.resultTypes=#[4])
  (hs:(s.fn H (ds++gs)).results=[.lit (.bool true)]) (ha:(s.fn H (ds++gs)).args=ds) (hv:(s.fn H (ds++gs)).vars=[])
  (hp:∀ t∈f.params.toList,Tryz.prog.readableRec t=true/\t<Tryz.prog.types.size) (hb:Ext W W') :
  s.post enc Tryz.prog f false true false false W args (.bool true) W':=by
 have hW':=hW;obtain⟨p,q,hA,hV,rfl,hz,hn⟩:=hW;rw[hvars] at hV;obtain⟨rfl,rfl⟩:=trodVars_none hV;have hlt:∀ x∈p,x.block<W.heap.size:=fun x hx=>by simpa using hW'.lt x (by simp[hx])
 refine⟨ds,[],p++[],[],p,[],hW',?_,?_,?_,hb.frame _,fun h=>by cases h⟩
 ·rw[hs,hr]
  exact trodAll_cons_mk (shut_bool Xz _) trodAll_mk0
 ·rw[ha]
  exact ZU hb hp hA hlt
 ·rw[hv,hvars]
  simp[DataW.TrodVars]
end
end
section
open Go.Deep
abbrev Txt := List UInt8
def isD (b:UInt8) : Bool:=decide (48<=b.toNat)&&decide (b.toNat<=57)
def Zq (s:Txt) : Txt:=s.takeWhile isD
def ZF (s:Txt) : Int:=s.foldl (fun n b=>n*10+((b.toNat:Int)-48)) 0
def Zw (d:Txt) : Int×Int×Int :=
 if d=[]\/(1<d.length/\d.head?=some 48) then(0,0,4)
 else if 18<d.length then(0,0,5)
 else(ZF d,d.length,0)
def Zo (r:Int) : Int :=
 if r=32\/r=9\/r=10\/r=13 then 1 else if 48<=r/\r<=57 then 2
 else if (65<=r/\r<=90)\/(97<=r/\r<=122) then 3 else if r=35 then 4 else 0
theorem YU (b:UInt8) : (Zo (b.toNat:Int)=2)↔isD b=true:=by
 unfold Zo isD;simp only[Bool.and_eq_true,decide_eq_true_eq]
 constructor
 ·intro h
  split at h
  ·omega
  split at h
  ·omega
  split at h
  ·omega
  split at h<;>omega
 ·intro h
  rw[if_neg (by omega),if_pos (by omega)]
theorem Z3 (s:Txt) : (Zq s).length<=s.length:=(List.takeWhile_prefix _).length_le
theorem Y7 {s:Txt}(h:∀ b∈s,isD b=true) : Zq s=s:=by
 unfold Zq
 induction s with
 | nil=>rfl
 | cons b s ih=>rw[List.takeWhile_cons,h b (by simp)];simp[ih fun c hc=>h c (by simp[hc])]
theorem YV {s:Txt}{k:Nat}{b:UInt8}(h:∀ j,j<k->∀ c,s[j]?=some c->isD c=true)(hb:s[k]?=some b)(hn:isD b=false) : (Zq s).length=k/\Zq s=s.take k:=by
 induction s generalizing k with
 | nil=>simp at hb
 | cons a s ih =>
  cases k with
  | zero =>
   simp at hb;subst hb;simp[Zq,hn]
  | succ k =>
   have ha:=h 0 (by omega) a (by simp);obtain⟨h1,h2⟩:=ih (k:=k) (fun j hj c hc=>h (j+1) (by omega) c (by simpa using hc)) (by simpa using hb);unfold Zq at h1 h2 ⊢;rw[List.takeWhile_cons,ha];have hk:=(List.getElem?_eq_some_iff.1 (show s[k]?=some b by simpa using hb)).1;simp[h1,h2];omega
theorem Y8 (s:Txt) : ∀ b∈Zq s,isD b=true:=by
 unfold Zq
 induction s with
 | nil=>intro b hb;simp at hb
 | cons a s ih =>
  intro b hb;rw[List.takeWhile_cons] at hb
  cases ha:isD a with
  | false=>rw[ha] at hb;simp at hb
  | true =>
   rw[ha] at hb;rcases List.mem_cons.1 hb with rfl | h
   ·exact ha
   ·exact ih b h
theorem YE (b:UInt8)(r:Txt) : Zw (b::r)=if 0<r.length/\b=48 then(0,0,4) else if 17<r.length then(0,0,5) else(ZF (b::r),((r.length+1:Nat):Int),0):=by
 unfold Zw
 by_cases h:0<r.length/\b=48
 ·rw[if_pos h,if_pos (.inr ⟨by simpa using h.1,by simp[h.2]⟩)]
 ·rw[if_neg h,if_neg (by
   rintro (e | ⟨h1,h2⟩)
   ·cases e
   ·exact h ⟨by simpa using h1,by simpa using h2⟩)]
  by_cases h3:17<r.length
  ·rw[if_pos h3,if_pos (by rw[List.length_cons];omega)]
  ·rw[if_neg h3,if_neg (by rw[List.length_cons];omega)]
   rfl
theorem YW (s:Txt) : s.take (Zq s).length=Zq s:=by
 unfold Zq;exact(List.prefix_iff_eq_take.1 (List.takeWhile_prefix _)).symm
theorem ZI (s:Txt)(b:UInt8) : ZF (s++[b])=ZF s*10+((b.toNat:Int)-48):=by unfold ZF;rw[List.foldl_append];rfl
theorem YF (s:Txt)(h:∀ b∈s,isD b=true) : 0<=ZF s/\ZF s<10^s.length:=by
 have key:∀ (l:Txt) (n:Int),(∀ b∈l,isD b=true)->0<=n->0<=l.foldl (fun n b=>n*10+((b.toNat:Int)-48)) n/\l.foldl (fun n b=>n*10+((b.toNat:Int)-48)) n<(n+1)*10^l.length:=by
  intro l
  induction l with
  | nil=>intro n _ hn;simp;omega
  | cons b l ih =>
   intro n hb hn;have h1:=hb b (by simp);unfold isD at h1;simp only[Bool.and_eq_true,decide_eq_true_eq] at h1;obtain⟨h2,h3⟩:=ih (n*10+((b.toNat:Int)-48)) (fun c hc=>hb c (by simp[hc])) (by omega);refine⟨h2,Int.lt_of_lt_of_le h3 ?_⟩;have hp:(0:Int)<=10^l.length:=Int.pow_nonneg (by decide);have:(n*10+((b.toNat:Int)-48)+1)<=(n+1)*10:=by omega
   calc (n*10+((b.toNat:Int)-48)+1)*10^l.length<=((n+1)*10)*10^l.length:=Int.mul_le_mul_of_nonneg_right this hp
    _=(n+1)*10^(l.length+1):=by rw[Int.pow_succ,Int.mul_assoc,Int.mul_comm 10]
 have:=key s 0 h (Int.le_refl _)
 simpa [ZF] using this
def ZK (c:UInt8) : Int:=Zo (c.toNat:Int)
def Zc (s:Txt)(a:Nat) : Int:=match s[a]? with
 | some c=>ZK c
 | none=>1
def isL (c:UInt8) : Bool:=decide (ZK c=3)
def Ze (s:Txt) : Nat:=(s.takeWhile isL).length
def Zf (s:Txt)(a:Nat) : Int×Int×Int :=
 ((Zw (Zq (s.drop a))).1,if (Zw (Zq (s.drop a))).2.2=0 then(a:Int)+(Zw (Zq (s.drop a))).2.1 else 0,(Zw (Zq (s.drop a))).2.2)
def Y9 (c:UInt8) : Bool:=decide (c≠10)
def Zk (s:Txt) : Nat:=(s.takeWhile Y9).length
structure Tok where
 kind:Int
 text:Txt
 num:Int
 at_:Int
def Zj (s:Txt)(a:Nat) : Nat×Int×List Tok :=
 if Zc s a=1 then(a+1,0,[])
 else if Zc s a=4 then(a+Zk (s.drop a),0,[])
 else if Zc s a=3 then
  if 16<Ze (s.drop a) then(a,5,[])
  else(a+Ze (s.drop a),if Zc s (a+Ze (s.drop a))=2 then 2 else 0,[⟨1,(s.drop a).take (Ze (s.drop a)),0,a⟩])
 else if Zc s a=2 then
  if (Zf s a).2.2≠0 then(a,(Zf s a).2.2,[])
  else((Zf s a).2.1.toNat,if Zc s (Zf s a).2.1.toNat=3 then 2 else 0,[⟨2,[],(Zf s a).1,a⟩])
 else(a,2,[])
def Zx (s:Txt) : Nat->Nat->List Tok->List Tok×Nat×Int
 | 0,a,l=>(l,a,0)
 | f+1,a,l =>
  if s.length<=a then(l++[⟨3,[],0,s.length⟩],0,0)
  else if (Zj s a).2.1≠0 then([],(Zj s a).1,(Zj s a).2.1)
  else Zx s f (Zj s a).1 (l++(Zj s a).2.2)
def Zn (s:Txt) : List Tok×Nat×Int:=if 65536<s.length then([],0,5) else Zx s (s.length+1) 0 []
theorem Yj {s:Txt}{a:Nat}(h:a<s.length) : Zc s a=ZK s[a]:=by unfold Zc;rw[List.getElem?_eq_getElem h]
theorem ZJ {p:UInt8->Bool}(s:Txt) : (s.takeWhile p).length<=s.length:=(List.takeWhile_prefix _).length_le
theorem Yk {p:UInt8->Bool}{s:Txt}{a:Nat}(h:a<s.length)(hp:p s[a]=true) : 0<((s.drop a).takeWhile p).length:=by
 rw[List.drop_eq_getElem_cons h,List.takeWhile_cons_of_pos hp];simp
theorem Yl {d:Txt}(h:(Zw d).2.2=0) : d≠[]/\(Zw d).2.1=d.length:=by
 unfold Zw at h ⊢;split
 ·rename_i h1;rw[if_pos h1] at h;simp at h
 ·rename_i h1
  rw[if_neg h1] at h;split
  ·rename_i h2;rw[if_pos h2] at h;simp at h
  ·exact⟨fun e=>h1 (.inl e),rfl⟩
theorem ZS {s:Txt}{a:Nat}(h:a<s.length)(he:(Zj s a).2.1=0) : a<(Zj s a).1/\(Zj s a).1<=s.length:=by
 have hk:=Yj h;unfold Zj at he ⊢;split
 ·exact⟨Nat.lt_succ_self _,h⟩
 rename_i h1;rw[if_neg h1] at he
 split
 ·rename_i h4
  have h5:Y9 s[a]=true:=by
   unfold Y9;simp only[decide_eq_true_eq];intro e;rw[hk,e] at h4
   revert h4
   decide
  have:=Yk h h5;have h6:=ZJ (p:=Y9) (s.drop a);rw[List.length_drop] at h6;unfold Zk;simp only;omega
 rename_i h4;rw[if_neg h4] at he
 split
 ·rename_i h3;rw[if_pos h3] at he
  have h5:isL s[a]=true:=by unfold isL;rw[<-hk];simpa using h3
  have:=Yk h h5;have h6:=ZJ (p:=isL) (s.drop a);rw[List.length_drop] at h6;split
  ·rename_i h7;rw[if_pos h7] at he;simp at he
  ·unfold Ze
   simp only;omega
 rename_i h3;rw[if_neg h3] at he
 split
 ·rename_i h2;rw[if_pos h2] at he
  split
  ·rename_i h7;rw[if_pos h7] at he;exact absurd he h7
  ·rename_i h7
   have h8:(Zw (Zq (s.drop a))).2.2=0:=by simpa [Zf] using h7
   obtain⟨q1,q2⟩:=Yl h8;have h9:(Zf s a).2.1=((a+(Zq (s.drop a)).length:Nat):Int):=by unfold Zf;simp only;rw[if_pos h8,q2];simp
   have h6:=Z3 (s.drop a);rw[List.length_drop] at h6;have h10:=List.length_pos_iff.2 q1;simp only;rw[h9];omega
 ·rename_i h2;rw[if_neg h2] at he;simp at he
def ScanAt (RES:List Tok×Nat×Int)(s:Txt)(a:Nat)(l:List Tok) : Prop:=∃ f,s.length<f+a/\RES=Zx s f a l
theorem ScanAt.start (s:Txt) : ScanAt (Zx s (s.length+1) 0 []) s 0 []:=⟨_,by omega,rfl⟩
theorem ScanAt.fin {RES:List Tok×Nat×Int}{s:Txt}{a:Nat}{l:List Tok}(h:ScanAt RES s a l)(ha:a=s.length) : RES=(l++[⟨3,[],0,s.length⟩],0,0):=by
 obtain⟨f,h1,rfl⟩:=h;obtain⟨f,rfl⟩:∃ k,f=k+1:=⟨f-1,by omega⟩;rw[Zx,if_pos (by omega)]
theorem ScanAt.bad {RES:List Tok×Nat×Int}{s:Txt}{a:Nat}{l:List Tok}(h:ScanAt RES s a l)(ha:a<s.length)(he:(Zj s a).2.1≠0) : RES=([],(Zj s a).1,(Zj s a).2.1):=by
 obtain⟨f,h1,rfl⟩:=h;obtain⟨f,rfl⟩:∃ k,f=k+1:=⟨f-1,by omega⟩;rw[Zx,if_neg (by omega),if_pos he]
theorem ScanAt.step {RES:List Tok×Nat×Int}{s:Txt}{a:Nat}{l:List Tok}(h:ScanAt RES s a l)(ha:a<s.length)(he:(Zj s a).2.1=0) : ScanAt RES s (Zj s a).1 (l++(Zj s a).2.2):=by
 obtain⟨f,h1,rfl⟩:=h;obtain⟨f,rfl⟩:∃ k,f=k+1:=⟨f-1,by omega⟩;have:=(ZS ha he).1;exact⟨f,by omega,by rw[Zx,if_neg (by omega),if_neg (by simp[he])]⟩
theorem Xq (s:Txt)(a:Nat) : (Zj s a).2.2.length<=1:=by
 unfold Zj
 (repeat' split)<;>simp
theorem Z4 (s:Txt)(t:Tok) : ∀ (f a:Nat) (l:List Tok),s.length<f+a->(Zx s f a (t::l)).2.2=0->(Zx s f a (t::l)).1.head?=some t
 | 0,_,_,_,_=>rfl
 | f+1,a,l,hf,h=>by
  rw[Zx] at h ⊢
  by_cases h1:s.length<=a
  ·rw[if_pos h1];rfl
  ·rw[if_neg h1] at h ⊢
   by_cases h2:(Zj s a).2.1=0
   ·rw[if_neg (by simp[h2])] at h ⊢
    have:=(ZS (by omega) h2).1;exact Z4 s t f _ _ (by omega) h
   ·rw[if_pos h2] at h
    exact absurd h h2
abbrev Zg : Txt:=[87,82,79,78,71]
theorem YX (s:Txt) : Zj (Zg++32::s) 0=(5,0,[⟨1,Zg,0,0⟩]):=by
 have h3:Zc (Zg++32::s) 0=3:=by unfold Zc;show ZK 87=3;decide
 have hl:Ze ((Zg++32::s).drop 0)=5:=by
  unfold Ze;rw[List.drop_zero];have h:∀ c∈Zg,isL c=true:=by decide
  rw[List.takeWhile_append_of_pos h,List.takeWhile_cons_of_neg (by decide)]
  rfl
 have h5:Zc (Zg++32::s) (0+5)=1:=by unfold Zc;show ZK 32=1;decide
 unfold Zj;rw[h3,hl,h5];simp
theorem Z5 (s:Txt) : ((Zn (Zg++32::s)).2.2=0->(Zn (Zg++32::s)).1.head?=some ⟨1,Zg,0,0⟩):=by
 unfold Zn;split
 ·intro h;simp at h
 ·rw[Zx,if_neg (by simp),YX,if_neg (by simp)]
  intro h;exact Z4 _ _ _ _ _ (by simp) h
def Zp (s:ByteArray)(a:Int) : Nat->Nat->Int->Int->Int×Int
 | 0,_,l,c=>(l,c)
 | f+1,p,l,c =>
  if s.size<=p\/a<=p then(l,c)
  else if (Utf8.decode s p).1=10 then Zp s a f (p+(Utf8.decode s p).2) (l+1) 1
  else Zp s a f (p+(Utf8.decode s p).2) l (c+1)
def Zt (s:Txt)(a:Int) : Int×Int:=Zp ⟨s.toArray⟩ a (s.length+1) 0 1 1
def PlaceAt (RES:Int×Int)(s:ByteArray)(a:Int)(p:Nat)(l c:Int) : Prop:=∃ f,s.size<f+p/\RES=Zp s a f p l c
theorem PlaceAt.fin {RES:Int×Int}{s:ByteArray}{a:Int}{p:Nat}{l c:Int}(h:PlaceAt RES s a p l c)(he:s.size<=p\/a<=p) : RES=(l,c):=by
 obtain⟨f,h1,rfl⟩:=h
 cases f with
 | zero=>rfl
 | succ f=>rw[Zp,if_pos he]
theorem PlaceAt.br {RES:Int×Int}{s:ByteArray}{a:Int}{p:Nat}{l c:Int}(h:PlaceAt RES s a p l c)(h1:p<s.size)(h2:(p:Int)<a)(hw:1<=(Utf8.decode s p).2)(hr:(Utf8.decode s p).1=10) : PlaceAt RES s a (p+(Utf8.decode s p).2) (l+1) 1:=by
 obtain⟨f,h3,rfl⟩:=h;obtain⟨f,rfl⟩:∃ k,f=k+1:=⟨f-1,by omega⟩;exact⟨f,by omega,by rw[Zp,if_neg (by omega),if_pos hr]⟩
theorem PlaceAt.sign {RES:Int×Int}{s:ByteArray}{a:Int}{p:Nat}{l c:Int}(h:PlaceAt RES s a p l c)(h1:p<s.size)(h2:(p:Int)<a)(hw:1<=(Utf8.decode s p).2)(hr:(Utf8.decode s p).1≠10) : PlaceAt RES s a (p+(Utf8.decode s p).2) l (c+1):=by
 obtain⟨f,h3,rfl⟩:=h;obtain⟨f,rfl⟩:∃ k,f=k+1:=⟨f-1,by omega⟩;exact⟨f,by omega,by rw[Zp,if_neg (by omega),if_neg hr]⟩
open Go.Deep Go.Lib
theorem Zy {a w:World}(h:Ext a w){k:Nat}(hk:a.heap.size<=k)(s:ByteArray)(pos:Nat) : Ext a (w.iterAt k s pos):=Lib.below_iterAt h hk s pos
theorem Z6 (s:Txt)(k:Nat)(hk:k<(⟨s.toArray⟩:ByteArray).size) : s[k]?=some ((⟨s.toArray⟩:ByteArray)[k]'hk):=by
 have h2:k<s.length:=by simpa [Lib.size_eq] using hk
 rw[List.getElem?_eq_getElem h2];simp[ByteArray.getElem_eq_getElem_data]
end
section
open Go.Shelf
def Z7 : Go.Shelf.Ren:=⟨fun | 197=>179 | 260=>239 | n=>n,fun | 9=>9 | 21=>21 | 3=>3 | 4=>4 | 5=>5 | 105=>290 | 119=>368 | 0=>0 | 46=>268 | 139=>371 | 138=>370 | n=>n,fun | 3=>2 | 4=>3 | n=>n⟩
theorem Xa : Lays.n197 Tryz.prog Z7 where
 mixed:=by kernel_rfl
 f197:=Tryz.func179.trans (congrArg some (by kernel_rfl))
 f260:=Tryz.func239.trans (congrArg some (by kernel_rfl))
 t0:=Tryz.underlying0
 a0:=Tryz.isAgg0
 z0:=Tryz.sizeOf0
 v0:=Tryz.zeroValue0
 t3:=Tryz.underlying3
 a3:=Tryz.isAgg3
 z3:=Tryz.sizeOf3
 v3:=Tryz.zeroValue3
 t4:=Tryz.underlying4
 a4:=Tryz.isAgg4
 z4:=Tryz.sizeOf4
 v4:=Tryz.zeroValue4
 t5:=Tryz.underlying5
 a5:=Tryz.isAgg5
 z5:=Tryz.sizeOf5
 v5:=Tryz.zeroValue5
 t9:=Tryz.underlying9
 a9:=Tryz.isAgg9
 z9:=Tryz.sizeOf9
 v9:=Tryz.zeroValue9
 t21:=Tryz.underlying21
 a21:=Tryz.isAgg21
 z21:=Tryz.sizeOf21
 v21:=Tryz.zeroValue21
 t46:=Tryz.underlying268
 a46:=Tryz.isAgg268
 z46:=Tryz.sizeOf268
 v46:=Tryz.zeroValue268
 t105:=Tryz.underlying290
 a105:=Tryz.isAgg290
 z105:=Tryz.sizeOf290
 v105:=Tryz.zeroValue290
 t119:=Tryz.underlying368
 a119:=Tryz.isAgg368
 z119:=Tryz.sizeOf368
 t138:=Tryz.underlying370
 a138:=Tryz.isAgg370
 z138:=Tryz.sizeOf370
 v138:=Tryz.zeroValue370
 t139:=Tryz.underlying371
 a139:=Tryz.isAgg371
 z139:=Tryz.sizeOf371
 v139:=Tryz.zeroValue371
 g3:=by kernel_rfl
 g4:=by kernel_rfl
def YG : Go.Shelf.Ren:=⟨fun | 137=>181 | 217=>240 | 266=>294 | n=>n,fun | 9=>9 | 5=>5 | 3=>3 | n=>n,fun n=>n⟩
theorem XA : Lays.n137 Tryz.prog YG where
 mixed:=by kernel_rfl
 f137:=Tryz.func181.trans (congrArg some (by kernel_rfl))
 f217:=Tryz.func240.trans (congrArg some (by kernel_rfl))
 f266:=Tryz.func294.trans (congrArg some (by kernel_rfl))
 t3:=Tryz.underlying3
 a3:=Tryz.isAgg3
 z3:=Tryz.sizeOf3
 v3:=Tryz.zeroValue3
 t5:=Tryz.underlying5
 a5:=Tryz.isAgg5
 z5:=Tryz.sizeOf5
 v5:=Tryz.zeroValue5
 t9:=Tryz.underlying9
 a9:=Tryz.isAgg9
 z9:=Tryz.sizeOf9
 v9:=Tryz.zeroValue9
end
section
def bl (A:Option Addr) : Option Nat:=A.map (·.block)
theorem ZV (A:Option Addr)(n c:Nat) : (Value.slice A n c).ownBlock=bl A:=by cases A<;>rfl
section
variable {w w':World} {base:Nat} {A:Option Addr} {c:Nat} {xs:List Int}
end
theorem Ext.grow {a w w':World}{row:Option Nat}(h:Ext a w)(hg:w.grownBy w' row)(hr:∀ k,row=some k->a.heap.size<=k) : Ext a w':=Below.grown h hg h.size hr
structure Mod (S:Nat->Prop)(w w':World) : Prop where
 os:w'.os=w.os
 tape:w'.tape=w.tape
 output:w'.output=w.output
 size:w.heap.size<=w'.heap.size
 block:∀ k,k<w.heap.size->¬S k->w'.heap[k]?=w.heap[k]?
theorem Mod.of_ext {S:Nat->Prop}{w w':World}(h:Ext w w') : Mod S w w':=⟨h.os,h.tape,h.output,h.size,fun k hk _=>h.block k hk⟩
theorem Mod.rf {S:Nat->Prop}(w:World) : Mod S w w:=⟨rfl,rfl,rfl,Nat.le_refl _,fun _ _ _=>rfl⟩
theorem Mod.tr {S:Nat->Prop}{a b c:World}(h:Mod S a b)(k:Mod S b c) : Mod S a c :=
 ⟨k.os.trans h.os,k.tape.trans h.tape,k.output.trans h.output,Nat.le_trans h.size k.size,fun i hi hs=>(k.block i (Nat.lt_of_lt_of_le hi h.size) hs).trans (h.block i hi hs)⟩
theorem Mod.tr' {S S':Nat->Prop}{a b c:World}(h:Mod S a b)(k:Mod S' b c)(hS:∀ i,i<a.heap.size->S' i->S i) : Mod S a c :=
 ⟨k.os.trans h.os,k.tape.trans h.tape,k.output.trans h.output,Nat.le_trans h.size k.size,fun i hi hs=>(k.block i (Nat.lt_of_lt_of_le hi h.size) (fun h'=>hs (hS i hi h'))).trans (h.block i hi hs)⟩
theorem Mod.mono {S S':Nat->Prop}{a b:World}(h:Mod S a b)(hS:∀ i,i<a.heap.size->S i->S' i) : Mod S' a b :=
 ⟨h.os,h.tape,h.output,h.size,fun i hi hs=>h.block i hi (fun h'=>hs (hS i hi h'))⟩
theorem Mod.drewN {S:Nat->Prop}{a b:World}(h:Mod S a b)(n:Nat) : Mod S a (b.drewN n):=⟨h.os,h.tape,h.output,h.size,h.block⟩
theorem Mod.drew {S:Nat->Prop}{a b:World}(h:Mod S a b) : Mod S a b.drew:=⟨h.os,h.tape,h.output,h.size,h.block⟩
theorem Mod.alloc {S:Nat->Prop}{a b:World}(h:Mod S a b)(o:Obj) : Mod S a (b.alloc o):=h.tr (Mod.of_ext ((Ext.rf b).alloc o))
theorem Mod.set {S:Nat->Prop}{a b:World}(h:Mod S a b){p:Addr}(hp:S p.block\/a.heap.size<=p.block)(u:Value) : Mod S a (b.setCell p u) :=
 ⟨h.os,h.tape,h.output,by simpa [World.setCell] using h.size,fun i hi hs=>(Below.heap_setCell b p u i (by
  rintro rfl;rcases hp with hp | hp
  ·exact hs hp
  ·omega)).trans (h.block i hi hs)⟩
theorem Mod.below {S:Nat->Prop}{w w':World}(h:Mod S w w'){B:Nat}(hB:B<=w.heap.size)(hS:∀ k,k<B->¬S k) : Below B w w':=⟨h.os,h.tape,h.output,h.size,fun k hk=>h.block k (by omega) (hS k hk)⟩
theorem Ext.mod {S:Nat->Prop}{a w w':World}(h:Ext a w)(hm:Mod S w w')(hS:∀ k,k<a.heap.size->¬S k) : Ext a w':=Below.trans h (hm.below h.size hS)
theorem Mod.ext {S:Nat->Prop}{a w w':World}(h:Mod S a w)(hm:Ext w w') : Mod S a w':=h.tr (Mod.of_ext hm)
theorem Mod.grown {w w':World}{row:Option Nat}{S:Nat->Prop}(h:w.grownBy w' row)(hS:∀ g,row=some g->S g) : Mod S w w' :=
 ⟨h.os,h.tape,h.output,h.size,fun k hk hs=>h.block k hk (fun e=>hs (hS k e.symm))⟩
theorem Blk.mod {S:Nat->Prop}{w w':World}{g:Nat}{t:TypeId}{cs:Array Value}(h:Blk w g t cs)(hm:Mod S w w')(hg:¬S g) : Blk w' g t cs:=(hm.block g h.lt hg).trans h
section
variable (w:World)
end
theorem Blk.grown {w w':World}{g:Nat}{t:TypeId}{cs:Array Value}{row:Option Nat}(h:Blk w g t cs)(hb:w.grownBy w' row)(hg:row≠some g) : Blk w' g t cs:=(hb.block g h.lt (fun e=>hg e.symm)).trans h
section
variable (w:World)
end
end
section
def RdV (w:World)(e:TypeId)(A:Option Addr)(vs:List Value) : Prop :=
 vs=[]\/∃ b off cur,A=some ⟨b,off,none⟩/\w.heap[b]?=some (.cells cur e (0,0))/\∀ j v,vs[j]?=some v->cur[off+j]?=some v
def RdC (w:World)(A:Option Addr)(vs:List Value) : Prop :=
 vs=[]\/∃ b off,A=some ⟨b,off,none⟩/\b<w.heap.size/\∀ j v,vs[j]?=some v->w.cell? ⟨b,off+j,none⟩=some v
section
variable {w w':World} {e:TypeId} {A:Option Addr} {vs:List Value}
theorem RdV.nil (w:World)(e:TypeId)(A:Option Addr) : RdV w e A []:=.inl rfl
theorem RdV.rdC (h:RdV w e A vs) : RdC w A vs:=by
 rcases h with rfl | ⟨b,off,cur,rfl,hb,hc⟩
 ·exact .inl rfl
 ·exact .inr ⟨b,off,rfl,(Array.getElem?_eq_some_iff.1 hb).1,fun j v hj=>by rw[cell_of_row w b _ cur e (0,0) hb];exact hc j v hj⟩
theorem RdC.ext (h:RdC w A vs)(hb:Ext w w') : RdC w' A vs:=by
 rcases h with rfl | ⟨b,off,rfl,hlt,hc⟩
 ·exact .inl rfl
 ·exact .inr ⟨b,off,rfl,Nat.lt_of_lt_of_le hlt hb.size,fun j v hj=>by rw[hb.cell hlt];exact hc j v hj⟩
theorem RdV.keep (h:RdV w e A vs)(hb:∀ b,bl A=some b->w'.heap[b]?=w.heap[b]?) : RdV w' e A vs:=by
 rcases h with rfl | ⟨b,off,cur,rfl,hh,hc⟩
 ·exact .inl rfl
 ·exact .inr ⟨b,off,cur,rfl,(hb b rfl).trans hh,hc⟩
theorem RdV.lt (h:RdV w e A vs)(hne:vs≠[]) : ∀ b,bl A=some b->b<w.heap.size:=by
 intro b hb;rcases h with rfl | ⟨b',off,cur,rfl,hh,hc⟩
 ·exact absurd rfl hne
 ·simp[bl] at hb
  subst hb;exact(Array.getElem?_eq_some_iff.1 hh).1
theorem RdV.ext (h:RdV w e A vs)(hx:Ext w w') : RdV w' e A vs:=by
 rcases h with rfl | ⟨b,off,cur,rfl,hh,hc⟩
 ·exact .inl rfl
 ·exact .inr ⟨b,off,cur,rfl,(hx.block b (Array.getElem?_eq_some_iff.1 hh).1).trans hh,hc⟩
theorem RdV.mod {S:Nat->Prop}(h:RdV w e A vs)(hm:Mod S w w')(hS:∀ k cur,w.heap[k]?=some (.cells cur e (0,0))->¬S k) : RdV w' e A vs:=by
 rcases h with rfl | ⟨b,off,cur,rfl,hh,hc⟩
 ·exact .inl rfl
 ·exact .inr ⟨b,off,cur,rfl,(hm.block b (Array.getElem?_eq_some_iff.1 hh).1 (hS b cur hh)).trans hh,hc⟩
theorem RdV.blk {b:Nat}{cs:Array Value}(h:Blk w b e cs) : RdV w e (some ⟨b,0,none⟩) cs.toList :=
 .inr ⟨b,0,cs,rfl,h,fun j v hj=>by simpa using hj⟩
theorem RdV.at (h:RdV w e A vs){j:Nat}(hj:j<vs.length) : ∃ b off v,A=some ⟨b,off,none⟩/\b<w.heap.size/\w.cell? ⟨b,off+j,none⟩=some v/\Hid (vs[j]?=some v):=by
 rcases h.rdC with rfl | ⟨b,off,rfl,hlt,hc⟩
 ·simp at hj
 ·exact⟨b,off,vs[j],rfl,hlt,hc j _ (List.getElem?_eq_getElem hj),List.getElem?_eq_getElem hj⟩
theorem RdV.form (h:RdV w e A vs)(hne:vs≠[]) : ∃ b off,A=some ⟨b,off,none⟩/\b<w.heap.size/\∀ j v,vs[j]?=some v->w.cell? ⟨b,off+j,none⟩=some v:=by
 rcases h.rdC with rfl | ⟨b,off,rfl,hlt,hc⟩
 ·exact absurd rfl hne
 ·exact⟨b,off,rfl,hlt,hc⟩
theorem RdV.drop (h:RdV w e A vs)(k:Nat) : RdV w e (A.map (·.add k)) (vs.drop k):=by
 rcases h with rfl | ⟨b,off,cur,rfl,hh,hc⟩
 ·exact .inl (by simp)
 ·refine .inr ⟨b,off+k,cur,by simp[add_plain],hh,fun j v hj=>?_⟩
  rw[List.getElem?_drop] at hj;rw[Nat.add_assoc];exact hc _ v hj
theorem RdV.take (h:RdV w e A vs)(k:Nat) : RdV w e A (vs.take k):=by
 rcases h with rfl | ⟨b,off,cur,rfl,hh,hc⟩
 ·exact .inl (by simp)
 ·refine .inr ⟨b,off,cur,rfl,hh,fun j v hj=>?_⟩
  rw[List.getElem?_take] at hj;split at hj
  ·exact hc j v hj
  ·cases hj
end
def OwV (w:World)(base:Nat)(e:TypeId)(size:Nat)(A:Option Addr)(n c:Nat)(vs:List Value) : Prop:=w.ownsRow base e size (.slice A n c) n vs
section
variable {w w':World} {base:Nat} {e:TypeId} {size:Nat} {A:Option Addr} {n c:Nat} {vs:List Value}
theorem OwV.nil (w:World)(base:Nat)(e:TypeId)(size:Nat) : OwV w base e size none 0 0 []:=World.ownsRow_nil _ _ _ _
theorem OwV.cases (h:OwV w base e size A n c vs) : (A=none/\c=0/\n=0/\vs=[])\/∃ g cur,A=some ⟨g,0,none⟩/\base<=g/\w.heap[g]?=some (.cells cur e (0,0))/\n<=c/\c<=maxLen/\cur.size=c*size/\cur.toList.take (n*size)=vs:=by
 rcases h.2 with⟨hv,h0⟩ | ⟨g,cap,cur,hv,hb,hg,hn,hm,hs,ht⟩
 ·injection hv with h1 _ h3
  have:=h.1;rw[h0,Nat.zero_mul] at this;exact .inl ⟨h1,h3,h0,List.eq_nil_of_length_eq_zero this⟩
 ·injection hv with h1 _ h3
  subst h1 h3;exact .inr ⟨g,cur,rfl,hb,hg,hn,hm,hs,ht⟩
theorem OwV.mk {g:Nat}{cur:Array Value}(hb:base<=g)(hg:w.heap[g]?=some (.cells cur e (0,0)))(hn:n<=c)(hm:c<=maxLen)(hs:cur.size=c*size)(ht:cur.toList.take (n*size)=vs) : OwV w base e size (some ⟨g,0,none⟩) n c vs :=
 ⟨by rw[<-ht,List.length_take,Array.length_toList,hs];exact Nat.min_eq_left (Nat.mul_le_mul_right _ hn),.inr ⟨g,c,cur,rfl,hb,hg,hn,hm,hs,ht⟩⟩
theorem OwV.le (h:OwV w base e size A n c vs) : n<=c/\c<=maxLen:=by
 rcases h.cases with⟨rfl,rfl,rfl,rfl⟩ | ⟨g,cur,rfl,hb,hg,hn,hm,_⟩
 ·exact⟨Nat.le_refl _,Z2⟩
 ·exact⟨hn,hm⟩
theorem OwV.read (h:OwV w base e size A n c vs) : RdV w e A vs:=by
 rcases h.cases with⟨rfl,rfl,rfl,rfl⟩ | ⟨g,cur,rfl,hb,hg,hn,hm,hs,ht⟩
 ·exact .inl rfl
 ·refine .inr ⟨g,0,cur,rfl,hg,fun j v hj=>?_⟩
  rw[<-ht,List.getElem?_take] at hj;split at hj
  ·simpa using hj
  ·cases hj
theorem OwV.keep (h:OwV w base e size A n c vs)(hb:∀ g,bl A=some g->w'.heap[g]?=w.heap[g]?) : OwV w' base e size A n c vs:=by
 rcases h.cases with⟨rfl,rfl,rfl,rfl⟩ | ⟨g,cur,rfl,hb',hg,hn,hm,hs,ht⟩
 ·exact OwV.nil _ _ _ _
 ·exact .mk hb' ((hb g rfl).trans hg) hn hm hs ht
theorem OwV.lt (h:OwV w base e size A n c vs) : ∀ k,bl A=some k->base<=k/\k<w.heap.size:=by
 intro k hk;rcases h.cases with⟨rfl,rfl,rfl,rfl⟩ | ⟨g,cur,rfl,hb',hg,_⟩
 ·simp[bl] at hk
 ·simp[bl] at hk
  subst hk;exact⟨hb',(Array.getElem?_eq_some_iff.1 hg).1⟩
theorem OwV.ext (h:OwV w base e size A n c vs)(hb:Ext w w') : OwV w' base e size A n c vs:=h.keep fun g hg=>hb.block g (h.lt g hg).2
theorem OwV.more {base':Nat}(h:OwV w base e size A n c vs)(hb:base'<=base) : OwV w base' e size A n c vs:=by
 rcases h.cases with⟨rfl,rfl,rfl,rfl⟩ | ⟨g,cur,rfl,hb',hg,hn,hm,hs,ht⟩
 ·exact OwV.nil _ _ _ _
 ·exact .mk (Nat.le_trans hb hb') hg hn hm hs ht
theorem OwV.mod {S:Nat->Prop}(h:OwV w base e size A n c vs)(hm:Mod S w w')(hg:∀ g,bl A=some g->¬S g) : OwV w' base e size A n c vs :=
 h.keep fun g hA=>hm.block g (h.lt g hA).2 (hg g hA)
theorem OwV.ne {g:Nat}{t:TypeId}{cs:Array Value}(h:OwV w base e size A n c vs)(hg:Blk w g t cs)(ht:t≠e) : ∀ k,bl A=some k->¬k=g:=by
 rintro k hk rfl;rcases h.cases with⟨rfl,rfl,rfl,rfl⟩ | ⟨g',cur,rfl,hb',hh,_⟩
 ·simp[bl] at hk
 ·simp[bl] at hk
  subst hk;exact Blk.ne (show Blk w g' _ _ from hh) hg (Ne.symm ht) rfl
theorem OwV.set {g:Nat}(h:OwV w base e size (some ⟨g,0,none⟩) n c vs){j:Nat}(hj:j<vs.length)(u:Value) :
  w.cell? ⟨g,j,none⟩=vs[j]?/\w.frozen? ⟨g,j,none⟩=false/\base<=g/\OwV (w.setCell ⟨g,j,none⟩ u) base e size (some ⟨g,0,none⟩) n c (vs.set j u):=by
 rcases h.cases with⟨h0,_⟩ | ⟨g',cur,hA,hb,hg,hn,hm,hs,ht⟩
 ·cases h0
 ·injection hA with hA
  injection hA with hA
  subst hA;refine⟨?_,by simp[World.frozen?,hg],hb,.mk (cur:=cur.setIfInBounds j u) hb ?_ hn hm (by simpa using hs) ?_⟩
  ·rw[cell_of_row w g _ cur _ (0,0) hg,<-ht,List.getElem?_take,if_pos]
   ·simp
   ·rw[<-ht,List.length_take] at hj
    omega
  ·simp[World.setCell,Array.getElem?_modify,hg]
  ·simp only[Array.toList_setIfInBounds,<-ht]
   rw[List.take_set]
end
section
variable (w:World) {t e:TypeId} {i:TypeInfo} {z:Value} {size bytes:Nat} (ht:Tryz.prog.underlying t=some (.slice e)) (hi:Tryz.prog.info? e=some i) (hz:i.zero=some z) (hsize:i.size=size) (hby:i.bytes=bytes) (hzs:z.cells.size=size) (hsz:0<size)
include ht hi hz hsize hby hzs hsz
theorem Ym (base:Nat)(ty:TypeId)(A:Option Addr)(n cA:Nat)(xs:List Value)(B:Option Addr)(m c:Nat)(ys:List Value)(hown:OwV w base e size A n cA xs)(hr:RdC w B ys)(hm:ys.length=m*size)(h1:∀ u∈ys,u.oneCell'=true)
  (h63:n+m<=maxLen) (hbytes:(n+m)*bytes<=140737488355328) (hbase:base<=w.heap.size) :
  ∃ A' c' w',(Builtin.append_ #[t,t] ty #[.slice A n cA,.slice B m c]).run Tryz.prog w=.ok (.slice A' (n+m) c') w'/\OwV w' base e size A' (n+m) c' (xs++ys)/\w.grownBy w' (bl A)/\(bl A'=bl A\/bl A'=some w.heap.size):=by
 rcases B with _ | ad
 ·have hy:ys=[]:=by
   rcases hr with h | ⟨b,off,h,_⟩
   ·exact h
   ·cases h
  subst hy;have hm0:m=0:=by
   simp only[List.length_nil] at hm;rcases Nat.eq_zero_or_pos m with h | h
   ·exact h
   ·have:=Nat.mul_pos h hsz;omega
  subst hm0;refine⟨A,cA,w,?_,by simpa using hown,⟨rfl,rfl,rfl,Nat.le_refl _,fun _ _ _=>rfl⟩,.inl rfl⟩;have hle:=hown.le.1;simp[Builtin.append_,run_underlying ht,sizeOf,typeInfo,hi,Builtin.lenOf,Builtin.firstCells,hle]
  cases A<;>simp[storeCells]
 ·have hnews:∀ j u,ys[j]?=some u->w.cell? (ad.add j)=some u:=by
   intro j u hu;rcases hr with rfl | ⟨b,off,h,_,hc⟩
   ·simp at hu
   ·injection h with h
    subst h;rw[add_plain];exact hc j u hu
  obtain⟨v',w',hrun,h2,h3,_,h5⟩:=run_append_own_at (P:=Tryz.prog) w base t ty e i z size bytes ht hi hz hsize hby hzs hsz _ n _ hown ad m c ys hm hnews h1 h63 hbytes hbase;rw[ZV] at h3 h5;have hv:∃ A' c',v'=.slice A' (n+m) c':=by
   rcases h2.2 with⟨rfl,h0⟩ | ⟨g,cap,cur,rfl,_⟩
   ·exact⟨none,0,by rw[h0]⟩
   ·exact⟨some ⟨g,0,none⟩,cap,rfl⟩
  obtain⟨A',c',rfl⟩:=hv;rw[ZV] at h5;exact⟨A',c',w',hrun,h2,h3,h5⟩
theorem YY {ops:Array Oper}{rest:List Oper}{o:Oper}{a:Act}{Q:Exit->Act->World->Prop}(hgd:o.guard=none)(s x:Operand)
  (ho:o.op=.call { callee:=.builtin .append,args:=#[s,x],argTypes:=#[t,t] })
  (base:Nat) (A:Option Addr) (n cA:Nat) (xs:List Value) (B:Option Addr) (m c:Nat) (ys:List Value) (hs:a.eval s=.slice A n cA) (hx:a.eval x=.slice B m c) (hown:OwV w base e size A n cA xs) (hr:RdC w B ys) (hm:ys.length=m*size) (h1:∀ u∈ys,u.oneCell'=true)
  (h63:n+m<=maxLen) (hbytes:(n+m)*bytes<=140737488355328) (hbase:base<=w.heap.size)
  (h:∀ A' c' w',OwV w' base e size A' (n+m) c' (xs++ys)->w.grownBy w' (bl A)->(bl A'=bl A\/bl A'=some w.heap.size)->wpList Tryz.prog ops Q rest (a.put o.dst (.slice A' (n+m) c')) w'):wpList Tryz.prog ops Q (o::rest) a w :=
 wpList_plain hgd fun _ hK=>by
  obtain⟨A',c',w',hrun,h2,h3,h4⟩:=Ym w ht hi hz hsize hby hzs hsz base o.type A n cA xs B m c ys hown hr hm h1 h63 hbytes hbase;unfold Oper.wp execOp;simp only[ho,resolve,invoke,builtin,Sem.run_bind,Sem.run_pure,Result.andThen_ok,List.map_toArray,List.map_cons,List.map_nil,hs,hx,hrun];exact hK _ _ (h A' c' w' h2 h3 h4)
end
end
section
def ofT (w:World)(base:Nat)(ts:List TypeId)(k:Nat) : Prop:=base<=k/\∃ cs t,w.heap[k]?=some (.cells cs t (0,0))/\t∈ts
def ModT (base:Nat)(ts:List TypeId)(w w':World) : Prop:=Mod (ofT w base ts) w w'
section
variable {base:Nat} {ts:List TypeId} {w w' w2:World}
theorem ModT.rf (w:World) : ModT base ts w w:=Mod.rf w
theorem ModT.of_ext (h:Ext w w') : ModT base ts w w':=Mod.of_ext h
theorem ModT.tr (h:ModT base ts w w')(k:ModT base ts w' w2) : ModT base ts w w2:=by
 refine Mod.tr' h k fun i hi hs=>?_
 by_cases ho:ofT w base ts i
 ·exact ho
 ·obtain⟨hb,cs,t,hc,ht⟩:=hs
  exact⟨hb,cs,t,(h.block i hi ho).symm.trans hc,ht⟩
theorem ModT.ext (h:ModT base ts w w')(k:Ext w' w2) : ModT base ts w w2:=h.tr (.of_ext k)
theorem ModT.set (w:World){g:Nat}{t:TypeId}{cs:Array Value}(hg:Blk w g t cs)(ht:t∈ts)(hb:base<=g)(i:Nat)(u:Value) : ModT base ts w (w.setCell ⟨g,i,none⟩ u) :=
 Mod.set (p:=⟨g,i,none⟩) (Mod.rf w) (.inl ⟨hb,cs,t,hg,ht⟩) u
theorem ModT.size (h:ModT base ts w w') : w.heap.size<=w'.heap.size:=Mod.size h
theorem ModT.more {ts':List TypeId}{base':Nat}(h:ModT base ts w w')(hb:base'<=base)(ht:∀ t∈ts,t∈ts') : ModT base' ts' w w' :=
 Mod.mono h fun _ _ ⟨h1,cs,t,h2,h3⟩=>⟨Nat.le_trans hb h1,cs,t,h2,ht t h3⟩
theorem Ext.modT {w0:World}(h:Ext w0 w)(k:ModT base ts w w')(hb:w0.heap.size<=base) : Ext w0 w':=h.mod k fun _ hk hs=>by have:=hs.1;omega
theorem Blk.modT {g:Nat}{t:TypeId}{cs:Array Value}(h:Blk w g t cs)(k:ModT base ts w w')(ht:t∉ts) : Blk w' g t cs :=
 h.mod k fun hs=>by
  obtain⟨_,cs',t',h1,h2⟩:=hs;rw[h] at h1
  injection h1 with h1
  injection h1 with _ h1
  subst h1;exact ht h2
theorem RdV.modT {e:TypeId}{A:Option Addr}{vs:List Value}(h:RdV w e A vs)(k:ModT base ts w w')(ht:e∉ts) : RdV w' e A vs :=
 h.mod k fun b cur hb hs=>by
  obtain⟨_,cs',t',h1,h2⟩:=hs;rw[hb] at h1
  injection h1 with h1
  injection h1 with _ h1
  subst h1;exact ht h2
theorem OwV.modT {base':Nat}{e:TypeId}{size n c:Nat}{A:Option Addr}{vs:List Value}(h:OwV w base' e size A n c vs)(k:ModT base ts w w')(ht:e∉ts) : OwV w' base' e size A n c vs :=
 h.keep fun g hg=>by
  rcases h.cases with⟨rfl,rfl,rfl,rfl⟩ | ⟨g',cur,rfl,hb',hh,_⟩
  ·simp[bl] at hg
  ·simp[bl] at hg
   subst hg;exact k.block g' (Array.getElem?_eq_some_iff.1 hh).1 fun hs=>by
    obtain⟨_,cs',t',h1,h2⟩:=hs;rw[hh] at h1
    injection h1 with h1
    injection h1 with _ h1
    subst h1;exact ht h2
theorem RdI.modT {A:Option Addr}{xs:List Int}(h:RdI w A xs)(k:ModT base ts w w')(hb:∀ b,bl A=some b->b<base) : RdI w' A xs:=by
 rcases h with rfl | ⟨b,off,rfl,hlt,hc⟩
 ·exact .inl rfl
 ·refine .inr ⟨b,off,rfl,Nat.lt_of_lt_of_le hlt k.size,fun j x hj=>?_⟩
  have h1:=hb b rfl;rw[<-hc j x hj];exact World.cell?_of_block (k.block b hlt fun hs=>by have:=hs.1;omega)
end
end
section
def Zd (a0:Act) : List (Nat×Option Tmp)->(Nat->Value)->Act
 | [],_=>a0
 | p::ps,u=>(Zd a0 ps u).put p.2 (u p.1)
def upd (u:Nat->Value)(i:Nat)(v:Value) : Nat->Value:=fun j=>if j=i then v else u j
def ZB (ops:Array Oper)(rem:List (Nat×Option Tmp))(i:Nat) : List Nat :=
 match ops[i]? with
 | none=>[]
 | some o=>(o.after.toList.filter fun e=>Region.binds .any e&&(rem.map (·.1)).contains e.on).map (·.on)
theorem ZQ {ops:Array Oper}{rem:List (Nat×Option Tmp)}{i j:Nat}(h:(ZB ops rem i).contains j=true) : j∈ZB ops rem i:=by simpa using h
theorem Act.put_put_ne (a:Act){x y:Option Tmp}(v u:Value)(h:∀ d,x=some d->y≠some d) : (a.put x v).put y u=(a.put y u).put x v:=Act.put_comm a v u h
theorem Act.put_twice (a:Act)(x:Option Tmp)(v u:Value) : (a.put x v).put x u=a.put x u:=by
 cases x with
 | none=>rfl
 | some d=>simp[Act.put,Array.setIfInBounds_setIfInBounds]
theorem Z8 (a0:Act)(i:Nat)(d:Option Tmp)(u:Nat->Value)(v:Value) : ∀ (rem:List (Nat×Option Tmp)),(rem.map (·.1)).Nodup->(rem.filterMap (·.2)).Nodup->(i,d)∈rem ->
  (Zd a0 rem u).put d v=Zd a0 rem (upd u i v)
 | [],_,_,h=>by cases h
 | p::ps,hn,hd,h=>by
  have same:∀ (qs:List (Nat×Option Tmp)),i∉qs.map (·.1)->Zd a0 qs (upd u i v)=Zd a0 qs u:=by
   intro qs
   induction qs with
   | nil=>intro _;rfl
   | cons q qs ih =>
    intro hq;simp only[List.map_cons,List.mem_cons,not_or] at hq;simp only[Zd,ih hq.2,upd,if_neg (Ne.symm hq.1)]
  rcases List.mem_cons.1 h with rfl | h'
  ·have hni:i∉ps.map (·.1):=by simpa using (List.nodup_cons.1 hn).1
   simp only[Zd,same ps hni,upd,if_true];exact Act.put_twice _ _ _ _
  ·have hpi:p.1≠i:=by
    rintro rfl;exact(List.nodup_cons.1 hn).1 (List.mem_map.2 ⟨_,h',rfl⟩)
   have hd':(ps.filterMap (·.2)).Nodup:=by
    cases hp:p.2 with
    | none=>simpa [List.filterMap_cons,hp] using hd
    | some t=>rw[List.filterMap_cons,hp] at hd;exact(List.nodup_cons.1 hd).2
   have ih:=Z8 a0 i d u v ps (List.nodup_cons.1 hn).2 hd' h';simp only[Zd,upd,if_neg hpi];rw[<-ih];refine Act.put_put_ne _ _ _ ?_;intro t ht hdt;rw[List.filterMap_cons,ht] at hd;exact(List.nodup_cons.1 hd).1 (List.mem_filterMap.2 ⟨(i,d),h',hdt⟩)
theorem Xb (a:Act)(d:Tmp) : a.put (some d) (a.tmps.getD d undef)=a:=by
 have:a.tmps.setIfInBounds d (a.tmps.getD d undef)=a.tmps:=by
  apply Array.ext_getElem?;intro j;rw[Array.getElem?_setIfInBounds];split
  ·rename_i h
   subst h;split
   ·rename_i h;simp[Array.getD,h]
   ·rename_i h;simp[Array.getElem?_eq_none (Nat.le_of_not_lt h)]
  ·rfl
 show ({ a with tmps:=a.tmps.setIfInBounds d (a.tmps.getD d undef) }:Act)=a;rw[this]
theorem Z9 (a0:Act)(u:Nat->Value)(i:Nat)(v:Value) : ∀ (qs:List (Nat×Option Tmp)),i∉qs.map (·.1)->Zd a0 qs (upd u i v)=Zd a0 qs u
 | [],_=>rfl
 | q::qs,hq=>by
  simp only[List.map_cons,List.mem_cons,not_or] at hq;simp only[Zd,Z9 a0 u i v qs hq.2,upd,if_neg (Ne.symm hq.1)]
theorem ZW (a0:Act) : ∀ (rem:List (Nat×Option Tmp)),(rem.map (·.1)).Nodup->∃ u,Zd a0 rem u=a0
 | [],_=>⟨fun _=>undef,rfl⟩
 | p::ps,hn=>by
  obtain⟨u,hu⟩:=ZW a0 ps (List.nodup_cons.1 hn).2;have hni:p.1∉ps.map (·.1):=(List.nodup_cons.1 hn).1;refine⟨upd u p.1 (match p.2 with | some d=>a0.tmps.getD d undef | none=>undef),?_⟩;simp only[Zd,Z9 a0 u _ _ ps hni,hu,upd,if_true]
  cases p.2 with
  | none=>rfl
  | some d=>exact Xb a0 d
section
variable {P:Program} {ops:Array Oper} {Q:Exit->Act->World->Prop}
def ZG (listed:Array Bool)(rem:List (Nat×Option Tmp)) : Nat:=(rem.filter fun p => !listed.getD p.1 true).length
def ZC (ops:Array Oper)(rs:List Nat) : Nat->Nat->Nat->Bool
 | 0,_,_=>false
 | f+1,i,q=>match ops[i]? with
  | none=>false
  | some o=>o.after.toList.any (fun e=>Region.binds .any e&&(e.on==q || (rs.contains e.on&&ZC ops rs f e.on q)))
theorem ZD {listed:Array Bool}{rs:List Nat}(hcl:∀ p∈rs,listed.getD p true=true->∀ o,ops[p]?=some o->∀ e∈o.after.toList,Region.binds .any e=true->listed.getD e.on true=true) :
  ∀ (f i:Nat),(∀ o,ops[i]?=some o->∀ e∈o.after.toList,Region.binds .any e=true->listed.getD e.on true=true)->∀ q,ZC ops rs f i q=true->listed.getD q true=true:=by
 intro f
 induction f with
 | zero=>intro i _ q h;cases h
 | succ f ih =>
  intro i hi q h;unfold ZC at h
  cases ho:ops[i]? with
  | none=>rw[ho] at h;cases h
  | some o =>
   rw[ho] at h;obtain⟨e,he,h⟩:=List.any_eq_true.1 h;simp only[Bool.and_eq_true,Bool.or_eq_true,beq_iff_eq] at h;obtain⟨hb,h⟩:=h;have h1:=hi o ho e he hb;rcases h with rfl | ⟨h2,h3⟩
   ·exact h1
   ·exact ih e.on (hcl e.on (by simpa using h2) h1) q h3
theorem ZM {listed:Array Bool}{i:Nat}(h:((ops[i]?.map fun o=>o.after.all fun e => !Region.binds .any e || listed.getD e.on false).getD false)=true) :
  ∀ o,ops[i]?=some o->∀ e∈o.after.toList,Region.binds .any e=true->listed.getD e.on true=true:=by
 intro o ho e he hb;rw[ho] at h;simp only[Option.map_some,Option.getD_some,Array.all_eq_true_iff_forall_mem] at h;have:=h e (by simpa using he);rw[hb] at this;simp only[Bool.not_true,Bool.false_or] at this
 by_cases hlt:e.on<listed.size
 ·simp only[Array.getD,hlt,dif_pos] at this ⊢
  simpa using this
 ·simp[Array.getD,hlt]
def ZR (ops:Array Oper)(listed listed1:Array Bool)(rem:List (Nat×Option Tmp)) : Bool :=
 decide ((rem.map (·.1)).Nodup)&&decide ((rem.filterMap (·.2)).Nodup)&&decide (listed.size=ops.size)&&decide (listed1.size=ops.size) &&
 rem.all (fun p=>match ops[p.1]? with
  | none=>false
  | some o=>(o.dst==p.2)&&o.after.all (fun e => !Region.binds .any e || (decide (e.on<p.1)&&((rem.map (·.1)).contains e.on || listed.getD e.on true)))) &&
 (List.range ops.size).all (fun i=>if (rem.map (·.1)).contains i then !listed.getD i true&&listed1.getD i true
  else(listed1.getD i true==listed.getD i true)&&(listed.getD i true || rem.all (fun p=>ZC ops (rem.map (·.1)) (rem.length+1) i p.1) || (match ops[i]? with
   | none=>false
   | some o=>o.after.any (fun e=>Region.binds .any e&&decide (e.on<ops.size) && !listed.getD e.on true && !(rem.map (·.1)).contains e.on))))
def Xc (ops:Array Oper)(rem:List (Nat×Option Tmp))(kill:Nat->List Nat)(i j:Nat) : Bool :=
 decide (i≠j) && !(kill j).contains i&&(kill j).all (fun k => !ZC ops (rem.map (·.1)) (rem.length+1) i k) && !ZC ops (rem.map (·.1)) (rem.length+1) j i
def Xd (ops:Array Oper)(rem:List (Nat×Option Tmp))(kill:Nat->List Nat) : Bool :=
 rem.all fun p=>(ZB ops rem p.1).all fun j=>(kill j).all fun k=>k==p.1
theorem Yu {σ:Type}(rem:List (Nat×Option Tmp))(kill:Nat->List Nat)(R:σ->World->Prop)(V:Nat->Value->σ->World->Prop)(Stab:Nat->σ->World->σ->World->Prop){listed0:Array Bool}(listed1:Array Bool)(hok:ZR ops listed0 listed1 rem=true)(hkill:Xd ops rem kill=true)
  (stab:∀ i j v s w s' w',Xc ops rem kill i j=true->V j v s w->Stab i s w s' w'->V j v s' w')
  {a0:Act}
  (step:∀ p∈rem,∀ u s w,R s w->(∀ j∈ZB ops rem p.1,V j (u j) s w)->∀ K:Act->World->Prop,(∀ v s' w',V p.1 v s' w'->R s' w'->Stab p.1 s w s' w'->K ((Zd a0 rem u).put p.2 v) w')->wpOp P ops Q p.1 K (Zd a0 rem u) w)
  (n:Nat) (done:∀ u s w,R s w->(∀ p∈rem,kill p.1=[]->V p.1 (u p.1) s w)->wpAny P .any ops Q n listed1 (Zd a0 rem u) w) {s0:σ} {w0:World} (hR:R s0 w0) :
  wpAny P .any ops Q (rem.length+n) listed0 a0 w0:=by
 simp only[ZR,Bool.and_eq_true,decide_eq_true_eq] at hok;obtain⟨⟨⟨⟨⟨hn,hdn⟩,hsz⟩,hsz1⟩,hall⟩,hcomp⟩:=hok;have hall:=List.all_eq_true.1 hall;have hcomp:=List.all_eq_true.1 hcomp;have hmem:∀ i∈rem.map (·.1),listed0.getD i true=false/\i<ops.size:=by
  intro i hi;obtain⟨p,hp,rfl⟩:=List.mem_map.1 hi;have h1:=hall p hp;have hlt:p.1<ops.size:=by
   rcases Nat.lt_or_ge p.1 ops.size with h | h
   ·exact h
   ·rw[Array.getElem?_eq_none h] at h1;simp at h1
  have:=hcomp p.1 (List.mem_range.2 hlt);have hc:(rem.map (·.1)).contains p.1=true:=by simpa using hi
  rw[hc] at this;simp only[if_true,Bool.and_eq_true,Bool.not_eq_true'] at this;exact⟨this.1,hlt⟩
 have hone:∀ i∈rem.map (·.1),listed1.getD i true=true:=by
  intro i hi;have:=hcomp i (List.mem_range.2 (hmem i hi).2);have hc:(rem.map (·.1)).contains i=true:=by simpa using hi
  rw[hc] at this;simp only[if_true,Bool.and_eq_true] at this;exact this.2
 have hrest:∀ i,i<ops.size->i∉rem.map (·.1)->listed1.getD i true=listed0.getD i true/\((listed0.getD i true=true\/∀ p∈rem,ZC ops (rem.map (·.1)) (rem.length+1) i p.1=true)\/∃ o,ops[i]?=some o/\∃ e∈o.after.toList,Region.binds .any e=true/\e.on<ops.size/\listed0.getD e.on true=false/\e.on∉rem.map (·.1)):=by
  intro i hi hni;have:=hcomp i (List.mem_range.2 hi);have hc:(rem.map (·.1)).contains i=false:=by
   cases h:(rem.map (·.1)).contains i with
   | false=>rfl
   | true=>exact absurd (by simpa using h) hni
  rw[hc] at this;simp only[Bool.false_eq_true,if_false,Bool.and_eq_true,beq_iff_eq,Bool.or_eq_true] at this;refine⟨this.1,?_⟩;rcases this.2 with(h | h) | h
  ·exact .inl (.inl h)
  ·exact .inl (.inr fun p hp=>List.all_eq_true.1 h p hp)
  ·right
   rw[Array.getElem?_eq_getElem hi] at h;refine⟨ops[i],Array.getElem?_eq_getElem hi,?_⟩;simp only[Array.any_toList.symm,List.any_eq_true,Bool.and_eq_true,decide_eq_true_eq,Bool.not_eq_true'] at h;obtain⟨e,he,⟨⟨h1,h2⟩,h3⟩,h4⟩:=h;exact⟨e,he,h1,h2,h3,by simpa using h4⟩
 suffices H:∀ k (listed:Array Bool) (u:Nat->Value) (s:σ) (w:World),listed.size=ops.size->R s w->(∀ i,i<ops.size->i∉rem.map (·.1)->listed.getD i true=listed0.getD i true) ->
   (∀ p∈rem,listed.getD p.1 true=true->(∀ k∈kill p.1,listed.getD k true=false)->V p.1 (u p.1) s w)->(∀ p∈rem.map (·.1),listed.getD p true=true->∀ o,ops[p]?=some o->∀ e∈o.after.toList,Region.binds .any e=true->listed.getD e.on true=true)->ZG listed rem=k->wpAny P .any ops Q (k+n) listed (Zd a0 rem u) w by
  obtain⟨u,hu⟩:=ZW a0 rem hn;have hopen:ZG listed0 rem=rem.length:=by
   unfold ZG;rw[List.filter_eq_self.2];intro p hp;simp[(hmem p.1 (List.mem_map.2 ⟨p,hp,rfl⟩)).1]
  have h:=H rem.length listed0 u s0 w0 hsz hR (fun i hi hni=>rfl) (fun p hp hl _=>by
   have:=(hmem p.1 (List.mem_map.2 ⟨p,hp,rfl⟩)).1;rw[this] at hl
   cases hl) (fun p hp hl=>by
   rw[(hmem p hp).1] at hl
   cases hl) hopen
  rwa [hu] at h
 intro k
 induction k with
 | zero =>
  intro listed u s w hs hRw hout hV hcl hopen;have hall':∀ p∈rem,listed.getD p.1 true=true:=by
   intro p hp;simp only[ZG,List.length_eq_zero_iff,List.filter_eq_nil_iff,Bool.not_eq_true',Bool.not_eq_false] at hopen;exact hopen p hp
  have hl:listed=listed1:=by
   apply Array.ext
   ·rw[hs,hsz1]
   ·intro i h1 h2
    have:listed.getD i true=listed1.getD i true:=by
     by_cases hr:i∈rem.map (·.1)
     ·rw[hone i hr]
      obtain⟨p,hp,rfl⟩:=List.mem_map.1 hr;exact hall' p hp
     ·rw[hout i (by omega) hr,(hrest i (by omega) hr).1]
    simpa [Array.getD,h1,h2] using this
  rw[hl,Nat.zero_add];exact done u s w hRw (fun p hp hk=>hV p hp (hall' p hp) (fun k h=>by rw[hk] at h;cases h))
 | succ k ih =>
  intro listed u s w hs hRw hout hV hcl hopen;rw[Nat.add_right_comm];have hsome:∃ p∈rem,listed.getD p.1 true=false:=by
   have:(rem.filter fun p => !listed.getD p.1 true)≠[]:=by
    intro h;simp only[ZG,h,List.length_nil] at hopen;omega
   obtain⟨p,hp⟩:=List.exists_mem_of_ne_nil _ this;obtain⟨h1,h2⟩:=List.mem_filter.1 hp;exact⟨p,h1,by simpa using h2⟩
  have hno:∀ i,i∈Region.ready .any ops listed->i∈rem.map (·.1):=by
   intro i hi;obtain⟨hi1,hi2⟩:=List.mem_filter.1 hi;have hilt:=List.mem_range.1 hi1;simp only[Bool.and_eq_true] at hi2;have hil:listed.getD i true=false:=by simpa using hi2.1
   by_cases hr:i∈rem.map (·.1)
   ·exact hr
   ·exfalso
    obtain⟨h1,h2⟩:=hrest i hilt hr;rw[hout i hilt hr] at hil;rcases h2 with(h2 | h2) | h2
    ·rw[h2] at hil;cases hil
    rotate_left
    ·obtain⟨o,ho,e,he,hb,hsz2,hl0,hnr⟩:=h2
     have h3:=hi2.2;rw[ho] at h3;simp only[Option.map_some,Option.getD_some,Array.all_eq_true_iff_forall_mem] at h3;have:=h3 e (by simpa using he);rw[hb] at this;simp only[Bool.not_true,Bool.false_or] at this;have hlt:e.on<listed.size:=by rw[hs];exact hsz2
     have e1:listed.getD e.on false=listed.getD e.on true:=by simp only[Array.getD,hlt,dif_pos]
     rw[e1,hout e.on hsz2 hnr,hl0] at this
     cases this
    ·obtain⟨p,hp,hpl⟩:=hsome
     have:=ZD hcl _ i (ZM hi2.2) p.1 (h2 p hp);rw[hpl] at this
     cases this
  constructor
  ·intro hnil
   exfalso
   have key:∀ i,i<ops.size->i∈rem.map (·.1)->listed.getD i true=true:=by
    intro i
    induction i using Nat.strongRecOn with
    | _ i ihi =>
     intro hi hr;obtain⟨p,hp,rfl⟩:=List.mem_map.1 hr;have h1:=hall p hp
     cases hl:listed.getD p.1 true with
     | true=>rfl
     | false =>
      exfalso
      have hready:p.1∈Region.ready .any ops listed:=by
       refine List.mem_filter.2 ⟨List.mem_range.2 hi,?_⟩;rw[Array.getElem?_eq_getElem hi] at h1 ⊢;simp only[Bool.and_eq_true,beq_iff_eq] at h1;simp only[hl,Bool.not_false,Option.map_some,Option.getD_some,Bool.true_and];rw[Array.all_eq_true_iff_forall_mem] at h1 ⊢;intro e he;have:=h1.2 e he
       cases hb:Region.binds .any e with
       | false=>rfl
       | true =>
        rw[hb] at this;simp only[Bool.not_true,Bool.false_or,Bool.and_eq_true,decide_eq_true_eq,Bool.or_eq_true] at this;have hlt:e.on<listed.size:=by rw[hs];omega
        have hh:listed.getD e.on true=true:=by
         rcases this.2 with h | h
         ·exact ihi e.on this.1 (by omega) (by simpa using h)
         ·by_cases hr':e.on∈rem.map (·.1)
          ·exact ihi e.on this.1 (by omega) hr'
          ·rw[hout e.on (by omega) hr'];exact h
        simp only[Array.getD,hlt,dif_pos] at hh ⊢
        simpa using hh
      rw[hnil] at hready
      cases hready
   obtain⟨p,hp,hpl⟩:=hsome;have:=key p.1 (hmem p.1 (List.mem_map.2 ⟨p,hp,rfl⟩)).2 (List.mem_map.2 ⟨p,hp,rfl⟩);rw[this] at hpl
   cases hpl
  ·intro i hi
   have hir:=hno i hi;obtain⟨hi1,hi2⟩:=List.mem_filter.1 hi;have hilt:=List.mem_range.1 hi1;simp only[Bool.and_eq_true] at hi2;have hil:listed.getD i true=false:=by simpa using hi2.1
   obtain⟨p,hp,rfl⟩:=List.mem_map.1 hir;refine step p hp u s w hRw ?_ _ ?_
   ·intro j hj
    rw[ZB,Array.getElem?_eq_getElem hilt] at hj;obtain⟨e,he,rfl⟩:=List.mem_map.1 hj;obtain⟨he1,he2⟩:=List.mem_filter.1 he;simp only[Bool.and_eq_true] at he2;have hjr:e.on∈rem.map (·.1):=by simpa using he2.2
    obtain⟨q,hq,hqe⟩:=List.mem_map.1 hjr;have hjd:e.on∈ZB ops rem p.1:=by
     rw[ZB,Array.getElem?_eq_getElem hilt];exact List.mem_map.2 ⟨e,he,rfl⟩
    have hkj:∀ k∈kill q.1,listed.getD k true=false:=by
     intro k hk;rw[hqe] at hk;have h9:=List.all_eq_true.1 (List.all_eq_true.1 (List.all_eq_true.1 hkill p hp) e.on hjd) k hk;obtain rfl:k=p.1:=by simpa using h9
     exact hil
    rw[<-hqe];refine hV q hq ?_ hkj;have h3:=hi2.2;rw[Array.getElem?_eq_getElem hilt] at h3;simp only[Option.map_some,Option.getD_some,Array.all_eq_true_iff_forall_mem] at h3;have:=h3 e (by simpa using he1);rw[he2.1] at this;simp only[Bool.not_true,Bool.false_or] at this;rw[hqe];have hlt:e.on<listed.size:=by rw[hs,<-hqe];exact(hmem q.1 (List.mem_map.2 ⟨q,hq,rfl⟩)).2
    simp only[Array.getD,hlt,dif_pos] at this ⊢
    simpa using this
   ·intro v s' w' hv hR' hst
    have hpp:(p.1,p.2)∈rem:=hp;rw[Z8 a0 p.1 p.2 u v rem hn hdn hpp];have hset:∀ j,(listed.setIfInBounds p.1 true).getD j true=if j=p.1 then true else listed.getD j true:=by
     intro j;simp only[Array.getD_eq_getD_getElem?,Array.getElem?_setIfInBounds]
     by_cases hj:p.1=j
     ·subst hj
      simp;split<;>simp
     ·rw[if_neg hj,if_neg (Ne.symm hj)]
    refine ih _ _ _ _ (by simpa using hs) hR' ?_ ?_ ?_ ?_
    ·intro j hj hjr
     have hjp:¬j=p.1:=fun e=>hjr (by rw[e];exact List.mem_map.2 ⟨p,hp,rfl⟩)
     rw[hset,if_neg hjp];exact hout j hj hjr
    ·intro q hq hql hkq
     rw[hset] at hql
     by_cases he:q.1=p.1
     ·rw[he]
      simpa [upd] using hv
     ·rw[if_neg he] at hql
      simp only[upd,if_neg he];have hk1:∀ k∈kill q.1,k≠p.1/\listed.getD k true=false:=by
       intro k hk;have h9:=hkq k hk;rw[hset] at h9
       by_cases hkp:k=p.1
       ·rw[if_pos hkp] at h9;cases h9
       ·rw[if_neg hkp] at h9;exact⟨hkp,h9⟩
      refine stab p.1 q.1 _ _ _ _ _ ?_ (hV q hq hql fun k hk=>(hk1 k hk).2) hst;unfold Xc;simp only[Bool.and_eq_true,decide_eq_true_eq,Bool.not_eq_true'];refine⟨⟨⟨Ne.symm he,?_⟩,List.all_eq_true.2 fun k hk=>?_⟩,?_⟩
      ·cases hc:(kill q.1).contains p.1 with
       | false=>rfl
       | true=>exact absurd rfl (hk1 p.1 (by simpa using hc)).1
      ·cases hc:ZC ops (rem.map (·.1)) (rem.length+1) p.1 k with
       | false=>rfl
       | true =>
        have h5:=ZD hcl _ p.1 (ZM hi2.2) k hc;rw[(hk1 k hk).2] at h5
        cases h5
      ·cases hc:ZC ops (rem.map (·.1)) (rem.length+1) q.1 p.1 with
       | false=>rfl
       | true =>
        have h5:=ZD hcl _ q.1 (hcl q.1 (List.mem_map.2 ⟨q,hq,rfl⟩) hql) p.1 hc;rw[hil] at h5
        cases h5
    ·intro q hq hql o ho e he hb
     rw[hset];split
     ·rfl
     ·rw[hset] at hql
      by_cases hqp:q=p.1
      ·subst hqp
       exact ZM hi2.2 o ho e he hb
      ·rw[if_neg hqp] at hql
       exact hcl q hq hql o ho e he hb
    ·have hlt:ZG (listed.setIfInBounds p.1 true) rem+1=ZG listed rem:=by
      unfold ZG;have h1:∀ (qs:List (Nat×Option Tmp)),(qs.map (·.1)).Nodup->p∈qs->(qs.filter fun q => !(listed.setIfInBounds p.1 true).getD q.1 true).length+1=(qs.filter fun q => !listed.getD q.1 true).length:=by
       intro qs hqn hpq;have heq:∀ (rs:List (Nat×Option Tmp)),p.1∉rs.map (·.1)->(rs.filter fun q => !(listed.setIfInBounds p.1 true).getD q.1 true)=(rs.filter fun q => !listed.getD q.1 true):=by
        intro rs hrs;refine List.filter_congr fun q hq=>?_
        have hne:q.1≠p.1:=fun e=>hrs (e ▸ List.mem_map.2 ⟨q,hq,rfl⟩)
        rw[hset,if_neg hne]
       induction qs with
       | nil=>cases hpq
       | cons r rs ihr =>
        rcases List.mem_cons.1 hpq with rfl | hpq'
        ·have:=heq rs (List.nodup_cons.1 hqn).1
         rw[List.filter_cons,List.filter_cons,this,hset,if_pos rfl,hil];simp
        ·have ih2:=ihr (List.nodup_cons.1 hqn).2 hpq'
         have hne:r.1≠p.1:=by
          intro e;exact(List.nodup_cons.1 hqn).1 (List.mem_map.2 ⟨p,hpq',e.symm⟩)
         rw[List.filter_cons,List.filter_cons,hset,if_neg hne];split<;>(try simp only[List.length_cons])<;>omega
      exact h1 rem hn hp
     omega
theorem Ya (rem:List (Nat×Option Tmp))(R:World->Prop)(V:Nat->Value->World->Prop)(Stab:World->World->Prop){listed0:Array Bool}(listed1:Array Bool)(hok:ZR ops listed0 listed1 rem=true)
  (stab:∀ j v w w',V j v w->Stab w w'->V j v w')
  {a0:Act}
  (step:∀ p∈rem,∀ u w,R w->(∀ j∈ZB ops rem p.1,V j (u j) w)->∀ K:Act->World->Prop,(∀ v w',V p.1 v w'->R w'->Stab w w'->K ((Zd a0 rem u).put p.2 v) w')->wpOp P ops Q p.1 K (Zd a0 rem u) w)
  (n:Nat) (done:∀ u w,R w->(∀ p∈rem,V p.1 (u p.1) w)->wpAny P .any ops Q n listed1 (Zd a0 rem u) w) {w0:World} (hR:R w0) :
  wpAny P .any ops Q (rem.length+n) listed0 a0 w0 :=
 Yu (σ:=Unit) rem (fun _=>[]) (fun _=>R) (fun j v _=>V j v) (fun _ _ w _ w'=>Stab w w') listed1 hok (by simp[Xd]) (fun _ j v _ w _ w' _=>stab j v w w') (fun p hp u _ w hR hd K hK=>step p hp u w hR hd K fun v w'=>hK v () w') n (fun u _ w hR h=>done u w hR fun p hp=>h p hp rfl) (s0:=()) hR
end
section
variable {P:Program} {ops:Array Oper} {Q:Exit->Act->World->Prop}
theorem Zr (rem:List (Nat×Option Tmp))(f:Nat->Value){listed0:Array Bool}(listed1:Array Bool)(hok:ZR ops listed0 listed1 rem=true){a0:Act}{w:World}{n:Nat}
  (step:∀ p∈rem,∀ u:Nat->Value,(∀ j∈ZB ops rem p.1,u j=f j)->∀ K:Act->World->Prop,K ((Zd a0 rem u).put p.2 (f p.1)) w->wpOp P ops Q p.1 K (Zd a0 rem u) w)
  (done:wpAny P .any ops Q n listed1 (Zd a0 rem f) w):wpAny P .any ops Q (rem.length+n) listed0 a0 w:=by
 refine Ya rem (fun w'=>w'=w) (fun i v _=>v=f i) (fun _ _=>True) listed1 hok (fun _ _ _ _ h _=>h) ?_ n ?_ rfl
 ·rintro p hp u w' rfl hD K hK
  exact step p hp u hD K (hK _ _ rfl rfl trivial)
 ·rintro u w' rfl hV
  have:∀ qs:List (Nat×Option Tmp),(∀ p∈qs,u p.1=f p.1)->Zd a0 qs u=Zd a0 qs f:=by
   intro qs
   induction qs with
   | nil=>intro _;rfl
   | cons q qs ih =>
    intro h;simp only[Zd,ih (fun p hp=>h p (List.mem_cons_of_mem _ hp)),h q List.mem_cons_self]
  rw[this rem hV];exact done
end
section
variable {P:Program} {ops:Array Oper} {o:Oper} {a:Act} {w w':World} {K:Act->World->Prop} {Q:Exit->Act->World->Prop} {E:Prop}
end
end
section
def VF (f:Nat->Option Value)(g:Nat->Value->World->Prop)(i:Nat)(v:Value)(w:World) : Prop:=match f i with
 | some c=>v=c
 | none=>g i v w
theorem VF.stab {f:Nat->Option Value}{g:Nat->Value->World->Prop}{Stab:World->World->Prop}(h:∀ j v w w',f j=none->g j v w->Stab w w'->g j v w')(j:Nat)(v:Value)(w w':World)(hv:VF f g j v w)(hs:Stab w w') : VF f g j v w':=by
 unfold VF at *
 cases hf:f j with
 | some c=>rw[hf] at hv;exact hv
 | none=>rw[hf] at hv;exact h j v w w' hf hv hs
theorem VF.k {f:Nat->Option Value}{g:Nat->Value->World->Prop}{i:Nat}{v c:Value}{w:World}(h:VF f g i v w)(hf:f i=some c) : v=c:=by unfold VF at h;rw[hf] at h;exact h
theorem VF.g {f:Nat->Option Value}{g:Nat->Value->World->Prop}{i:Nat}{v:Value}{w:World}(h:VF f g i v w)(hf:f i=none) : g i v w:=by unfold VF at h;rw[hf] at h;exact h
theorem VF.mk {f:Nat->Option Value}{g:Nat->Value->World->Prop}{i:Nat}{c:Value}{w:World}(hf:f i=some c) : VF f g i c w:=by unfold VF;rw[hf]
theorem VF.mg {f:Nat->Option Value}{g:Nat->Value->World->Prop}{i:Nat}{v:Value}{w:World}(hf:f i=none)(h:g i v w) : VF f g i v w:=by unfold VF;rw[hf];exact h
def Yb (ops:Array Oper)(i:Nat) : Option (Option (Nat×Bool)×Op×TypeId×Option Tmp):=(ops[i]?).map fun o=>(o.guard,o.op,o.type,o.dst)
def Zb (ρ:Operand->Value)(op:Op)(t:TypeId) : Sem Next:=execOp ρ { dst:=none,op:=op,type:=t,pos := "",after:=#[],guard:=none }
theorem Xe (ρ:Operand->Value)(o:Oper) : execOp ρ o=Zb ρ o.op o.type:=rfl
section
variable {P:Program} {ops:Array Oper} {i:Nat} {op:Op} {t:TypeId} {d:Option Tmp} {a:Act} {w w':World} {K:Act->World->Prop} {Q:Exit->Act->World->Prop}
theorem YH (hi:Yb ops i=some (none,op,t,d))(h:∀ o:Oper,o.op=op->o.type=t->o.dst=d->o.upon P a K Q ((Zb a.eval op t).run P w)) : wpOp P ops Q i K a w:=by
 unfold Yb at hi;obtain⟨o,ho,he⟩:=Option.map_eq_some_iff.1 hi;simp only[Prod.mk.injEq] at he;obtain⟨h1,h2,h3,h4⟩:=he;unfold wpOp;simp only[ho];rw[if_pos (by simp[Region.wanted,h1])];refine .inl ?_;rw[Oper.wp,Xe,h2,h3];exact h o h2 h3 h4
theorem ZE (hi:Yb ops i=some (none,op,t,d))(v:Value)(hrun:(Zb a.eval op t).run P w=.ok (.value v) w')(hK:K (a.put d v) w') : wpOp P ops Q i K a w :=
 YH hi fun o _ _ hd=>by rw[hrun,Oper.upon_value,hd];exact hK
theorem Xr (hi:Yb ops i=some (none,op,t,d))(hrun:(Zb a.eval op t).run P w=.ok .skip w')(hK:K (a.put d undef) w') : wpOp P ops Q i K a w :=
 YH hi fun o _ _ hd=>by rw[hrun,Oper.upon_skip,hd];exact hK
theorem Zs {T:TypeId}{x:Operand}(hi:Yb ops i=some (none,.load T x,t,d))(p:Value)(hx:a.eval x=p)(v:Value)(hrun:(Instr.loadAt T p).run P w=.ok v w)(hK:K (a.put d v) w) : wpOp P ops Q i K a w :=
 ZE hi v (by simp[Zb,execOp,hx,hrun]) hK
theorem Xy {T:TypeId}{x y:Operand}(hi:Yb ops i=some (none,.store T x y,t,d))(p v:Value)(hx:a.eval x=p)(hy:a.eval y=v)(hrun:(Instr.storeAt T p v).run P w=.ok () w')(hK:K (a.put d undef) w') : wpOp P ops Q i K a w :=
 Xr hi (by simp[Zb,execOp,hx,hy,hrun]) hK
theorem Xf {s x:Operand}{t1 t2:TypeId}(hi:Yb ops i=some (none,.call { callee:=.builtin .append,args:=#[s,x],argTypes:=#[t1,t2] },t,d))(p q:Value)(hs:a.eval s=p)(hx:a.eval x=q)(v:Value)(hrun:(Builtin.append_ #[t1,t2] t #[p,q]).run P w=.ok v w')(hK:K (a.put d v) w') : wpOp P ops Q i K a w :=
 ZE hi v (by simp[Zb,execOp,resolve,invoke,builtin,Sem.run_bind,Sem.run_pure,Result.andThen_ok,hs,hx,hrun]) hK
theorem Z0 {f:Nat}{xs:Array Operand}{ts:Array TypeId}(hi:Yb ops i=some (none,.call { callee:=.value (.func f),args:=xs,argTypes:=ts },t,d))(args:Array Value)(hf:(callFunc f args).run P w=.ok (.enter f args) w)(hargs:xs.map a.eval=args)(R:Ending->World->Prop)(hc:Calls P f args w R)(hK:∀ e w',R e w'->∃ v,e=.returned v/\K (a.put d v) w') : wpOp P ops Q i K a w :=
 YH hi fun o _ _ hd=>by
  have e1:(Zb a.eval (.call { callee:=.value (.func f),args:=xs,argTypes:=ts }) t).run P w=.ok (.enter f args) w:=by
   simp[Zb,execOp,resolve,invoke,Sem.run_bind,Sem.run_pure,Result.andThen_ok,hargs,Deferred.ofValue,Act.eval,hf]
  rw[e1,Oper.upon_enter];refine hc.mono fun e w1 he=>?_
  obtain⟨v,rfl,hk⟩:=hK e w1 he;rw[hd];exact hk
theorem Z1 {md:Region.Mode}{listed:Array Bool}{n:Nat}{v:Value}(hi:Yb ops i=some (none,op,t,d))(hs:Region.noSelect ops=true)(hf:Region.free md ops listed i=true)(hr:(Region.ready md ops listed).contains i=true)
  (hQ:∀ c a w,Q (.panic c) (a.put d v) w->Q (.panic c) a w) (hy:∀ u,(Zb a.eval op t).run P u=.ok (.value v) u) (h:wpAny P md ops Q n (listed.setIfInBounds i true) (a.put d v) w):wpAny P md ops Q (n+1) listed a w:=by
 unfold Yb at hi;obtain⟨o,ho,he⟩:=Option.map_eq_some_iff.1 hi;simp only[Prod.mk.injEq] at he;obtain⟨h1,rfl,rfl,rfl⟩:=he;exact wpAny_take ho hs hf hr hQ (.inl ⟨by simp[Region.wanted,h1],hy⟩) h
theorem Za {md:Region.Mode}{listed:Array Bool}{n:Nat}{v:Value}(hi:Yb ops i=some (none,op,t,d))(hc:(Region.noSelect ops&&(Region.free md ops listed i&&(Region.ready md ops listed).contains i))=true)(hQ:∀ c a w,Q (.panic c) (a.put d v) w->Q (.panic c) a w)(hy:∀ u,(Zb a.eval op t).run P u=.ok (.value v) u)(h:wpAny P md ops Q n (listed.setIfInBounds i true) (a.put d v) w) : wpAny P md ops Q (n+1) listed a w:=by
 simp only[Bool.and_eq_true] at hc;exact Z1 hi hc.1 hc.2.1 hc.2.2 hQ hy h
theorem lay : (∀ (a:Act) (d:Option Nat) (v:Value),a.put d v=(match d with | some d=>{ a with tmps:=a.tmps.setIfInBounds d v } | none=>a))/\(∀ (l:List Value) (i:Nat) (v:Value),l.toArray.setIfInBounds i v=(l.set i v).toArray)/\(∀ (x:Value) (l:List Value) (v:Value),(x::l).set 0 v=v::l)/\(∀ (x:Value) (l:List Value) (i:Nat) (v:Value),(x::l).set (i+1) v=x::l.set i v):=⟨fun _ d _=>by cases d<;>rfl,fun _ _ _=>by simp,fun _ _ _=>rfl,fun _ _ _ _=>rfl⟩
theorem Zm {md:Region.Mode}{listed:Array Bool}{n:Nat}(i:Nat)(h1:Region.ready md ops listed=[i])(h:wpOp P ops Q i (wpAny P md ops Q n (listed.setIfInBounds i true)) a w) : wpAny P md ops Q (n+1) listed a w :=
 ⟨fun h0=>absurd (h1.symm.trans h0) (by simp),fun j hj=>by
  rw[h1] at hj;obtain rfl:j=i:=by simpa using hj
  exact h⟩
end
theorem RdI.drop {w:World}{A:Option Addr}{xs:List Int}{c lo:Nat}(h:RdI w A xs)(h1:lo<=xs.length)(h2:xs.length<=c) : RdI w (if c=lo then A else A.map (·.add (lo*1))) (xs.drop lo):=by
 by_cases hc:c=lo
 ·left
  exact List.drop_of_length_le (by omega)
 ·rw[if_neg hc]
  rcases h with rfl | ⟨b,off,rfl,hb,hcc⟩
  ·left;simp
  ·refine .inr ⟨b,off+lo,by simp[Addr.add],hb,fun j x hj=>?_⟩
   rw[List.getElem?_drop] at hj;have:=hcc (lo+j) x hj
   rwa [<-Nat.add_assoc] at this
theorem Ints.drop {xs:List Int}(h:Ints xs)(n:Nat) : Ints (xs.drop n):=fun x hx=>h x (List.mem_of_mem_drop hx)
end
section
open Go.Deep
def UT (w:World) : Prop:=Lib.Utf8Tabs 2 3 w
theorem UT.ext {w w':World}(h:UT w)(x:Ext w w') : UT w':=by
 obtain⟨h1,h2⟩:=h;refine⟨fun c hc=>?_,fun i hi=>⟨?_,?_⟩⟩
 ·rw[x.cell (World.block_lt_of_cell? w _ (h1 c hc))]
  exact h1 c hc
 ·rw[x.cell (World.block_lt_of_cell? w _ (h2 i hi).1)]
  exact(h2 i hi).1
 ·rw[x.cell (World.block_lt_of_cell? w _ (h2 i hi).2)]
  exact(h2 i hi).2
theorem Zu (l:Txt)(a:Nat) : (⟨l.toArray⟩:ByteArray).extract a (⟨l.toArray⟩:ByteArray).size=⟨(l.drop a).toArray⟩:=by
 apply ByteArray.ext;apply Array.ext';rw[Lib.extract_data];simp only[ByteArray.size,List.size_toArray];rw[List.take_of_length_le (by rw[List.length_drop];exact Nat.le_refl _)]
theorem Yv (l:Txt)(a n:Nat) : (⟨l.toArray⟩:ByteArray).extract a (a+n)=⟨((l.drop a).take n).toArray⟩:=by
 apply ByteArray.ext;apply Array.ext';rw[Lib.extract_data];simp[List.drop_take]
theorem ZN {r:Int}(h:128<=r) : Zo r=0:=by
 unfold Zo;rw[if_neg (by omega),if_neg (by omega),if_neg (by omega),if_neg (by omega)]
theorem ZH (s:ByteArray)(p:Nat)(h:p<s.size) : Zo ((Utf8.decode s p).1:Int)=ZK (s[p]'h):=by
 unfold ZK
 by_cases h8:(s[p]'h).toNat<128
 ·rw[decode_ascii s p h h8]
 ·rw[ZN (by have:=(decode_high s p h (by omega)).1;omega),ZN (by omega)]
theorem YI (s:ByteArray)(p:Nat)(h:p<s.size) : 1<=(Utf8.decode s p).2:=by
 by_cases h8:(s[p]'h).toNat<128
 ·rw[decode_ascii s p h h8];exact Nat.le_refl _
 ·exact(decode_high s p h (by omega)).2
theorem Yc (r:Int)(w:World) :
  Calls Tryz.prog 180 #[.int .i32 r] w fun e w'=>e=.returned (.int .i64 (Zo r))/\Ext w w':=by
 go_enter Tryz.func180,Tryz.ntmps180;go_wp2_with (fail)
 all_goals (go_ret;refine⟨?_,XI⟩;show Ending.returned (Value.int .i64 _)=_;refine congrArg (fun k=>Ending.returned (Value.int .i64 k)) ?_;simp only[beq_iff_eq,beq_eq_false_iff_ne,decide_eq_true_eq,decide_eq_false_iff_not,ne_eq] at *;unfold Zo;repeat' (first | omega | split))
def ScB (w:World)(g:Nat)(s:Txt)(a:Nat)(L:Option Addr)(n c:Nat) : Prop:=Blk w g 127 #[.string ⟨s.toArray⟩,.int .i64 (a:Int),.slice L n c]
theorem Zi (s:Txt) : (⟨s.toArray⟩:ByteArray).size=s.length:=by simp[Lib.size_eq]
theorem ZT (g:Nat)(s:Txt)(a:Nat)(L:Option Addr)(n c:Nat)(w:World)(H:ScB w g s a L n c)(ha:a<=s.length)(hs:s.length<=70000)(hU:UT w) :
  Calls Tryz.prog 110 #[.pointer (some ⟨g,0,none⟩)] w fun e w'=>e=.returned (.int .i64 (Zc s a))/\Ext w w':=by
 have c0:=H.c0;have c1:=H.c1;have zg:=Blk.lt H;have hsz:=Zi s;have hx:=Zu s a;rw[hsz] at hx;clear H
 by_cases hlt:a<s.length
 ·have DC:=Hd (fun(W:World) (x:Ext w W)=>Any.utf8_DecodeRuneInString Xa ⟨(s.drop a).toArray⟩ W (hU.ext x))
  have hk:Zo ((Lib.decodeGo ⟨(s.drop a).toArray⟩).1:Int)=Zc s a:=by
   have h0:0<(⟨(s.drop a).toArray⟩:ByteArray).size:=by rw[Zi,List.length_drop];omega
   unfold Lib.decodeGo;rw[if_neg (by omega),ZH _ _ h0,Yj hlt]
   congr 1
   simp[ByteArray.getElem_eq_getElem_data]
  rw[<-hk];generalize Lib.decodeGo ⟨(s.drop a).toArray⟩=dg at *;obtain⟨d1,d2⟩:=dg;have KN:=Hd (fun(W:World)=>Yc (d1:Int) W);generalize Zo (d1:Int)=kk at *;replace hk:=Hd hk;have hge:¬((a:Int)>=(s.length:Int)):=by omega
  clear hU;go_enter Tryz.func110,Tryz.ntmps110;go_upto_region 3 with(go_quiet (fail));refine wp_region_any (by kernel_rfl) ?_
  change wpAny _ _ _ _ _ _ _ (World.drew _)
  refine Za (i:=0) (op:=Op.move (Operand.tmp 0)) (t:=125) (d:=some 16) (v:=_) rfl (by decide +kernel) (fun _ _ _ h=>h) (by intro _;unfold Zb;go_simp;try with_reducible rfl) ?_
  try simp only[lay]
  refine Za (i:=1) (op:=Op.nilCheck (Operand.tmp 16)) (t:=0) (d:=some 17) (v:=_) rfl (by decide +kernel) (fun _ _ _ h=>h) (by intro _;unfold Zb;go_simp;try with_reducible rfl) ?_
  try simp only[lay]
  refine Za (i:=2) (op:=Op.fieldAddr 127 (Operand.tmp 17) 0) (t:=0) (d:=some 18) (v:=_) rfl (by decide +kernel) (fun _ _ _ h=>h) (by intro _;unfold Zb;go_simp;try with_reducible rfl) ?_
  try simp only[lay]
  refine Za (i:=4) (op:=Op.move (Operand.tmp 0)) (t:=125) (d:=some 20) (v:=_) rfl (by decide +kernel) (fun _ _ _ h=>h) (by intro _;unfold Zb;go_simp;try with_reducible rfl) ?_
  try simp only[lay]
  refine Za (i:=5) (op:=Op.nilCheck (Operand.tmp 20)) (t:=0) (d:=some 21) (v:=_) rfl (by decide +kernel) (fun _ _ _ h=>h) (by intro _;unfold Zb;go_simp;try with_reducible rfl) ?_
  try simp only[lay]
  refine Za (i:=6) (op:=Op.fieldAddr 127 (Operand.tmp 21) 1) (t:=0) (d:=some 22) (v:=_) rfl (by decide +kernel) (fun _ _ _ h=>h) (by intro _;unfold Zb;go_simp;try with_reducible rfl) ?_
  try simp only[lay]
  refine Zr (n:=7) [(3,some 19),(7,some 23)] (fun | 3=>.string ⟨s.toArray⟩ | 7=>.int .i64 (a:Int) | _=>undef) #[true,true,true,true,true,true,true,true,false,false,false,false,false,false,false] (by decide +kernel) ?_ ?_
  ·intro pS hpm uS hD K hK
   simp only[List.mem_cons,List.not_mem_nil,or_false] at hpm;rcases hpm with rfl | rfl
   ·exact Zs (T:=9) (x:=Operand.tmp 18) (t:=9) (d:=some 19) rfl (.pointer (some ⟨g,0,none⟩)) (by kernel_rfl) (.string ⟨s.toArray⟩) (by go_simp) hK
   ·exact Zs (T:=3) (x:=Operand.tmp 22) (t:=3) (d:=some 23) rfl (.pointer (some ⟨g,1,none⟩)) (by kernel_rfl) (.int .i64 (a:Int)) (by go_simp) hK
  simp only[Zd,Act.put,List.setIfInBounds_toArray,List.set_cons_zero,List.set_cons_succ];refine Z1 (i:=8) (op:=Op.slice 9 (Operand.tmp 19) (some (Operand.tmp 23)) none none) (t:=9) (d:=some 24) (v:=.string ⟨(s.drop a).toArray⟩) rfl (by decide +kernel) (by decide +kernel) (by decide +kernel) (fun _ _ _ h=>h) ?_ ?_
  ·(intro _;unfold Zb;go_simp;skip)
  try simp only[lay]
  refine Zm 9 (by decide +kernel) (Z0 (f:=179) (xs:=#[Operand.tmp 24]) (ts:=#[9]) (t:=290) (d:=some 25) rfl #[.string ⟨(s.drop a).toArray⟩] (by go_simp) (by kernel_rfl) _ (DC.out _ (((Ext.rf _).drewN _).drew)) ?_);rintro e w1 ⟨rfl,x1⟩;have X1:=Hd (Ext.tr (a:=w) XI x1);clear x1;refine⟨_,rfl,?_⟩
  try simp only[lay]
  refine Za (i:=10) (op:=Op.move (Operand.tmp 25)) (t:=290) (d:=some 15) (v:=_) rfl (by decide +kernel) (fun _ _ _ h=>h) (by intro _;unfold Zb;go_simp;try with_reducible rfl) ?_
  try simp only[lay]
  refine Za (i:=11) (op:=Op.extract (Operand.tmp 15) 0) (t:=21) (d:=some 26) (v:=_) rfl (by decide +kernel) (fun _ _ _ h=>h) (by intro _;unfold Zb;go_simp;try with_reducible rfl) ?_
  try simp only[lay]
  refine Za (i:=12) (op:=Op.extract (Operand.tmp 15) 1) (t:=3) (d:=some 27) (v:=_) rfl (by decide +kernel) (fun _ _ _ h=>h) (by intro _;unfold Zb;go_simp;try with_reducible rfl) ?_
  try simp only[lay]
  refine Za (i:=13) (op:=Op.assign (Operand.tmp 26)) (t:=21) (d:=some 3) (v:=_) rfl (by decide +kernel) (fun _ _ _ h=>h) (by intro _;unfold Zb;go_simp;try with_reducible rfl) ?_
  try simp only[lay]
  refine Za (i:=14) (op:=Op.assign (Operand.tmp 27)) (t:=3) (d:=some 4) (v:=_) rfl (by decide +kernel) (fun _ _ _ h=>h) (by intro _;unfold Zb;go_simp;try with_reducible rfl) ?_
  try simp only[lay]
  refine wpAny_done (by kernel_rfl) ?_ _;go_simp;go_wp2_with (fail);refine(KN.out _).mono ?_;rintro e w2 ⟨rfl,x2⟩;go_wp2_with (fail);go_ret;exact⟨rfl,X1.out.tr (Ext.tr XI x2)⟩
 ·have hk:Zc s a=1:=by unfold Zc;rw[List.getElem?_eq_none (by omega)]
  rw[hk];have hge:(a:Int)>=(s.length:Int):=by omega
  clear hU hk;go_enter Tryz.func110,Tryz.ntmps110;go_wp2_with (go_quiet (fail));go_ret;exact⟨rfl,XI⟩
open Go.Deep Go.Lib
theorem ZX (l:Txt)(n:Nat) : (⟨l.toArray⟩:ByteArray).extract 0 n=⟨(l.take n).toArray⟩:=by
 apply ByteArray.ext;apply Array.ext';rw[Lib.extract_data];simp
theorem XE : ∀ m:Fin 19,(10:Int)^(m:Nat)<=1000000000000000000:=by decide
theorem Yd (s:ByteArray)(p:Nat)(h:p<s.size)(hk:ZK (s[p]'h)≠0) : Utf8.decode s p=((s[p]'h).toNat,1):=by
 by_cases h8:(s[p]'h).toNat<128
 ·exact decode_ascii s p h h8
 ·exact absurd (ZN (by omega)) hk
theorem Xs (l:Txt)(w:World)(hl:l.length<4294967281) :
  Calls Tryz.prog 237 #[.string ⟨l.toArray⟩] w fun e w'=>e=.returned (.int .i64 ((Zq l).length:Nat))/\Ext w w':=by
 have hsz:=Zi l;have hA:Hid (∀ (k:Nat) (hk:k<(⟨l.toArray⟩:ByteArray).size),l[k]?=some ((⟨l.toArray⟩:ByteArray)[k]'hk)):=Hd fun k hk=>Z6 l k hk
 have hH:Hid ((⟨l.toArray⟩:ByteArray).size=l.length):=Hd hsz;have hr:=Hd (Y7 (s:=l));generalize hs:(⟨l.toArray⟩:ByteArray)=s at *;have hK0:=World.iter_heap w s 0;have hX0:Ext w (w.iter s 0):=(Ext.rf w).alloc _;go_enter Tryz.func237,Tryz.ntmps237;go_wp2;go_loopw [3,4] (fun _ _ wr=>∃ pos:Nat,pos<=s.size/\wr.heap[w.heap.size]?=some (.stringIter s pos)/\Hid (∀ j,j<pos->∀ c,l[j]?=some c->isD c=true)/\Ext w wr)
  (fun _ _ wr=>s.size-wr.iterPos w.heap.size)
 case atStart=>exact⟨0,Nat.zero_le _,hK0,Hd (fun j hj=>absurd hj (Nat.not_lt_zero _)),hX0⟩
 case round =>
  obtain⟨pos,hps,hk,hd,hx⟩:=hrel;clear hK0 hX0
  by_cases hpl:pos<s.size
  ·have hc:=hA.out pos hpl
   have hnext:∀ ty,(Instr.next (.pointer (some ⟨w.heap.size,0,none⟩)) true ty).run Tryz.prog wr=_:=fun ty=>Lib.run_next_any_at wr w.heap.size s pos ty hk hpl
   have hdk:=ZH s pos hpl;have hd1:=Yd s pos hpl;obtain⟨rr,wd,hdec⟩:∃ rr wd,Utf8.decode s pos=(rr,wd):=⟨_,_,rfl⟩;rw[hdec] at hnext hdk hd1;simp only at hnext hdk;have hk1:=Lib.iterAt_heap wr w.heap.size s pos (pos+wd) hk;have hx1:Ext w (wr.iterAt w.heap.size s (pos+wd)):=Zy hx (Nat.le_refl _) s (pos+wd);have hmu:wr.iterPos w.heap.size=pos:=by simp[World.iterPos,hk]
   have KN:=Hd (fun(W:World)=>Yc (rr:Int) W);have hkd:=Hd (YU (s[pos]'hpl));have hcH:=Hd hc;have hdkH:=Hd hdk;have hd1H:=Hd hd1;clear hc hdk hd1 hdec;generalize s[pos]'hpl=b at *;generalize wr.iterAt w.heap.size s (pos+wd)=W1 at hnext hk1 hx1;go_wp2_with (fail);refine(KN.out _).mono ?_;rintro e W2 ⟨rfl,x2⟩;have hk2:W2.heap[w.heap.size]?=some (.stringIter s (pos+wd)):=(x2.block _ (Array.getElem?_eq_some_iff.1 hk1).1).trans hk1;have hx2:Ext w W2:=Ext.tr hx1 x2
   by_cases hD:Zo (rr:Int)=2
   ·rw[hD]
    have hb2:ZK b=2:=hdkH.out.symm.trans hD;have hw1:wd=1:=congrArg Prod.snd (hd1H.out (by rw[hb2];decide));have hDH:=Hd (hkd.out.1 hb2);subst hw1;clear hD hb2;go_wp2_with (fail);go_roundw
    case rel =>
     refine⟨pos+1,by omega,hk2,Hd fun j hj c hc=>?_,hx2⟩
     by_cases he:j=pos
     ·subst he
      have:=hcH.out.symm.trans hc;simp at this;subst this;exact hDH.out
     ·exact hd.out j (by omega) c hc
    case measure =>
     have hmu2:W2.iterPos w.heap.size=pos+1:=by simp[World.iterPos,hk2]
     rw[hmu,hmu2];omega
   ·have hne:(Zo (rr:Int)==2)=false:=beq_eq_false_iff_ne.2 hD
    have hDH:Hid (isD b=false):=Hd (Bool.eq_false_iff.2 fun h=>hD (hdkH.out.trans (hkd.out.2 h)));have hst:=Hd (YV hd.out hcH.out hDH.out);generalize Zo (rr:Int)=kc at *;clear hD;go_wp2_with (fail);go_ret;rw[hst.out.1];exact⟨rfl,hx2⟩
  ·have hnext:∀ ty,(Instr.next (.pointer (some ⟨w.heap.size,0,none⟩)) true ty).run Tryz.prog wr=_:=fun ty=>Lib.run_next_end_at wr w.heap.size s pos ty hk hpl
   have he:Hid (Zq l=l):=Hd (hr.out fun b hb=>by
    obtain⟨j,hj,rfl⟩:=List.mem_iff_getElem.1 hb;exact hd.out j (by omega) _ (List.getElem?_eq_getElem hj))
   go_wp2_with (fail);go_ret;rw[he.out];exact⟨rfl,hx⟩
theorem YJ (s0:Txt)(a:Nat)(w:World)(ha:a<=s0.length)(hl:s0.length<=70000) :
  Calls Tryz.prog 174 #[.string ⟨s0.toArray⟩,.int .i64 (a:Int)] w fun e w'=>e=.returned (.tuple #[.int .i64 (Zf s0 a).1,.int .i64 (Zf s0 a).2.1,.int .i64 (Zf s0 a).2.2])/\Ext w w':=by
 have hsz:=Zi s0;have hds:(s0.drop a).length<=70000:=by rw[List.length_drop];omega
 have RN:=Hd (fun(W:World)=>Xs (s0.drop a) W (by omega));have hE:=Zu s0 a;have hT:=ZX (s0.drop a) (Zq (s0.drop a)).length;rw[YW] at hT;have hn1:=Z3 (s0.drop a);have hdz:=Zi (s0.drop a);have hD:Hid (∀ b∈Zq (s0.drop a),isD b=true):=Hd (Y8 _);rw[hsz] at hE;unfold Zf;have ga:¬((a:Int)>(s0.length:Int)):=by omega
 have ga2:(a:Int)<=(s0.length:Int):=by omega
 have g0:(0:Int)<=(a:Int):=by omega
 have g1:¬((a:Int)<0):=by omega
 generalize Zq (s0.drop a)=D at *
 cases D with
 | nil =>
  go_enter Tryz.func174,Tryz.ntmps174;go_wp2_with (go_at_call 237;refine(RN.out _).mono ?_;rintro e w1 ⟨rfl,x1⟩);go_ret3;exact⟨rfl,by(repeat (first | assumption | exact Ext.rf _ | apply Ext.drew | apply Ext.drewN | apply Ext.alloc))⟩
 | cons b r =>
  rw[YE];have hn:Hid ((b::r).length=r.length+1):=Hd rfl;generalize (b::r).length=n at *;have hidx:∀ h,(⟨(b::r).toArray⟩:ByteArray)[0]'h=b:=fun _=>rfl
  by_cases c2:0<r.length/\b=48
  ·rw[if_pos c2]
   obtain⟨h2,rfl⟩:=c2;go_enter Tryz.func174,Tryz.ntmps174;go_wp2_with (go_at_call 237;refine(RN.out _).mono ?_;rintro e w1 ⟨rfl,x1⟩);go_ret3;exact⟨rfl,by(repeat (first | assumption | exact Ext.rf _ | apply Ext.drew | apply Ext.drewN | apply Ext.alloc))⟩
  ·rw[if_neg c2]
   by_cases c3:17<r.length
   ·rw[if_pos c3]
    have hb:Hid (b≠48):=Hd fun h=>c2 ⟨by omega,h⟩
    have hb2:((b.toNat:Int)==48)=false:=beq_eq_false_iff_ne.2 fun h=>hb.out (UInt8.toNat_inj.1 (by simp;omega))
    clear c2;go_enter Tryz.func174,Tryz.ntmps174;go_wp2_with (go_at_call 237;refine(RN.out _).mono ?_;rintro e w1 ⟨rfl,x1⟩);go_ret3;exact⟨rfl,by(repeat (first | assumption | exact Ext.rf _ | apply Ext.drew | apply Ext.drewN | apply Ext.alloc))⟩
   ·rw[if_neg c3]
    have hv:Hid (∀ k,k<=r.length+1->0<=ZF ((b::r).take k)/\ZF ((b::r).take k)<1000000000000000000):=Hd fun k hk=>by
     obtain⟨v1,v2⟩:=YF ((b::r).take k) (fun x hx=>hD.out x (List.mem_of_mem_take hx));refine⟨v1,Int.lt_of_lt_of_le v2 ?_⟩;have h18:((b::r).take k).length<19:=by rw[List.length_take,List.length_cons];omega
     exact XE ⟨_,h18⟩
    have hA:Hid (∀ (k:Nat) (hk:k<(⟨(b::r).toArray⟩:ByteArray).size),((⟨(b::r).toArray⟩:ByteArray)[k]'hk).toNat<128/\(b::r)[k]?=some ((⟨(b::r).toArray⟩:ByteArray)[k]'hk)/\isD ((⟨(b::r).toArray⟩:ByteArray)[k]'hk)=true):=Hd fun k hk=>by
     have h1:=Z6 (b::r) k hk;have h2:=hD.out _ (List.mem_of_getElem? h1);refine⟨?_,h1,h2⟩;unfold isD at h2;simp only[Bool.and_eq_true,decide_eq_true_eq] at h2;omega
    have hL:Hid ((⟨(b::r).toArray⟩:ByteArray).size=r.length+1/\(b::r).length=r.length+1):=Hd ⟨by simp[Lib.size_eq],rfl⟩;have hb:Hid (r.length≠0->b≠48):=Hd fun h1 h=>c2 ⟨by omega,h⟩
    clear c2 hD;generalize hDD:b::r=D at *;generalize hs:(⟨D.toArray⟩:ByteArray)=s at *
    by_cases c4:r.length=0
    ·have hsz1:s.size=1:=by rw[hL.out.1,c4]
     have hem:s.toList.isEmpty=false:=by rw[<-hs,<-hDD,Lib.toList_data];rfl
     go_enter Tryz.func174,Tryz.ntmps174;go_wp2_with (go_at_call 237;refine(RN.out _).mono ?_;rintro e w1 ⟨rfl,x1⟩);have hK0:=World.iter_heap w1 s 0;have hX0:Ext w (w1.iter s 0):=Ext.alloc (by(repeat (first | assumption | exact Ext.rf _ | apply Ext.drew | apply Ext.drewN | apply Ext.alloc))) _;have hg:w.heap.size<=w1.heap.size:=x1.size;obtain⟨g,hgw⟩:∃ g,w1.heap.size=g:=⟨_,rfl⟩;rw[hgw] at hK0 hg ⊢;go_loopw [4,9] (fun a _ wr=>∃ pos:Nat,pos<=s.size/\a=.int .i64 (ZF (D.take pos))/\wr.heap[g]?=some (.stringIter s pos)/\Ext w wr)
      (fun _ _ wr=>s.size-wr.iterPos g)
     case atStart=>exact⟨0,Nat.zero_le _,rfl,hK0,hX0⟩
     case round =>
      obtain⟨pos,hps,rfl,hk,hx⟩:=hrel;clear hK0 hX0
      by_cases hpl:pos<s.size
      ·obtain⟨h128,hc,hdig⟩:=hA.out pos hpl
       have hnext:∀ ty,(Instr.next (.pointer (some ⟨g,0,none⟩)) true ty).run Tryz.prog wr=_:=fun ty=>Lib.run_next_ascii_at wr g s pos ty hk hpl h128
       have hk1:=Lib.iterAt_heap wr g s pos (pos+1) hk;have hx1:Ext w (wr.iterAt g s (pos+1)):=Zy hx hg s (pos+1);have hmu:wr.iterPos g=pos:=by simp[World.iterPos,hk]
       have hv1:=hv.out pos;have hv2:=hv.out (pos+1);have htk:D.take (pos+1)=D.take pos++[s[pos]'hpl]:=by rw[List.take_add_one,hc];rfl
       rw[htk,ZI] at hv2;have hd1:48<=(s[pos]'hpl).toNat/\(s[pos]'hpl).toNat<=57:=by
        unfold isD at hdig
        simpa [Bool.and_eq_true,decide_eq_true_eq] using hdig
       have hvs:=Hd (show ZF (D.take (pos+1))=ZF (D.take pos)*10+(((s[pos]'hpl).toNat:Int)-48) by rw[htk,ZI]);clear htk hc hdig;generalize s[pos]'hpl=x at *;generalize ZF (D.take pos)=v at *;generalize wr.iterAt g s (pos+1)=W1 at hnext hk1 hx1;obtain⟨hv3,hv4⟩:=hv2 (by have:=hL.out;omega);obtain⟨hv5,hv6⟩:=hv1 (by have:=hL.out;omega);clear hv1 hv2;obtain⟨hd2,hd3⟩:=hd1;go_wp2_with (fail);have hmu2:W1.iterPos g=pos+1:=by simp[World.iterPos,hk1]
       exact⟨⟨pos+1,by omega,by rw[hvs.out],hk1,hx1⟩,by rw[hmu,hmu2];omega⟩
      ·have hnext:∀ ty,(Instr.next (.pointer (some ⟨g,0,none⟩)) true ty).run Tryz.prog wr=_:=fun ty=>Lib.run_next_end_at wr g s pos ty hk hpl
       have hall:D.take pos=D:=List.take_of_length_le (by have:=hL.out;omega);rw[hall];go_wp2_with (fail);go_ret3;refine⟨?_,hx⟩
       first
        | rfl
        | (simp;done)
        | (simp[c4];done)
        | (rw[c4] at hn;simp[hn.out];done)
    ·have hb2:((b.toNat:Int)==48)=false:=beq_eq_false_iff_ne.2 fun h=>hb.out c4 (UInt8.toNat_inj.1 (by simp;omega))
     have hsz1:s.size=r.length+1:=hL.out.1;have hem:s.toList.isEmpty=false:=by rw[<-hs,<-hDD,Lib.toList_data];rfl
     have hidx2:∀ h,s[0]'h=b:=by subst hs;subst hDD;exact fun _=>rfl
     go_enter Tryz.func174,Tryz.ntmps174;go_wp2_with (go_at_call 237;refine(RN.out _).mono ?_;rintro e w1 ⟨rfl,x1⟩);have hK0:=World.iter_heap w1 s 0;have hX0:Ext w (w1.iter s 0):=Ext.alloc (by(repeat (first | assumption | exact Ext.rf _ | apply Ext.drew | apply Ext.drewN | apply Ext.alloc))) _;have hg:w.heap.size<=w1.heap.size:=x1.size;obtain⟨g,hgw⟩:∃ g,w1.heap.size=g:=⟨_,rfl⟩;rw[hgw] at hK0 hg ⊢;go_loopw [4,9] (fun a _ wr=>∃ pos:Nat,pos<=s.size/\a=.int .i64 (ZF (D.take pos))/\wr.heap[g]?=some (.stringIter s pos)/\Ext w wr)
      (fun _ _ wr=>s.size-wr.iterPos g)
     case atStart=>exact⟨0,Nat.zero_le _,rfl,hK0,hX0⟩
     case round =>
      obtain⟨pos,hps,rfl,hk,hx⟩:=hrel;clear hK0 hX0
      by_cases hpl:pos<s.size
      ·obtain⟨h128,hc,hdig⟩:=hA.out pos hpl
       have hnext:∀ ty,(Instr.next (.pointer (some ⟨g,0,none⟩)) true ty).run Tryz.prog wr=_:=fun ty=>Lib.run_next_ascii_at wr g s pos ty hk hpl h128
       have hk1:=Lib.iterAt_heap wr g s pos (pos+1) hk;have hx1:Ext w (wr.iterAt g s (pos+1)):=Zy hx hg s (pos+1);have hmu:wr.iterPos g=pos:=by simp[World.iterPos,hk]
       have hv1:=hv.out pos;have hv2:=hv.out (pos+1);have htk:D.take (pos+1)=D.take pos++[s[pos]'hpl]:=by rw[List.take_add_one,hc];rfl
       rw[htk,ZI] at hv2;have hd1:48<=(s[pos]'hpl).toNat/\(s[pos]'hpl).toNat<=57:=by
        unfold isD at hdig
        simpa [Bool.and_eq_true,decide_eq_true_eq] using hdig
       have hvs:=Hd (show ZF (D.take (pos+1))=ZF (D.take pos)*10+(((s[pos]'hpl).toNat:Int)-48) by rw[htk,ZI]);clear htk hc hdig;generalize s[pos]'hpl=x at *;generalize ZF (D.take pos)=v at *;generalize wr.iterAt g s (pos+1)=W1 at hnext hk1 hx1;obtain⟨hv3,hv4⟩:=hv2 (by have:=hL.out;omega);obtain⟨hv5,hv6⟩:=hv1 (by have:=hL.out;omega);clear hv1 hv2;obtain⟨hd2,hd3⟩:=hd1;go_wp2_with (fail);have hmu2:W1.iterPos g=pos+1:=by simp[World.iterPos,hk1]
       exact⟨⟨pos+1,by omega,by rw[hvs.out],hk1,hx1⟩,by rw[hmu,hmu2];omega⟩
      ·have hnext:∀ ty,(Instr.next (.pointer (some ⟨g,0,none⟩)) true ty).run Tryz.prog wr=_:=fun ty=>Lib.run_next_end_at wr g s pos ty hk hpl
       have hall:D.take pos=D:=List.take_of_length_le (by have:=hL.out;omega);rw[hall];go_wp2_with (fail);go_ret3;exact⟨rfl,hx⟩
theorem Yw (s:ByteArray)(p:Nat) : (Utf8.decode s p).2<=4:=by
 simp only[Utf8.decode]
 repeat' split
 all_goals simp_all
theorem YZ (l:Txt)(a:Int)(w:World)(hl:l.length<=70000) :
  Calls Tryz.prog 21 #[.string ⟨l.toArray⟩,.int .i64 a] w fun e w'=>e=.returned (.tuple #[.int .i64 (Zt l a).1,.int .i64 (Zt l a).2])/\Ext w w':=by
 have hsz:=Zi l;have START:Hid (PlaceAt (Zt l a) ⟨l.toArray⟩ a 0 1 1):=Hd ⟨l.length+1,by rw[hsz];omega,rfl⟩;have hsz2:(⟨l.toArray⟩:ByteArray).size<=70000:=by omega
 generalize Zt l a=RES at *;obtain⟨R1,R2⟩:=RES;clear hsz;generalize hs:(⟨l.toArray⟩:ByteArray)=s at *;have hK0:=World.iter_heap w s 0;have hX0:Ext w (w.iter s 0):=(Ext.rf w).alloc _;go_enter Tryz.func21,Tryz.ntmps21;go_wp2;go_loopw [4,5,6,7] (fun v u _ _ wr=>∃ (pos:Nat) (L C:Int),v=.int .i64 L/\u=.int .i64 C/\1<=L/\L<=pos+1/\1<=C/\C<=pos+1/\pos<=4*s.size+4/\wr.heap[w.heap.size]?=some (.stringIter s pos)/\Hid (PlaceAt (R1,R2) s a pos L C)/\Ext w wr)
  (fun _ _ _ _ wr=>s.size-wr.iterPos w.heap.size)
 case atStart=>exact⟨0,1,1,rfl,rfl,by omega,by omega,by omega,by omega,by omega,hK0,START,hX0⟩
 case round =>
  obtain⟨pos,L,C,rfl,rfl,l1,l2,c1,c2,hps,hk,hd,hx⟩:=hrel;clear hK0 hX0;have hmu:wr.iterPos w.heap.size=pos:=by simp[World.iterPos,hk]
  by_cases hpl:pos<s.size
  ·have hnext:∀ ty,(Instr.next (.pointer (some ⟨w.heap.size,0,none⟩)) true ty).run Tryz.prog wr=_:=fun ty=>Lib.run_next_any_at wr w.heap.size s pos ty hk hpl
   have hw1:=YI s pos hpl;have hw4:=Yw s pos;have BR:=Hd (fun h1 h2=>hd.out.br hpl h1 hw1 h2);have SG:=Hd (fun h1 h2=>hd.out.sign hpl h1 hw1 h2);obtain⟨rr,wd,hdec⟩:∃ rr wd,Utf8.decode s pos=(rr,wd):=⟨_,_,rfl⟩;rw[hdec] at hnext hw1 hw4 BR SG;simp only at hnext hw1 hw4 BR SG;have hk1:=Lib.iterAt_heap wr w.heap.size s pos (pos+wd) hk;have hx1:Ext w (wr.iterAt w.heap.size s (pos+wd)):=Zy hx (Nat.le_refl _) s (pos+wd);clear hdec;generalize wr.iterAt w.heap.size s (pos+wd)=W1 at hnext hk1 hx1;have hmu2:W1.iterPos w.heap.size=pos+wd:=by simp[World.iterPos,hk1]
   by_cases h2:(pos:Int)<a
   ·have e1:¬((pos:Int)>=a):=by omega
    by_cases h3:rr=10
    ·subst h3
     have hd2:=Hd (BR.out h2 rfl);clear BR SG hd;go_wp2_with (fail);go_roundw
     case rel=>exact⟨pos+wd,L+1,1,by go_num,rfl,by omega,by omega,by omega,by omega,by omega,hk1,hd2,hx1⟩
     case measure=>rw[hmu,hmu2];omega
    ·have e3:((rr:Int)==10)=false:=by rw[beq_eq_false_iff_ne];omega
     have hd2:=Hd (SG.out h2 h3);clear BR SG hd;go_wp2_with (fail);go_roundw
     case rel=>exact⟨pos+wd,L,C+1,rfl,by go_num,by omega,by omega,by omega,by omega,by omega,hk1,hd2,hx1⟩
     case measure=>rw[hmu,hmu2];omega
   ·have e1:(pos:Int)>=a:=by omega
    have RE:=Hd (hd.out.fin (.inr (by omega)));clear BR SG hd;go_wp2_with (fail);go_ret2;obtain⟨rfl,rfl⟩:=Prod.mk.inj RE.out;exact⟨rfl,hx1⟩
  ·have hnext:∀ ty,(Instr.next (.pointer (some ⟨w.heap.size,0,none⟩)) true ty).run Tryz.prog wr=_:=fun ty=>Lib.run_next_end_at wr w.heap.size s pos ty hk hpl
   have RE:=Hd (hd.out.fin (.inl (by omega)));clear hd;go_wp2_with (fail);go_ret2;obtain⟨rfl,rfl⟩:=Prod.mk.inj RE.out;exact⟨rfl,hx⟩
section
variable {P:Program} {ops:Array Oper} {Q:Exit->Act->World->Prop}
theorem ZY (rem:List (Nat×Option Tmp))(R:World->Prop)(V:Nat->Value->World->Prop)(Stab:World->World->Prop){listed0:Array Bool}(listed1:Array Bool)(hok:ZR ops listed0 listed1 rem=true)
  (stab:∀ j v w w',V j v w->Stab w w'->V j v w')
  {a0:Act}
  (step:∀ p∈rem,∀ u w,R w->(∀ j∈ZB ops rem p.1,V j (u j) w)->∀ K:Act->World->Prop,(∀ v w',V p.1 v w'->R w'->Stab w w'->K ((Zd a0 rem u).put p.2 v) w')->wpOp P ops Q p.1 K (Zd a0 rem u) w)
  (n:Nat) (done:∀ u w,R w->(∀ p∈rem,V p.1 (u p.1) w)->wpAny P .any ops Q n listed1 (Zd a0 rem u) w) {w0:World} (hR:R w0) :
  wpAny P .any ops Q (rem.length+n) listed0 a0 w0 :=
 Ya rem R V Stab listed1 hok stab step n done hR
end
end
section
open Go.Deep
section
variable {w w':World} {base:Nat} {us:List Value} {rows:List (List Int)}
end
theorem OwV.grownT {w w':World}{base size n c:Nat}{E:TypeId}{A:Option Addr}{xs:List Value}(h:OwV w base E size A n c xs)(hg:w.grownBy w' (bl A)) : ModT base [E] w w':=by
 refine Mod.grown hg fun g hA=>?_
 rcases h.cases with⟨rfl,_⟩ | ⟨g',cur,rfl,hb,hh,_⟩
 ·simp[bl] at hA
 ·simp[bl] at hA
  subst hA;exact⟨hb,cur,_,hh,by simp⟩
theorem Zl {W W':World}(x:Ext W W'){b o:Nat}{v:Value}(hb:b<W.heap.size)(hc:W.cell? ⟨b,o,none⟩=some v) : W'.cell? ⟨b,o,none⟩=some v:=(x.cells.1 _ o hb).trans hc
section
variable {P:Program} {ops:Array Oper} {i:Nat} {op:Op} {t:TypeId} {d:Option Tmp} {a:Act} {w w':World} {K:Act->World->Prop} {Q:Exit->Act->World->Prop}
end
end
section
open Go.Deep
theorem YK (l:Txt) : if (Zk l=l.length) then Lib.indexByte l 10=-1 else Lib.indexByte l 10=Zk l:=by
 induction l with
 | nil=>simp[Zk,Lib.indexByte]
 | cons b l ih =>
  by_cases hb:b=10
  ·subst hb
   have h0:Zk (10::l)=0:=by unfold Zk;rw[List.takeWhile_cons_of_neg (by decide)];rfl
   rw[h0,if_neg (by simp)];simp[Lib.indexByte]
  ·have h1:Zk (b::l)=Zk l+1:=by unfold Zk;rw[List.takeWhile_cons_of_pos (by simp[Y9,hb])];rfl
   have e1:(b==10)=false:=by simpa using hb
   rw[h1,List.length_cons];unfold Lib.indexByte;rw[e1]
   by_cases h:Zk l=l.length
   ·rw[if_pos h] at ih
    rw[if_pos (by omega),ih]
    rfl
   ·rw[if_neg h] at ih
    have e2:((Zk l:Int)==-1)=false:=by rw[beq_eq_false_iff_ne];omega
    rw[if_neg (by omega),ih,e2];simp
def XF (t:Tok) : List Value:=[.int .i64 t.kind,.string ⟨t.text.toArray⟩,.int .i64 t.num,.int .i64 t.at_]
def ZL (l:List Tok) : List Value:=l.flatMap XF
theorem Ye (l:List Tok)(t:Tok) : ZL (l++[t])=ZL l++XF t:=by simp[ZL]
theorem Yx : (Tryz.prog.info? 129).map (fun i=>(i.zero,i.size,i.bytes))=some (some (.agg #[.int .i64 0,.string ⟨#[]⟩,.int .i64 0,.int .i64 0]),4,40):=by kernel_rfl
abbrev TS : List TypeId:=[127,129]
def ScR (w:World)(base g:Nat)(s:Txt)(a:Nat)(l:List Tok) : Prop:=∃ L c,ScB w g s a L l.length c/\base<=g/\OwV w base 129 4 L l.length c (ZL l)
theorem ScR.ext {w w':World}{base g a:Nat}{s:Txt}{l:List Tok}(h:ScR w base g s a l)(x:Ext w w') : ScR w' base g s a l:=by
 obtain⟨L,c,h1,h2,h3⟩:=h;exact⟨L,c,Blk.ext h1 x,h2,h3.ext x⟩
theorem ScR.set {w:World}{base g a:Nat}{s:Txt}{l:List Tok}(h:ScR w base g s a l)(b:Nat) : ScR (w.setCell ⟨g,1,none⟩ (.int .i64 (b:Int))) base g s b l/\ModT base TS w (w.setCell ⟨g,1,none⟩ (.int .i64 (b:Int))):=by
 obtain⟨L,c,h1,h2,h3⟩:=h;have M:=ModT.set (ts:=TS) (base:=base) w h1 (by simp) h2 1 (.int .i64 (b:Int));have M1:=ModT.set (ts:=[127]) (base:=base) w h1 (by simp) h2 1 (.int .i64 (b:Int));exact⟨⟨L,c,Blk.set h1 1 _,h2,h3.modT M1 (by decide)⟩,M⟩
def Zz (base g:Nat)(s:Txt)(r:Nat×Int×List Tok)(l:List Tok)(w:World)(e:Ending)(w':World) : Prop:=e=.returned (.int .i64 r.2.1)/\ScR w' base g s r.1 (l++r.2.2)/\ModT base TS w w'
theorem YL (base g:Nat)(s:Txt)(a:Nat)(l:List Tok)(w:World)(H:ScR w base g s a l)(ha:a<=s.length)(hs:s.length<=70000) :
  Calls Tryz.prog 111 #[.pointer (some ⟨g,0,none⟩)] w fun e w'=>e=.returned (.tuple #[])/\ScR w' base g s (a+Zk (s.drop a)) l/\ModT base TS w w':=by
 have HS:=Hd (fun(W:World) (x:Ext w W) (b:Nat)=>(H.ext x).set b);obtain⟨L,c,h1,h2,h3⟩:=H;have c0:=Blk.c0 h1;have c1:=Blk.c1 h1;have f1:=Blk.free h1 1;have zg:=Blk.lt h1;have hsz:=Zi s;have hx:=Zu s a;rw[hsz] at hx;have IX:=fun(W:World)=>Any.strings_IndexByte XA ⟨(s.drop a).toArray⟩ 10 W
 have hr:=YK (s.drop a);have hdl:(s.drop a).length=s.length-a:=List.length_drop;rw[hdl] at hr;have e10:(10:Int).toNat.toUInt8=10:=rfl;simp only[e10] at IX;have ltn:Zk (s.drop a)<=s.length-a:=by rw[<-hdl];exact ZJ _
 generalize Lib.indexByte (s.drop a) 10=ix at *;generalize Zk (s.drop a)=rn at *;replace IX:=Hd IX;clear h1 h3 hdl;have g0:(0:Int)<=(a:Int):=by omega
 have g1:(a:Int)<=(s.length:Int):=by omega
 go_enter Tryz.func111,Tryz.ntmps111;go_upto_region 0 with(fail);refine wp_region_any (by kernel_rfl) ?_
 change wpAny _ _ _ _ _ _ _ (World.drew _)
 refine Za (i:=0) (op:=Op.move (Operand.tmp 0)) (t:=125) (d:=some 3) (v:=_) rfl (by decide +kernel) (fun _ _ _ h=>h) (by intro _;unfold Zb;go_simp;try with_reducible rfl) ?_
 try simp only[lay]
 refine Za (i:=1) (op:=Op.nilCheck (Operand.tmp 3)) (t:=0) (d:=some 4) (v:=_) rfl (by decide +kernel) (fun _ _ _ h=>h) (by intro _;unfold Zb;go_simp;try with_reducible rfl) ?_
 try simp only[lay]
 refine Za (i:=2) (op:=Op.fieldAddr 127 (Operand.tmp 4) 0) (t:=0) (d:=some 5) (v:=_) rfl (by decide +kernel) (fun _ _ _ h=>h) (by intro _;unfold Zb;go_simp;try with_reducible rfl) ?_
 try simp only[lay]
 refine Za (i:=4) (op:=Op.move (Operand.tmp 0)) (t:=125) (d:=some 7) (v:=_) rfl (by decide +kernel) (fun _ _ _ h=>h) (by intro _;unfold Zb;go_simp;try with_reducible rfl) ?_
 try simp only[lay]
 refine Za (i:=5) (op:=Op.nilCheck (Operand.tmp 7)) (t:=0) (d:=some 8) (v:=_) rfl (by decide +kernel) (fun _ _ _ h=>h) (by intro _;unfold Zb;go_simp;try with_reducible rfl) ?_
 try simp only[lay]
 refine Za (i:=6) (op:=Op.fieldAddr 127 (Operand.tmp 8) 1) (t:=0) (d:=some 9) (v:=_) rfl (by decide +kernel) (fun _ _ _ h=>h) (by intro _;unfold Zb;go_simp;try with_reducible rfl) ?_
 try simp only[lay]
 refine Zr (n:=3) [(3,some 6),(7,some 10)] (fun | 3=>.string ⟨s.toArray⟩ | 7=>.int .i64 (a:Int) | _=>undef) #[true,true,true,true,true,true,true,true,false,false,false] (by decide +kernel) ?_ ?_
 ·intro pS hpm uS hD K hK
  simp only[List.mem_cons,List.not_mem_nil,or_false] at hpm;rcases hpm with rfl | rfl
  ·exact Zs (T:=9) (x:=Operand.tmp 5) (t:=9) (d:=some 6) rfl (.pointer (some ⟨g,0,none⟩)) (by kernel_rfl) (.string ⟨s.toArray⟩) (by go_simp) hK
  ·exact Zs (T:=3) (x:=Operand.tmp 9) (t:=3) (d:=some 10) rfl (.pointer (some ⟨g,1,none⟩)) (by kernel_rfl) (.int .i64 (a:Int)) (by go_simp) hK
 simp only[Zd,Act.put,List.setIfInBounds_toArray,List.set_cons_zero,List.set_cons_succ];refine Z1 (i:=8) (op:=Op.slice 9 (Operand.tmp 6) (some (Operand.tmp 10)) none none) (t:=9) (d:=some 11) (v:=.string ⟨(s.drop a).toArray⟩) rfl (by decide +kernel) (by decide +kernel) (by decide +kernel) (fun _ _ _ h=>h) ?_ ?_
 ·(intro _;unfold Zb;go_simp;skip)
 try simp only[lay]
 refine Zm 9 (by decide +kernel) (Z0 (f:=181) (xs:=#[Operand.tmp 11,Operand.const (Value.int IntKind.u8 10)]) (ts:=#[9,5]) (t:=3) (d:=some 12) rfl #[.string ⟨(s.drop a).toArray⟩,.int .u8 10] (by go_simp) (by kernel_rfl) _ (IX.out _) ?_);rintro e w1 ⟨rfl,rfl⟩;refine⟨_,rfl,?_⟩
 try simp only[lay]
 refine Za (i:=10) (op:=Op.assign (Operand.tmp 12)) (t:=3) (d:=some 2) (v:=_) rfl (by decide +kernel) (fun _ _ _ h=>h) (by intro _;unfold Zb;go_simp;try with_reducible rfl) ?_
 try simp only[lay]
 refine wpAny_done (by kernel_rfl) ?_ _;go_simp;have FIN:Hid (∀ v:Int,v=((a+rn:Nat):Int)->ScR ((w.setCell ⟨g,1,none⟩ (.int .i64 v)).drew) base g s (a+rn) l/\ModT base TS w ((w.setCell ⟨g,1,none⟩ (.int .i64 v)).drew)):=Hd fun v hv=>by
  subst hv;obtain⟨q1,q2⟩:=HS.out w (Ext.rf _) (a+rn);exact⟨q1.ext ((Ext.rf _).drew),q2.tr (ModT.of_ext ((Ext.rf _).drew))⟩
 by_cases h:rn=s.length-a
 ·rw[if_pos h] at hr
  subst hr;have e1:(-1:Int)<0:=by omega
  replace h:=Hd h;go_wp2_with (fail);obtain⟨q1,q2⟩:=FIN.out (s.length:Int) (by have:=h.out;omega);exact bodyPost_ret (v:=.tuple #[]) (by simp[results,Tryz.results111,go_sem]) rfl ⟨rfl,q1,q2⟩
 ·rw[if_neg h] at hr
  subst hr;have e1:¬(rn:Int)<0:=by omega
  clear h;go_wp2_with (fail);go_end0;obtain⟨q1,q2⟩:=FIN.out ((a:Int)+(rn:Int)) (by omega);exact⟨rfl,q1,q2⟩
theorem YR {w3:World}{base g a:Nat}{s:Txt}{l:List Tok}{L:Option Addr}{c:Nat}(hB:ScB w3 g s a L l.length c)(hg:base<=g)(ho:OwV w3 base 129 4 L l.length c (ZL l))(t:Tok)(z:Nat)(hz:Blk w3 z 129 #[.int .i64 t.kind,.string ⟨t.text.toArray⟩,.int .i64 t.num,.int .i64 t.at_])(hb:base<=w3.heap.size)(hl:l.length<=100000) :
  ∃ A4 c4 w4,(Builtin.append_ #[59,59] 59 #[.slice L l.length c,.slice (some ⟨z,0,none⟩) 1 1]).run Tryz.prog w3=.ok (.slice A4 (l.length+1) c4) w4/\w4.cell? ⟨g,2,none⟩=some (.slice L l.length c)/\w4.frozen? ⟨g,2,none⟩=false /\
   Hid (ScR (w4.setCell ⟨g,2,none⟩ (.slice A4 (l.length+1) c4)) base g s a (l++[t]))/\Hid (ModT base TS w3 (w4.setCell ⟨g,2,none⟩ (.slice A4 (l.length+1) c4))):=by
 obtain⟨i0,hi,hz0,hz1,hz2⟩:=info_parts Yx;obtain⟨A4,c4,w4,hrun,o4,g4,_⟩:=Ym w3 (e:=129) Tryz.underlying59 hi hz0 hz1 hz2 (by simp[Value.cells]) (by omega) base 59 L l.length c (ZL l) (some ⟨z,0,none⟩) 1 1 [.int .i64 t.kind,.string ⟨t.text.toArray⟩,.int .i64 t.num,.int .i64 t.at_] ho ((RdV.blk hz).rdC) (by simp) (by simp[Value.oneCell']) (by simp only[maxLen];omega) (by omega) hb;have M4:=ho.grownT g4;have hb4:ScB w4 g s a L l.length c:=Blk.modT hB M4 (by decide);have M5:ModT base [127] w4 (w4.setCell ⟨g,2,none⟩ (.slice A4 (l.length+1) c4)):=ModT.set w4 hb4 (by simp) hg 2 _;have hlen:(l++[t]).length=l.length+1:=by simp
 refine⟨A4,c4,w4,hrun,Blk.cell hb4 2,Blk.free hb4 2,Hd ⟨A4,c4,?_,hg,?_⟩,Hd ((M4.more (Nat.le_refl _) (by simp)).tr (M5.more (Nat.le_refl _) (by simp)))⟩
 ·rw[hlen]
  exact Blk.set hb4 2 _
 ·rw[hlen,Ye]
  exact o4.modT M5 (by decide)
theorem Yf {p:UInt8->Bool} : ∀ (k:Nat) (s:Txt),(∀ j,j<k->∀ c,s[j]?=some c->p c=true)->k<=s.length->(∀ c,s[k]?=some c->p c=false)->(s.takeWhile p).length=k
 | 0,[],_,_,_=>rfl
 | 0,b::s,_,_,h=>by rw[List.takeWhile_cons_of_neg (by simp[h b rfl])];rfl
 | k+1,[],_,h,_=>by simp at h
 | k+1,b::s,h1,h2,h3=>by
  rw[List.takeWhile_cons_of_pos (h1 0 (by omega) b rfl),List.length_cons,Yf k s (fun j hj c hc=>h1 (j+1) (by omega) c (by simpa using hc)) (by simpa using h2) (fun c hc=>h3 c (by simpa using hc))]
theorem YM (base g:Nat)(s:Txt)(a:Nat)(l:List Tok)(w:World)(H:ScR w base g s a l)(hb:base<=w.heap.size)(hl:l.length<=70000)(ha:a<s.length)(hs:s.length<=70000)(w0:World)(hU:UT w0)(X0:Ext w0 w)(h0:w0.heap.size<=base)(h2:Zc s a=2) :
  Calls Tryz.prog 113 #[.pointer (some ⟨g,0,none⟩)] w (Zz base g s (Zj s a) l w):=by
 have RA:=Hd (fun(W:World)=>YJ s a W (by omega) hs);have HS:=Hd (fun(W:World) (lq:List Tok) (h:ScR W base g s a lq) (b:Nat)=>h.set b);have KQ:=Hd (fun(W:World) (b:Nat) (lq:List Tok) (hB:b<=s.length) (hU:UT W) (h:ScR W base g s b lq)=>(show Calls Tryz.prog 110 #[.pointer (some ⟨g,0,none⟩)] W fun e w'=>e=.returned (.int .i64 (Zc s b))/\Ext W w' by obtain⟨L,c,q1,q2,q3⟩:=h;exact ZT g s b L lq.length c W q1 hB hs hU));have OB:(Zf s a).2.2≠0->Zj s a=(a,(Zf s a).2.2,[]):=fun h=>by unfold Zj;rw[h2,if_neg (by decide),if_neg (by decide),if_neg (by decide),if_pos rfl,if_pos h]
 have OG:(Zf s a).2.2=0->Zj s a=((Zf s a).2.1.toNat,if Zc s (Zf s a).2.1.toNat=3 then 2 else 0,[⟨2,[],(Zf s a).1,a⟩]):=fun h=>by unfold Zj;rw[h2,if_neg (by decide),if_neg (by decide),if_neg (by decide),if_pos rfl,if_neg (by simp[h])]
 have RB:(Zf s a).2.2=0->∃ nx:Nat,(Zf s a).2.1=nx/\nx<=s.length:=fun h=>by
  have h8:(Zw (Zq (s.drop a))).2.2=0:=by simpa [Zf] using h
  obtain⟨q1,q2⟩:=Yl h8;have h6:=Z3 (s.drop a);rw[List.length_drop] at h6;refine⟨a+(Zq (s.drop a)).length,?_,by omega⟩;unfold Zf;simp only;rw[if_pos h8,q2];simp
 have HH:=Hd H;obtain⟨L,c,h1,hg,h3⟩:=H;have c0:=Blk.c0 h1;have c1:=Blk.c1 h1;have c2:=Blk.c2 h1;have zg:=Blk.lt h1;have TA:=Hd (fun(W:World) (x:Ext w W) (t:Tok) (z:Nat) (hz:Blk W z 129 #[.int .i64 t.kind,.string ⟨t.text.toArray⟩,.int .i64 t.num,.int .i64 t.at_])=>YR (Blk.ext h1 x) hg (h3.ext x) t z hz (by have:=x.size;omega) (by omega));generalize Zf s a=RR at *;obtain⟨rv,rn,re⟩:=RR;simp only at OB OG RB;clear h1 h3;obtain⟨ln,hln⟩:∃ ln,l.length=ln:=⟨_,rfl⟩;rw[hln] at c2 TA hl;replace hln:=Hd hln;unfold Zz
 by_cases he:re=0
 ·subst he
  obtain⟨nx,rfl,hnx⟩:=RB rfl;rw[OG rfl];simp only[Int.toNat_natCast];obtain⟨er,her⟩:∃ er:Int,Hid ((if Zc s nx=3 then(2:Int) else 0)=er):=⟨_,Hd rfl⟩;rw[her.out];clear OB OG RB h2;go_enter Tryz.func113,Tryz.ntmps113;go_upto_region 1 with(fail);refine wp_region_any (by kernel_rfl) ?_
  change wpAny _ _ _ _ _ _ _ (World.drew _)
  refine Za (i:=0) (op:=Op.move (Operand.tmp 0)) (t:=125) (d:=some 7) (v:=_) rfl (by decide +kernel) (fun _ _ _ h=>h) (by intro _;unfold Zb;go_simp;try with_reducible rfl) ?_
  try simp only[lay]
  refine Za (i:=1) (op:=Op.nilCheck (Operand.tmp 7)) (t:=0) (d:=some 8) (v:=_) rfl (by decide +kernel) (fun _ _ _ h=>h) (by intro _;unfold Zb;go_simp;try with_reducible rfl) ?_
  try simp only[lay]
  refine Za (i:=2) (op:=Op.fieldAddr 127 (Operand.tmp 8) 0) (t:=0) (d:=some 9) (v:=_) rfl (by decide +kernel) (fun _ _ _ h=>h) (by intro _;unfold Zb;go_simp;try with_reducible rfl) ?_
  try simp only[lay]
  refine Za (i:=4) (op:=Op.move (Operand.tmp 0)) (t:=125) (d:=some 11) (v:=_) rfl (by decide +kernel) (fun _ _ _ h=>h) (by intro _;unfold Zb;go_simp;try with_reducible rfl) ?_
  try simp only[lay]
  refine Za (i:=5) (op:=Op.nilCheck (Operand.tmp 11)) (t:=0) (d:=some 12) (v:=_) rfl (by decide +kernel) (fun _ _ _ h=>h) (by intro _;unfold Zb;go_simp;try with_reducible rfl) ?_
  try simp only[lay]
  refine Za (i:=6) (op:=Op.fieldAddr 127 (Operand.tmp 12) 1) (t:=0) (d:=some 13) (v:=_) rfl (by decide +kernel) (fun _ _ _ h=>h) (by intro _;unfold Zb;go_simp;try with_reducible rfl) ?_
  try simp only[lay]
  refine Zr (n:=8) [(3,some 10),(7,some 14)] (fun | 3=>.string ⟨s.toArray⟩ | 7=>.int .i64 (a:Int) | _=>undef) #[true,true,true,true,true,true,true,true,false,false,false,false,false,false,false,false] (by decide +kernel) ?_ ?_
  ·intro pS hpm uS hD K hK
   simp only[List.mem_cons,List.not_mem_nil,or_false] at hpm;rcases hpm with rfl | rfl
   ·exact Zs (T:=9) (x:=Operand.tmp 9) (t:=9) (d:=some 10) rfl (.pointer (some ⟨g,0,none⟩)) (by kernel_rfl) (.string ⟨s.toArray⟩) (by go_simp) hK
   ·exact Zs (T:=3) (x:=Operand.tmp 13) (t:=3) (d:=some 14) rfl (.pointer (some ⟨g,1,none⟩)) (by kernel_rfl) (.int .i64 (a:Int)) (by go_simp) hK
  simp only[Zd,Act.put,List.setIfInBounds_toArray,List.set_cons_zero,List.set_cons_succ];refine Zm 8 (by decide +kernel) (Z0 (f:=174) (xs:=#[Operand.tmp 10,Operand.tmp 14]) (ts:=#[9,3]) (t:=111) (d:=some 15) rfl #[.string ⟨s.toArray⟩,.int .i64 (a:Int)] (by go_simp) (by kernel_rfl) _ (RA.out _) ?_);rintro e w1 ⟨rfl,x1⟩;have X1:=Hd (Ext.tr (a:=w) XI x1);clear x1;refine⟨_,rfl,?_⟩
  try simp only[lay]
  refine Za (i:=9) (op:=Op.move (Operand.tmp 15)) (t:=111) (d:=some 6) (v:=_) rfl (by decide +kernel) (fun _ _ _ h=>h) (by intro _;unfold Zb;go_simp;try with_reducible rfl) ?_
  try simp only[lay]
  refine Za (i:=10) (op:=Op.extract (Operand.tmp 6) 0) (t:=3) (d:=some 16) (v:=_) rfl (by decide +kernel) (fun _ _ _ h=>h) (by intro _;unfold Zb;go_simp;try with_reducible rfl) ?_
  try simp only[lay]
  refine Za (i:=11) (op:=Op.extract (Operand.tmp 6) 1) (t:=3) (d:=some 17) (v:=_) rfl (by decide +kernel) (fun _ _ _ h=>h) (by intro _;unfold Zb;go_simp;try with_reducible rfl) ?_
  try simp only[lay]
  refine Za (i:=12) (op:=Op.extract (Operand.tmp 6) 2) (t:=31) (d:=some 18) (v:=_) rfl (by decide +kernel) (fun _ _ _ h=>h) (by intro _;unfold Zb;go_simp;try with_reducible rfl) ?_
  try simp only[lay]
  refine Za (i:=13) (op:=Op.assign (Operand.tmp 16)) (t:=3) (d:=some 3) (v:=_) rfl (by decide +kernel) (fun _ _ _ h=>h) (by intro _;unfold Zb;go_simp;try with_reducible rfl) ?_
  try simp only[lay]
  refine Za (i:=14) (op:=Op.assign (Operand.tmp 17)) (t:=3) (d:=some 4) (v:=_) rfl (by decide +kernel) (fun _ _ _ h=>h) (by intro _;unfold Zb;go_simp;try with_reducible rfl) ?_
  try simp only[lay]
  refine Za (i:=15) (op:=Op.assign (Operand.tmp 18)) (t:=31) (d:=some 5) (v:=_) rfl (by decide +kernel) (fun _ _ _ h=>h) (by intro _;unfold Zb;go_simp;try with_reducible rfl) ?_
  try simp only[lay]
  refine wpAny_done (by kernel_rfl) ?_ _;go_simp;have d1:=Zl X1.out zg c1;have d2:=Zl X1.out zg c2;have zg1:g<w1.heap.size:=by have:=X1.out.size;omega
  clear c0 c1 c2;go_upto_region 4 with(fail);refine wp_region_any (by kernel_rfl) ?_
  change wpAny _ _ _ _ _ _ _ (World.drew _)
  refine Za (i:=0) (op:=Op.move (Operand.tmp 0)) (t:=125) (d:=some 22) (v:=_) rfl (by decide +kernel) (fun _ _ _ h=>h) (by intro _;unfold Zb;go_simp;try with_reducible rfl) ?_
  try simp only[lay]
  refine Za (i:=1) (op:=Op.move (Operand.tmp 0)) (t:=125) (d:=some 23) (v:=_) rfl (by decide +kernel) (fun _ _ _ h=>h) (by intro _;unfold Zb;go_simp;try with_reducible rfl) ?_
  try simp only[lay]
  refine Za (i:=2) (op:=Op.nilCheck (Operand.tmp 23)) (t:=0) (d:=some 24) (v:=_) rfl (by decide +kernel) (fun _ _ _ h=>h) (by intro _;unfold Zb;go_simp;try with_reducible rfl) ?_
  try simp only[lay]
  refine Za (i:=3) (op:=Op.fieldAddr 127 (Operand.tmp 24) 2) (t:=0) (d:=some 25) (v:=_) rfl (by decide +kernel) (fun _ _ _ h=>h) (by intro _;unfold Zb;go_simp;try with_reducible rfl) ?_
  try simp only[lay]
  refine Za (i:=5) (op:=Op.move (Operand.tmp 3)) (t:=3) (d:=some 27) (v:=_) rfl (by decide +kernel) (fun _ _ _ h=>h) (by intro _;unfold Zb;go_simp;try with_reducible rfl) ?_
  try simp only[lay]
  refine Za (i:=6) (op:=Op.move (Operand.tmp 0)) (t:=125) (d:=some 28) (v:=_) rfl (by decide +kernel) (fun _ _ _ h=>h) (by intro _;unfold Zb;go_simp;try with_reducible rfl) ?_
  try simp only[lay]
  refine Za (i:=7) (op:=Op.nilCheck (Operand.tmp 28)) (t:=0) (d:=some 29) (v:=_) rfl (by decide +kernel) (fun _ _ _ h=>h) (by intro _;unfold Zb;go_simp;try with_reducible rfl) ?_
  try simp only[lay]
  refine Za (i:=8) (op:=Op.fieldAddr 127 (Operand.tmp 29) 1) (t:=0) (d:=some 30) (v:=_) rfl (by decide +kernel) (fun _ _ _ h=>h) (by intro _;unfold Zb;go_simp;try with_reducible rfl) ?_
  try simp only[lay]
  refine ZY (n:=4) [(4,some 26),(9,some 31),(10,some 32),(11,some 33)] (Ext w1) (VF (fun | 4=>some (.slice L ln c) | 9=>some (.int .i64 (a:Int)) | 10=>some (.agg #[.int .i64 2,.string ⟨#[]⟩,.int .i64 rv,.int .i64 (a:Int)]) | _=>none) (fun i v W=>(i=11->∃ z,v=.slice (some ⟨z,0,none⟩) 1 1/\Blk W z 129 #[.int .i64 2,.string ⟨#[]⟩,.int .i64 rv,.int .i64 (a:Int)]))) Ext #[true,true,true,true,true,true,true,true,true,true,true,true,false,false,false,false] (by decide +kernel) (VF.stab ?_) ?_ ?_ (by first | exact(Ext.rf _).drew | exact Ext.rf _)
  ·intro j v W W' _ gz hx
   have g0:=gz;exact fun h=>(g0 h).imp fun z hz=>⟨hz.1,hz.2.ext hx⟩
  ·intro pS hpm uS wS hRW hD K hK
   simp only[List.mem_cons,List.not_mem_nil,or_false] at hpm;rcases hpm with rfl | rfl | rfl | rfl
   ·( have rX:=Zl hRW zg1 d2;exact Zs (T:=59) (x:=Operand.tmp 25) (t:=59) (d:=some 26) rfl (.pointer (some ⟨g,2,none⟩)) (by kernel_rfl) (.slice L ln c) (by go_simp) (hK _ _ (VF.mk rfl) hRW (Ext.rf _)))
   ·( have rX:=Zl hRW zg1 d1;exact Zs (T:=3) (x:=Operand.tmp 30) (t:=3) (d:=some 31) rfl (.pointer (some ⟨g,1,none⟩)) (by kernel_rfl) (.int .i64 (a:Int)) (by go_simp) (hK _ _ (VF.mk rfl) hRW (Ext.rf _)))
   ·(have e9:uS 9=.int .i64 (a:Int):=(hD 9 (ZQ (by kernel_rfl))).k rfl;exact ZE (op:=Op.build 129 #[(0,Operand.const (Value.int IntKind.i64 2)),(2,Operand.tmp 27),(3,Operand.tmp 31)]) (t:=129) (d:=some 32) rfl (.agg #[.int .i64 2,.string ⟨#[]⟩,.int .i64 rv,.int .i64 (a:Int)]) (by simp only[Zd,Act.put,List.setIfInBounds_toArray,List.set_cons_zero,List.set_cons_succ];unfold Zb;(try go_simp);(try simp only[e9]);(try go_simp);(try rfl);(try (exact IntWalk.i64_in _ (by omega)))) (hK _ _ (VF.mk rfl) hRW (Ext.rf _)))
   ·(have e10:uS 10=.agg #[.int .i64 2,.string ⟨#[]⟩,.int .i64 rv,.int .i64 (a:Int)]:=(hD 10 (ZQ (by kernel_rfl))).k rfl;exact ZE (op:=Op.buildSlice 59 1 #[(0,Operand.tmp 32)]) (t:=59) (d:=some 33) rfl _ (by simp only[Zd,Act.put,List.setIfInBounds_toArray,List.set_cons_zero,List.set_cons_succ];unfold Zb;(try go_simp);(try simp only[e10]);(try go_simp);(try rfl)) (hK _ _ (VF.mg rfl (fun _=>⟨_,rfl,.new rfl⟩)) (hRW.alloc _) ((Ext.rf _).alloc _)))
  intro u w3 hR3 hV;have h4:=(hV (4,some 26) (by simp)).k rfl;have h9:=(hV (9,some 31) (by simp)).k rfl;have h10:=(hV (10,some 32) (by simp)).k rfl;obtain⟨qz,h11,qb⟩:=((hV (11,some 33) (by simp)).g rfl) rfl;simp only[Zd,h4,h9,h10,h11];clear hV h4 h9 h10 h11
  try simp only[lay]
  obtain⟨A4,c4,w4,hrun,c4',f4,R4,M4⟩:=TA.out w3 (X1.out.tr hR3) ⟨2,[],rv,a⟩ qz qb;have MM:=Hd ((ModT.of_ext (X1.out.tr hR3)).tr M4.out);have X3:=Hd (X1.out.tr hR3);clear hR3 qb;refine Zm 12 (by decide +kernel) (Xf rfl (.slice L ln c) (.slice (some ⟨qz,0,none⟩) 1 1) (by kernel_rfl) (by kernel_rfl) _ hrun ?_)
  try simp only[lay]
  refine Za (i:=13) (op:=Op.nilCheck (Operand.tmp 22)) (t:=0) (d:=some 35) (v:=_) rfl (by decide +kernel) (fun _ _ _ h=>h) (by intro _;unfold Zb;go_simp;try with_reducible rfl) ?_
  try simp only[lay]
  refine Za (i:=14) (op:=Op.fieldAddr 127 (Operand.tmp 35) 2) (t:=0) (d:=some 36) (v:=_) rfl (by decide +kernel) (fun _ _ _ h=>h) (by intro _;unfold Zb;go_simp;try with_reducible rfl) ?_
  try simp only[lay]
  refine Zm 15 (by decide +kernel) (Xy rfl (.pointer (some ⟨g,2,none⟩)) (.slice A4 (ln+1) c4) (by kernel_rfl) (by kernel_rfl) (by go_simp;rfl) ?_);refine wpAny_done (by kernel_rfl) ?_ _;clear hrun TA RA d1 d2;go_simp;generalize w4.setCell ⟨g,2,none⟩ (.slice A4 (ln+1) c4)=w5 at *;obtain⟨q1,q2⟩:=HS.out w5 _ R4.out nx;have c1:w5.cell? ⟨g,1,none⟩=some (.int .i64 (a:Int)):=by obtain⟨_,_,h,_⟩:=R4.out;exact Blk.cell h 1
  have f1:w5.frozen? ⟨g,1,none⟩=false:=by obtain⟨_,_,h,_⟩:=R4.out;exact Blk.free h 1
  have KK:=Hd (fun(W:World) (x:Ext (w5.setCell ⟨g,1,none⟩ (.int .i64 (nx:Int))) W)=>KQ.out W nx _ hnx (hU.ext ((X0.modT (MM.out.tr q2) h0).tr x)) (q1.ext x));have Q1:=Hd q1;have Q2:=Hd (MM.out.tr q2);clear q1 q2 c4' f4 R4 M4 KQ HS;go_upto_region 6 with(fail);generalize w5.setCell ⟨g,1,none⟩ (.int .i64 (nx:Int))=w6 at *;clear c1 f1;go_wp2_with (fail);refine(KK.out _ XI).mono ?_;rintro e w7 ⟨rfl,x7⟩;have X7:=Hd (Ext.tr (a:=w6) XI x7);clear x7 KK
  by_cases h3:Zc s nx=3
  ·have e3:(Zc s nx==3)=true:=by rw[h3];rfl
   have h5:Hid (er=2):=Hd (by rw[<-her.out,if_pos h3]);generalize Zc s nx=kk at *;clear h3 her;go_wp2_with (fail);go_ret;exact⟨by rw[h5.out];rfl,(Q1.out.ext X7.out).ext XI,(Q2.out.tr (ModT.of_ext X7.out)).tr (ModT.of_ext XI)⟩
  ·have e3:(Zc s nx==3)=false:=by rw[beq_eq_false_iff_ne];exact h3
   have h5:Hid (er=0):=Hd (by rw[<-her.out,if_neg h3]);generalize Zc s nx=kk at *;clear h3 her;go_wp2_with (fail);go_ret;exact⟨by rw[h5.out];rfl,(Q1.out.ext X7.out).ext XI,(Q2.out.tr (ModT.of_ext X7.out)).tr (ModT.of_ext XI)⟩
 ·have e1:(re != 0)=true:=by simpa using he
  rw[OB he];simp only[List.append_nil];clear OB OG RB h2 he KQ HS TA;go_enter Tryz.func113,Tryz.ntmps113;go_upto_region 1 with(fail);refine wp_region_any (by kernel_rfl) ?_
  change wpAny _ _ _ _ _ _ _ (World.drew _)
  refine Za (i:=0) (op:=Op.move (Operand.tmp 0)) (t:=125) (d:=some 7) (v:=_) rfl (by decide +kernel) (fun _ _ _ h=>h) (by intro _;unfold Zb;go_simp;try with_reducible rfl) ?_
  try simp only[lay]
  refine Za (i:=1) (op:=Op.nilCheck (Operand.tmp 7)) (t:=0) (d:=some 8) (v:=_) rfl (by decide +kernel) (fun _ _ _ h=>h) (by intro _;unfold Zb;go_simp;try with_reducible rfl) ?_
  try simp only[lay]
  refine Za (i:=2) (op:=Op.fieldAddr 127 (Operand.tmp 8) 0) (t:=0) (d:=some 9) (v:=_) rfl (by decide +kernel) (fun _ _ _ h=>h) (by intro _;unfold Zb;go_simp;try with_reducible rfl) ?_
  try simp only[lay]
  refine Za (i:=4) (op:=Op.move (Operand.tmp 0)) (t:=125) (d:=some 11) (v:=_) rfl (by decide +kernel) (fun _ _ _ h=>h) (by intro _;unfold Zb;go_simp;try with_reducible rfl) ?_
  try simp only[lay]
  refine Za (i:=5) (op:=Op.nilCheck (Operand.tmp 11)) (t:=0) (d:=some 12) (v:=_) rfl (by decide +kernel) (fun _ _ _ h=>h) (by intro _;unfold Zb;go_simp;try with_reducible rfl) ?_
  try simp only[lay]
  refine Za (i:=6) (op:=Op.fieldAddr 127 (Operand.tmp 12) 1) (t:=0) (d:=some 13) (v:=_) rfl (by decide +kernel) (fun _ _ _ h=>h) (by intro _;unfold Zb;go_simp;try with_reducible rfl) ?_
  try simp only[lay]
  refine Zr (n:=8) [(3,some 10),(7,some 14)] (fun | 3=>.string ⟨s.toArray⟩ | 7=>.int .i64 (a:Int) | _=>undef) #[true,true,true,true,true,true,true,true,false,false,false,false,false,false,false,false] (by decide +kernel) ?_ ?_
  ·intro pS hpm uS hD K hK
   simp only[List.mem_cons,List.not_mem_nil,or_false] at hpm;rcases hpm with rfl | rfl
   ·exact Zs (T:=9) (x:=Operand.tmp 9) (t:=9) (d:=some 10) rfl (.pointer (some ⟨g,0,none⟩)) (by kernel_rfl) (.string ⟨s.toArray⟩) (by go_simp) hK
   ·exact Zs (T:=3) (x:=Operand.tmp 13) (t:=3) (d:=some 14) rfl (.pointer (some ⟨g,1,none⟩)) (by kernel_rfl) (.int .i64 (a:Int)) (by go_simp) hK
  simp only[Zd,Act.put,List.setIfInBounds_toArray,List.set_cons_zero,List.set_cons_succ];refine Zm 8 (by decide +kernel) (Z0 (f:=174) (xs:=#[Operand.tmp 10,Operand.tmp 14]) (ts:=#[9,3]) (t:=111) (d:=some 15) rfl #[.string ⟨s.toArray⟩,.int .i64 (a:Int)] (by go_simp) (by kernel_rfl) _ (RA.out _) ?_);rintro e w1 ⟨rfl,x1⟩;have X1:=Hd (Ext.tr (a:=w) XI x1);clear x1 c0 c1 c2;refine⟨_,rfl,?_⟩
  try simp only[lay]
  refine Za (i:=9) (op:=Op.move (Operand.tmp 15)) (t:=111) (d:=some 6) (v:=_) rfl (by decide +kernel) (fun _ _ _ h=>h) (by intro _;unfold Zb;go_simp;try with_reducible rfl) ?_
  try simp only[lay]
  refine Za (i:=10) (op:=Op.extract (Operand.tmp 6) 0) (t:=3) (d:=some 16) (v:=_) rfl (by decide +kernel) (fun _ _ _ h=>h) (by intro _;unfold Zb;go_simp;try with_reducible rfl) ?_
  try simp only[lay]
  refine Za (i:=11) (op:=Op.extract (Operand.tmp 6) 1) (t:=3) (d:=some 17) (v:=_) rfl (by decide +kernel) (fun _ _ _ h=>h) (by intro _;unfold Zb;go_simp;try with_reducible rfl) ?_
  try simp only[lay]
  refine Za (i:=12) (op:=Op.extract (Operand.tmp 6) 2) (t:=31) (d:=some 18) (v:=_) rfl (by decide +kernel) (fun _ _ _ h=>h) (by intro _;unfold Zb;go_simp;try with_reducible rfl) ?_
  try simp only[lay]
  refine Za (i:=13) (op:=Op.assign (Operand.tmp 16)) (t:=3) (d:=some 3) (v:=_) rfl (by decide +kernel) (fun _ _ _ h=>h) (by intro _;unfold Zb;go_simp;try with_reducible rfl) ?_
  try simp only[lay]
  refine Za (i:=14) (op:=Op.assign (Operand.tmp 17)) (t:=3) (d:=some 4) (v:=_) rfl (by decide +kernel) (fun _ _ _ h=>h) (by intro _;unfold Zb;go_simp;try with_reducible rfl) ?_
  try simp only[lay]
  refine Za (i:=15) (op:=Op.assign (Operand.tmp 18)) (t:=31) (d:=some 5) (v:=_) rfl (by decide +kernel) (fun _ _ _ h=>h) (by intro _;unfold Zb;go_simp;try with_reducible rfl) ?_
  try simp only[lay]
  refine wpAny_done (by kernel_rfl) ?_ _;go_simp;go_wp2_with (fail);go_ret;exact⟨rfl,(HH.out.ext X1.out).ext XI,(ModT.of_ext X1.out).tr (ModT.of_ext XI)⟩
theorem Y0 (base g:Nat)(s:Txt)(a:Nat)(l:List Tok)(w:World)(H:ScR w base g s a l)(hb:base<=w.heap.size)(hl:l.length<=70000)(ha:a<s.length)(hs:s.length<=70000)(w0:World)(hU:UT w0)(X0:Ext w0 w)(h0:w0.heap.size<=base)(h3:Zc s a=3) :
  Calls Tryz.prog 112 #[.pointer (some ⟨g,0,none⟩)] w (Zz base g s (Zj s a) l w):=by
 have HS:=Hd (fun(W:World) (lq:List Tok) (h:ScR W base g s a lq) (b:Nat)=>h.set b);have KQ:=Hd (fun(W:World) (b:Nat) (lq:List Tok) (hB:b<=s.length) (hU:UT W) (h:ScR W base g s b lq)=>(show Calls Tryz.prog 110 #[.pointer (some ⟨g,0,none⟩)] W fun e w'=>e=.returned (.int .i64 (Zc s b))/\Ext W w' by obtain⟨L,c,q1,q2,q3⟩:=h;exact ZT g s b L lq.length c W q1 hB hs hU));have OB:16<Ze (s.drop a)->Zj s a=(a,5,[]):=fun h=>by unfold Zj;rw[h3,if_neg (by decide),if_neg (by decide),if_pos rfl,if_pos h]
 have OG:¬16<Ze (s.drop a)->Zj s a=(a+Ze (s.drop a),if Zc s (a+Ze (s.drop a))=2 then 2 else 0,[⟨1,(s.drop a).take (Ze (s.drop a)),0,a⟩]):=fun h=>by unfold Zj;rw[h3,if_neg (by decide),if_neg (by decide),if_pos rfl,if_neg h]
 have hln9:Ze (s.drop a)<=s.length-a:=by rw[<-List.length_drop];exact ZJ _
 have ST:Hid (∀ k:Nat,(∀ j,j<k->∀ c,(s.drop a)[j]?=some c->isL c=true)->k<=(s.drop a).length->(∀ c,(s.drop a)[k]?=some c->isL c=false)->Ze (s.drop a)=k):=Hd fun k q1 q2 q3=>Yf k _ q1 q2 q3
 have EM:=Hd (Yv s a);have HH:=Hd H;obtain⟨L,c,h1,hg,h2⟩:=H;have c0:=Blk.c0 h1;have c1:=Blk.c1 h1;have c2:=Blk.c2 h1;have zg:=Blk.lt h1;have hsz:=Zi s;have hx:=Zu s a;rw[hsz] at hx;have TA:=Hd (fun(W:World) (x:Ext w W) (t:Tok) (z:Nat) (hz:Blk W z 129 #[.int .i64 t.kind,.string ⟨t.text.toArray⟩,.int .i64 t.num,.int .i64 t.at_])=>YR (Blk.ext h1 x) hg (h2.ext x) t z hz (by have:=x.size;omega) (by omega));have hA:Hid (∀ (k:Nat) (hk:k<(⟨(s.drop a).toArray⟩:ByteArray).size),(s.drop a)[k]?=some ((⟨(s.drop a).toArray⟩:ByteArray)[k]'hk)):=Hd fun k hk=>Z6 _ k hk
 have hsd:=Zi (s.drop a);have hdl:(s.drop a).length=s.length-a:=List.length_drop;clear h1 h2;obtain⟨ln,hln⟩:∃ ln,l.length=ln:=⟨_,rfl⟩;rw[hln] at c2 TA hl;replace hln:=Hd hln;have g0:(0:Int)<=(a:Int):=by omega
 have g1:(a:Int)<=(s.length:Int):=by omega
 obtain⟨sd,hsdE⟩:∃ sd:ByteArray,sd=⟨(s.drop a).toArray⟩:=⟨_,rfl⟩;rw[<-hsdE] at hx hsd hA;have hK0:(w.drew.iter sd 0).heap[w.heap.size]?=some (.stringIter sd 0):=World.iter_heap w.drew sd 0;have hX0:Ext w (w.drew.iter sd 0):=((Ext.rf w).drew).alloc _;generalize hD:s.drop a=D at *;clear hsdE;unfold Zz;obtain⟨RV,hRV⟩:∃ RV,Zj s a=RV:=⟨_,rfl⟩;rw[hRV] at OB OG ⊢;replace OB:=Hd OB;replace OG:=Hd OG;clear hRV;go_enter Tryz.func112,Tryz.ntmps112;go_upto_region 2 with(fail);refine wp_region_any (by kernel_rfl) ?_
 change wpAny _ _ _ _ _ _ _ (World.drew _)
 refine Za (i:=0) (op:=Op.move (Operand.tmp 0)) (t:=125) (d:=some 6) (v:=_) rfl (by decide +kernel) (fun _ _ _ h=>h) (by intro _;unfold Zb;go_simp;try with_reducible rfl) ?_
 try simp only[lay]
 refine Za (i:=1) (op:=Op.nilCheck (Operand.tmp 6)) (t:=0) (d:=some 7) (v:=_) rfl (by decide +kernel) (fun _ _ _ h=>h) (by intro _;unfold Zb;go_simp;try with_reducible rfl) ?_
 try simp only[lay]
 refine Za (i:=2) (op:=Op.fieldAddr 127 (Operand.tmp 7) 0) (t:=0) (d:=some 8) (v:=_) rfl (by decide +kernel) (fun _ _ _ h=>h) (by intro _;unfold Zb;go_simp;try with_reducible rfl) ?_
 try simp only[lay]
 refine Za (i:=4) (op:=Op.move (Operand.tmp 0)) (t:=125) (d:=some 10) (v:=_) rfl (by decide +kernel) (fun _ _ _ h=>h) (by intro _;unfold Zb;go_simp;try with_reducible rfl) ?_
 try simp only[lay]
 refine Za (i:=5) (op:=Op.nilCheck (Operand.tmp 10)) (t:=0) (d:=some 11) (v:=_) rfl (by decide +kernel) (fun _ _ _ h=>h) (by intro _;unfold Zb;go_simp;try with_reducible rfl) ?_
 try simp only[lay]
 refine Za (i:=6) (op:=Op.fieldAddr 127 (Operand.tmp 11) 1) (t:=0) (d:=some 12) (v:=_) rfl (by decide +kernel) (fun _ _ _ h=>h) (by intro _;unfold Zb;go_simp;try with_reducible rfl) ?_
 try simp only[lay]
 refine Zr (n:=2) [(3,some 9),(7,some 13)] (fun | 3=>.string ⟨s.toArray⟩ | 7=>.int .i64 (a:Int) | _=>undef) #[true,true,true,true,true,true,true,true,false,false] (by decide +kernel) ?_ ?_
 ·intro pS hpm uS hD K hK
  simp only[List.mem_cons,List.not_mem_nil,or_false] at hpm;rcases hpm with rfl | rfl
  ·exact Zs (T:=9) (x:=Operand.tmp 8) (t:=9) (d:=some 9) rfl (.pointer (some ⟨g,0,none⟩)) (by kernel_rfl) (.string ⟨s.toArray⟩) (by go_simp) hK
  ·exact Zs (T:=3) (x:=Operand.tmp 12) (t:=3) (d:=some 13) rfl (.pointer (some ⟨g,1,none⟩)) (by kernel_rfl) (.int .i64 (a:Int)) (by go_simp) hK
 simp only[Zd,Act.put,List.setIfInBounds_toArray,List.set_cons_zero,List.set_cons_succ];refine Z1 (i:=8) (op:=Op.slice 9 (Operand.tmp 9) (some (Operand.tmp 13)) none none) (t:=9) (d:=some 14) (v:=.string sd) rfl (by decide +kernel) (by decide +kernel) (by decide +kernel) (fun _ _ _ h=>h) ?_ ?_
 ·(intro _;unfold Zb;go_simp;skip)
 try simp only[lay]
 refine Zm 9 (by decide +kernel) (ZE (op:=Op.range 9 (Operand.tmp 14)) rfl (.pointer (some ⟨w.heap.size,0,none⟩)) (w':=w.drew.iter sd 0) (by unfold Zb;go_simp;try rfl) ?_)
 try simp only[lay]
 refine wpAny_done (by kernel_rfl) ?_ _;go_simp;go_upto_block 0 with(fail);go_cut [3] (fun v wx=>v=.int .i64 (Ze D:Int)/\Hid (Ext w wx))
 case first =>
  go_wp2_with (fail);go_loopw [3,5] (fun v _ wr=>∃ pos:Nat,v=.int .i64 (pos:Int)/\pos<=sd.size/\wr.heap[w.heap.size]?=some (.stringIter sd pos)/\Hid (∀ j,j<pos->∀ c,D[j]?=some c->isL c=true)/\Ext w wr)
   (fun _ _ wr=>sd.size-wr.iterPos w.heap.size)
  case atStart=>exact⟨0,rfl,Nat.zero_le _,hK0,Hd (fun j hj=>absurd hj (Nat.not_lt_zero _)),hX0⟩
  case round =>
   obtain⟨pos,rfl,hps,hk,hd,hx⟩:=hrel;clear hK0 hX0
   by_cases hpl:pos<sd.size
   ·have hc:=hA.out pos hpl
    have hnext:∀ ty,(Instr.next (.pointer (some ⟨w.heap.size,0,none⟩)) true ty).run Tryz.prog wr=_:=fun ty=>Lib.run_next_any_at wr w.heap.size sd pos ty hk hpl
    have hdk:=ZH sd pos hpl;have hd1:=Yd sd pos hpl;obtain⟨rr,wd,hdec⟩:∃ rr wd,Utf8.decode sd pos=(rr,wd):=⟨_,_,rfl⟩;rw[hdec] at hnext hdk hd1;simp only at hnext hdk;have hk1:=Lib.iterAt_heap wr w.heap.size sd pos (pos+wd) hk;have hx1:Ext w (wr.iterAt w.heap.size sd (pos+wd)):=Zy hx (Nat.le_refl _) sd (pos+wd);have hmu:wr.iterPos w.heap.size=pos:=by simp[World.iterPos,hk]
    have KN:=Hd (fun(W:World)=>Yc (rr:Int) W);have hcH:=Hd hc;have hdkH:=Hd hdk;have hd1H:=Hd hd1;clear hc hdk hd1 hdec;generalize sd[pos]'hpl=b at *;generalize wr.iterAt w.heap.size sd (pos+wd)=W1 at hnext hk1 hx1;go_wp2_with (fail);refine(KN.out _).mono ?_;rintro e W2 ⟨rfl,x2⟩;have hk2:W2.heap[w.heap.size]?=some (.stringIter sd (pos+wd)):=(x2.block _ (Array.getElem?_eq_some_iff.1 hk1).1).trans hk1;have hx2:Ext w W2:=Ext.tr hx1 x2
    by_cases hDD:Zo (rr:Int)=3
    ·rw[hDD]
     have hb2:ZK b=3:=hdkH.out.symm.trans hDD;have hw1:wd=1:=congrArg Prod.snd (hd1H.out (by rw[hb2];decide));have hDH:Hid (isL b=true):=Hd (by unfold isL;simpa using hb2);subst hw1;clear hDD hb2;go_wp2_with (fail);go_roundw
     case rel =>
      refine⟨pos+1,by go_num,by omega,hk2,Hd fun j hj c hc=>?_,hx2⟩
      by_cases he:j=pos
      ·subst he
       have:=hcH.out.symm.trans hc;simp at this;subst this;exact hDH.out
      ·exact hd.out j (by omega) c hc
     case measure =>
      have hmu2:W2.iterPos w.heap.size=pos+1:=by simp[World.iterPos,hk2]
      rw[hmu,hmu2];omega
    ·have hne:(Zo (rr:Int) != 3)=true:=by simpa using hDD
     have hDH:isL b=false:=by unfold isL;rw[decide_eq_false];intro h;exact hDD (hdkH.out.trans h)
     have hst:=Hd (ST.out pos hd.out (by omega) (fun c hc=>by have:=hcH.out.symm.trans hc;simp at this;subst this;exact hDH));generalize Zo (rr:Int)=kc at *;clear hDD hDH;go_wp2_with (fail);go_meet;exact⟨by rw[hst.out],hx2⟩
   ·have hnext:∀ ty,(Instr.next (.pointer (some ⟨w.heap.size,0,none⟩)) true ty).run Tryz.prog wr=_:=fun ty=>Lib.run_next_end_at wr w.heap.size sd pos ty hk hpl
    have hst:=Hd (ST.out pos hd.out (by omega) (fun c hc=>by have h9:=(List.getElem?_eq_some_iff.1 hc).1;omega));go_wp2_with (fail);go_meet;exact⟨by rw[hst.out],hx⟩
 case rest =>
  obtain⟨rfl,X1⟩:=hcut;obtain⟨w1,rfl⟩:=Wq wc;clear hK0 hX0 hA ST hsd hx;generalize Ze D=ne at *
  by_cases h16:16<ne
  ·obtain rfl:=OB.out h16
   have e1:(ne:Int)>16:=by omega
   clear OB OG TA KQ HS c0 c1 c2;go_wp2_with (fail);go_ret;exact⟨rfl,by first | exact(HH.out.ext X1.out).ext XI | (rw[List.append_nil];exact(HH.out.ext X1.out).ext XI),(ModT.of_ext X1.out).tr (ModT.of_ext XI)⟩
  ·obtain⟨er,her⟩:∃ er:Int,Hid ((if Zc s (a+ne)=2 then(2:Int) else 0)=er):=⟨_,Hd rfl⟩
   have OG1:=OG.out h16;rw[her.out] at OG1;have e1:¬(ne:Int)>16:=by omega
   subst OG1;have d0:=Zl X1.out zg c0;have d1:=Zl X1.out zg c1;have d2:=Zl X1.out zg c2;have zg1:g<w1.heap.size:=by have:=X1.out.size;omega
   have hx2:=EM.out ne;have hn1:((a:Int)+(ne:Int)).toNat=a+ne:=by omega
   have hn2:(a:Int)+(ne:Int)<=(s.length:Int):=by omega
   have hn3:IntKind.i64.wrap ((a:Int)+(ne:Int))=(a:Int)+(ne:Int):=IntWalk.i64_in _ (by omega);have hn4:(a:Int)<=(a:Int)+(ne:Int):=by omega
   generalize hW:D.take ne=WT at *;clear c0 c1 c2 OB OG EM;go_upto_region 9 with(fail);refine wp_region_any (by kernel_rfl) ?_
   change wpAny _ _ _ _ _ _ _ (World.drew _)
   refine Za (i:=0) (op:=Op.move (Operand.tmp 0)) (t:=125) (d:=some 26) (v:=_) rfl (by decide +kernel) (fun _ _ _ h=>h) (by intro _;unfold Zb;go_simp;try with_reducible rfl) ?_
   try simp only[lay]
   refine Za (i:=1) (op:=Op.move (Operand.tmp 0)) (t:=125) (d:=some 27) (v:=_) rfl (by decide +kernel) (fun _ _ _ h=>h) (by intro _;unfold Zb;go_simp;try with_reducible rfl) ?_
   try simp only[lay]
   refine Za (i:=2) (op:=Op.nilCheck (Operand.tmp 27)) (t:=0) (d:=some 28) (v:=_) rfl (by decide +kernel) (fun _ _ _ h=>h) (by intro _;unfold Zb;go_simp;try with_reducible rfl) ?_
   try simp only[lay]
   refine Za (i:=3) (op:=Op.fieldAddr 127 (Operand.tmp 28) 2) (t:=0) (d:=some 29) (v:=_) rfl (by decide +kernel) (fun _ _ _ h=>h) (by intro _;unfold Zb;go_simp;try with_reducible rfl) ?_
   try simp only[lay]
   refine Za (i:=5) (op:=Op.move (Operand.tmp 0)) (t:=125) (d:=some 31) (v:=_) rfl (by decide +kernel) (fun _ _ _ h=>h) (by intro _;unfold Zb;go_simp;try with_reducible rfl) ?_
   try simp only[lay]
   refine Za (i:=6) (op:=Op.nilCheck (Operand.tmp 31)) (t:=0) (d:=some 32) (v:=_) rfl (by decide +kernel) (fun _ _ _ h=>h) (by intro _;unfold Zb;go_simp;try with_reducible rfl) ?_
   try simp only[lay]
   refine Za (i:=7) (op:=Op.fieldAddr 127 (Operand.tmp 32) 0) (t:=0) (d:=some 33) (v:=_) rfl (by decide +kernel) (fun _ _ _ h=>h) (by intro _;unfold Zb;go_simp;try with_reducible rfl) ?_
   try simp only[lay]
   refine Za (i:=9) (op:=Op.move (Operand.tmp 0)) (t:=125) (d:=some 35) (v:=_) rfl (by decide +kernel) (fun _ _ _ h=>h) (by intro _;unfold Zb;go_simp;try with_reducible rfl) ?_
   try simp only[lay]
   refine Za (i:=10) (op:=Op.nilCheck (Operand.tmp 35)) (t:=0) (d:=some 36) (v:=_) rfl (by decide +kernel) (fun _ _ _ h=>h) (by intro _;unfold Zb;go_simp;try with_reducible rfl) ?_
   try simp only[lay]
   refine Za (i:=11) (op:=Op.fieldAddr 127 (Operand.tmp 36) 1) (t:=0) (d:=some 37) (v:=_) rfl (by decide +kernel) (fun _ _ _ h=>h) (by intro _;unfold Zb;go_simp;try with_reducible rfl) ?_
   try simp only[lay]
   refine Za (i:=13) (op:=Op.move (Operand.tmp 0)) (t:=125) (d:=some 39) (v:=_) rfl (by decide +kernel) (fun _ _ _ h=>h) (by intro _;unfold Zb;go_simp;try with_reducible rfl) ?_
   try simp only[lay]
   refine Za (i:=14) (op:=Op.nilCheck (Operand.tmp 39)) (t:=0) (d:=some 40) (v:=_) rfl (by decide +kernel) (fun _ _ _ h=>h) (by intro _;unfold Zb;go_simp;try with_reducible rfl) ?_
   try simp only[lay]
   refine Za (i:=15) (op:=Op.fieldAddr 127 (Operand.tmp 40) 1) (t:=0) (d:=some 41) (v:=_) rfl (by decide +kernel) (fun _ _ _ h=>h) (by intro _;unfold Zb;go_simp;try with_reducible rfl) ?_
   try simp only[lay]
   refine Za (i:=17) (op:=Op.move (Operand.tmp 3)) (t:=3) (d:=some 43) (v:=_) rfl (by decide +kernel) (fun _ _ _ h=>h) (by intro _;unfold Zb;go_simp;try with_reducible rfl) ?_
   try simp only[lay]
   refine Za (i:=20) (op:=Op.move (Operand.tmp 0)) (t:=125) (d:=some 46) (v:=_) rfl (by decide +kernel) (fun _ _ _ h=>h) (by intro _;unfold Zb;go_simp;try with_reducible rfl) ?_
   try simp only[lay]
   refine Za (i:=21) (op:=Op.nilCheck (Operand.tmp 46)) (t:=0) (d:=some 47) (v:=_) rfl (by decide +kernel) (fun _ _ _ h=>h) (by intro _;unfold Zb;go_simp;try with_reducible rfl) ?_
   try simp only[lay]
   refine Za (i:=22) (op:=Op.fieldAddr 127 (Operand.tmp 47) 1) (t:=0) (d:=some 48) (v:=_) rfl (by decide +kernel) (fun _ _ _ h=>h) (by intro _;unfold Zb;go_simp;try with_reducible rfl) ?_
   try simp only[lay]
   refine ZY (n:=4) [(4,some 30),(8,some 34),(12,some 38),(16,some 42),(18,some 44),(19,some 45),(23,some 49),(24,some 50),(25,some 51)] (Ext w1) (VF (fun | 4=>some (.slice L ln c) | 8=>some (.string ⟨s.toArray⟩) | 12=>some (.int .i64 (a:Int)) | 16=>some (.int .i64 (a:Int)) | 18=>some (.int .i64 ((a:Int)+(ne:Int))) | 19=>some (.string ⟨WT.toArray⟩) | 23=>some (.int .i64 (a:Int)) | 24=>some (.agg #[.int .i64 1,.string ⟨WT.toArray⟩,.int .i64 0,.int .i64 (a:Int)]) | _=>none) (fun i v W=>(i=25->∃ z,v=.slice (some ⟨z,0,none⟩) 1 1/\Blk W z 129 #[.int .i64 1,.string ⟨WT.toArray⟩,.int .i64 0,.int .i64 (a:Int)]))) Ext #[true,true,true,true,true,true,true,true,true,true,true,true,true,true,true,true,true,true,true,true,true,true,true,true,true,true,false,false,false,false] (by decide +kernel) (VF.stab ?_) ?_ ?_ (by first | exact(Ext.rf _).drew | exact Ext.rf _)
   ·intro j v W W' _ gz hx
    have g0:=gz;exact fun h=>(g0 h).imp fun z hz=>⟨hz.1,hz.2.ext hx⟩
   ·intro pS hpm uS wS hRW hD K hK
    simp only[List.mem_cons,List.not_mem_nil,or_false] at hpm;rcases hpm with rfl | rfl | rfl | rfl | rfl | rfl | rfl | rfl | rfl
    ·( have rX:=Zl hRW zg1 d2;exact Zs (T:=59) (x:=Operand.tmp 29) (t:=59) (d:=some 30) rfl (.pointer (some ⟨g,2,none⟩)) (by kernel_rfl) (.slice L ln c) (by go_simp) (hK _ _ (VF.mk rfl) hRW (Ext.rf _)))
    ·( have rX:=Zl hRW zg1 d0;exact Zs (T:=9) (x:=Operand.tmp 33) (t:=9) (d:=some 34) rfl (.pointer (some ⟨g,0,none⟩)) (by kernel_rfl) (.string ⟨s.toArray⟩) (by go_simp) (hK _ _ (VF.mk rfl) hRW (Ext.rf _)))
    ·( have rX:=Zl hRW zg1 d1;exact Zs (T:=3) (x:=Operand.tmp 37) (t:=3) (d:=some 38) rfl (.pointer (some ⟨g,1,none⟩)) (by kernel_rfl) (.int .i64 (a:Int)) (by go_simp) (hK _ _ (VF.mk rfl) hRW (Ext.rf _)))
    ·( have rX:=Zl hRW zg1 d1;exact Zs (T:=3) (x:=Operand.tmp 41) (t:=3) (d:=some 42) rfl (.pointer (some ⟨g,1,none⟩)) (by kernel_rfl) (.int .i64 (a:Int)) (by go_simp) (hK _ _ (VF.mk rfl) hRW (Ext.rf _)))
    ·(have e16:uS 16=.int .i64 (a:Int):=(hD 16 (ZQ (by kernel_rfl))).k rfl;exact ZE (op:=Op.binOp BinOp.add 3 (Operand.tmp 42) (Operand.tmp 43) 3) (t:=3) (d:=some 44) rfl (.int .i64 ((a:Int)+(ne:Int))) (by simp only[Zd,Act.put,List.setIfInBounds_toArray,List.set_cons_zero,List.set_cons_succ];unfold Zb;(try go_simp);(try simp only[e16]);(try go_simp);(try rfl);(try (exact IntWalk.i64_in _ (by omega)))) (hK _ _ (VF.mk rfl) hRW (Ext.rf _)))
    ·(have e8:uS 8=.string ⟨s.toArray⟩:=(hD 8 (ZQ (by kernel_rfl))).k rfl;have e12:uS 12=.int .i64 (a:Int):=(hD 12 (ZQ (by kernel_rfl))).k rfl;have e18:uS 18=.int .i64 ((a:Int)+(ne:Int)):=(hD 18 (ZQ (by kernel_rfl))).k rfl;exact ZE (op:=Op.slice 9 (Operand.tmp 34) (some (Operand.tmp 38)) (some (Operand.tmp 44)) none) (t:=9) (d:=some 45) rfl (.string ⟨WT.toArray⟩) (by simp only[Zd,Act.put,List.setIfInBounds_toArray,List.set_cons_zero,List.set_cons_succ];unfold Zb;(try go_simp);(try simp only[e8,e12,e18]);(try go_simp);(try rfl);(try (exact IntWalk.i64_in _ (by omega)))) (hK _ _ (VF.mk rfl) hRW (Ext.rf _)))
    ·( have rX:=Zl hRW zg1 d1;exact Zs (T:=3) (x:=Operand.tmp 48) (t:=3) (d:=some 49) rfl (.pointer (some ⟨g,1,none⟩)) (by kernel_rfl) (.int .i64 (a:Int)) (by go_simp) (hK _ _ (VF.mk rfl) hRW (Ext.rf _)))
    ·(have e19:uS 19=.string ⟨WT.toArray⟩:=(hD 19 (ZQ (by kernel_rfl))).k rfl;have e23:uS 23=.int .i64 (a:Int):=(hD 23 (ZQ (by kernel_rfl))).k rfl;exact ZE (op:=Op.build 129 #[(0,Operand.const (Value.int IntKind.i64 1)),(1,Operand.tmp 45),(3,Operand.tmp 49)]) (t:=129) (d:=some 50) rfl (.agg #[.int .i64 1,.string ⟨WT.toArray⟩,.int .i64 0,.int .i64 (a:Int)]) (by simp only[Zd,Act.put,List.setIfInBounds_toArray,List.set_cons_zero,List.set_cons_succ];unfold Zb;(try go_simp);(try simp only[e19,e23]);(try go_simp);(try rfl);(try (exact IntWalk.i64_in _ (by omega)))) (hK _ _ (VF.mk rfl) hRW (Ext.rf _)))
    ·(have e24:uS 24=.agg #[.int .i64 1,.string ⟨WT.toArray⟩,.int .i64 0,.int .i64 (a:Int)]:=(hD 24 (ZQ (by kernel_rfl))).k rfl;exact ZE (op:=Op.buildSlice 59 1 #[(0,Operand.tmp 50)]) (t:=59) (d:=some 51) rfl _ (by simp only[Zd,Act.put,List.setIfInBounds_toArray,List.set_cons_zero,List.set_cons_succ];unfold Zb;(try go_simp);(try simp only[e24]);(try go_simp);(try rfl)) (hK _ _ (VF.mg rfl (fun _=>⟨_,rfl,.new rfl⟩)) (hRW.alloc _) ((Ext.rf _).alloc _)))
   intro u w3 hR3 hV;have h4:=(hV (4,some 30) (by simp)).k rfl;have h8:=(hV (8,some 34) (by simp)).k rfl;have h12:=(hV (12,some 38) (by simp)).k rfl;have h16:=(hV (16,some 42) (by simp)).k rfl;have h18:=(hV (18,some 44) (by simp)).k rfl;have h19:=(hV (19,some 45) (by simp)).k rfl;have h23:=(hV (23,some 49) (by simp)).k rfl;have h24:=(hV (24,some 50) (by simp)).k rfl;obtain⟨qz,h25,qb⟩:=((hV (25,some 51) (by simp)).g rfl) rfl;simp only[Zd,h4,h8,h12,h16,h18,h19,h23,h24,h25];clear hV h4 h8 h12 h16 h18 h19 h23 h24 h25
   try simp only[lay]
   obtain⟨A4,c4,w4,hrun,c4',f4,R4,M4⟩:=TA.out w3 (X1.out.tr hR3) ⟨1,WT,0,a⟩ qz qb;have MM:=Hd ((ModT.of_ext (X1.out.tr hR3)).tr M4.out);clear hR3 qb;refine Zm 26 (by decide +kernel) (Xf rfl (.slice L ln c) (.slice (some ⟨qz,0,none⟩) 1 1) (by kernel_rfl) (by kernel_rfl) _ hrun ?_)
   try simp only[lay]
   refine Za (i:=27) (op:=Op.nilCheck (Operand.tmp 26)) (t:=0) (d:=some 53) (v:=_) rfl (by decide +kernel) (fun _ _ _ h=>h) (by intro _;unfold Zb;go_simp;try with_reducible rfl) ?_
   try simp only[lay]
   refine Za (i:=28) (op:=Op.fieldAddr 127 (Operand.tmp 53) 2) (t:=0) (d:=some 54) (v:=_) rfl (by decide +kernel) (fun _ _ _ h=>h) (by intro _;unfold Zb;go_simp;try with_reducible rfl) ?_
   try simp only[lay]
   refine Zm 29 (by decide +kernel) (Xy rfl (.pointer (some ⟨g,2,none⟩)) (.slice A4 (ln+1) c4) (by kernel_rfl) (by kernel_rfl) (by go_simp;rfl) ?_);refine wpAny_done (by kernel_rfl) ?_ _;clear hrun TA d0 d1 d2;go_simp;generalize w4.setCell ⟨g,2,none⟩ (.slice A4 (ln+1) c4)=w5 at *;obtain⟨q1,q2⟩:=HS.out w5 _ R4.out (a+ne);have c1:w5.cell? ⟨g,1,none⟩=some (.int .i64 (a:Int)):=by obtain⟨_,_,h,_⟩:=R4.out;exact Blk.cell h 1
   have f1:w5.frozen? ⟨g,1,none⟩=false:=by obtain⟨_,_,h,_⟩:=R4.out;exact Blk.free h 1
   rw[show ((a+ne:Nat):Int)=(a:Int)+(ne:Int) by omega] at q1 q2;have KK:=Hd (fun(W:World) (x:Ext (w5.setCell ⟨g,1,none⟩ (.int .i64 ((a:Int)+(ne:Int)))) W)=>KQ.out W (a+ne) _ (by omega) (hU.ext ((X0.modT (MM.out.tr q2) h0).tr x)) (q1.ext x));have Q1:=Hd q1;have Q2:=Hd (MM.out.tr q2);clear q1 q2 c4' f4 R4 M4 KQ HS;go_upto_region 11 with(fail);generalize w5.setCell ⟨g,1,none⟩ (.int .i64 ((a:Int)+(ne:Int)))=w6 at *;clear c1 f1;go_wp2_with (fail);refine(KK.out _ XI).mono ?_;rintro e w7 ⟨rfl,x7⟩;have X7:=Hd (Ext.tr (a:=w6) XI x7);clear x7 KK
   by_cases h2:Zc s (a+ne)=2
   ·have e3:(Zc s (a+ne)==2)=true:=by rw[h2];rfl
    have h5:Hid (er=2):=Hd (by rw[<-her.out,if_pos h2]);generalize Zc s (a+ne)=kk at *;clear h2 her;go_wp2_with (fail);go_ret;exact⟨by rw[h5.out];rfl,(Q1.out.ext X7.out).ext XI,(Q2.out.tr (ModT.of_ext X7.out)).tr (ModT.of_ext XI)⟩
   ·have e3:(Zc s (a+ne)==2)=false:=by rw[beq_eq_false_iff_ne];exact h2
    have h5:Hid (er=0):=Hd (by rw[<-her.out,if_neg h2]);generalize Zc s (a+ne)=kk at *;clear h2 her;go_wp2_with (fail);go_ret;exact⟨by rw[h5.out];rfl,(Q1.out.ext X7.out).ext XI,(Q2.out.tr (ModT.of_ext X7.out)).tr (ModT.of_ext XI)⟩
theorem Y2 (r:Int) : 0<=Zo r/\Zo r<=4:=by
 unfold Zo
 (repeat' split)<;>omega
theorem YN (s:Txt)(a:Nat) : 0<=Zc s a/\Zc s a<=4:=by
 unfold Zc;split
 ·exact Y2 _
 ·omega
theorem Xt (base g:Nat)(s:Txt)(a:Nat)(l:List Tok)(w:World)(H:ScR w base g s a l)(hb:base<=w.heap.size)(hl:l.length<=70000)(ha:a<s.length)(hs:s.length<=70000)(w0:World)(hU:UT w0)(X0:Ext w0 w)(h0:w0.heap.size<=base) :
  Calls Tryz.prog 46 #[.pointer (some ⟨g,0,none⟩)] w (Zz base g s (Zj s a) l w):=by
 have KN:=(show Calls Tryz.prog 110 #[.pointer (some ⟨g,0,none⟩)] w fun e w'=>e=.returned (.int .i64 (Zc s a))/\Ext w w' by obtain⟨L,c,q1,q2,q3⟩:=H;exact ZT g s a L l.length c w q1 (by omega) hs (hU.ext X0));have RM:=Hd (fun(W:World) (x:Ext w W)=>YL base g s a l W (H.ext x) (by omega) hs);have WO:=Hd (fun(h:Zc s a=3) (W:World) (x:Ext w W)=>Y0 base g s a l W (H.ext x) (by have:=x.size;omega) hl ha hs w0 hU (X0.tr x) h0 h);have NU:=Hd (fun(h:Zc s a=2) (W:World) (x:Ext w W)=>YM base g s a l W (H.ext x) (by have:=x.size;omega) hl ha hs w0 hU (X0.tr x) h0 h);have ST:=Hd (fun(W:World) (x:Ext w W)=>(H.ext x).set (a+1));have P1:Zc s a=1->Zj s a=(a+1,0,[]):=fun h=>by unfold Zj;rw[if_pos h]
 have P4:Zc s a=4->Zj s a=(a+Zk (s.drop a),0,[]):=fun h=>by unfold Zj;rw[h,if_neg (by decide),if_pos rfl]
 have P0:Zc s a=0->Zj s a=(a,2,[]):=fun h=>by unfold Zj;rw[h,if_neg (by decide),if_neg (by decide),if_neg (by decide),if_neg (by decide)]
 have HH:=Hd H;have rg:=YN s a;have RC:∀ W:World,Ext w W->W.cell? ⟨g,1,none⟩=some (.int .i64 (a:Int))/\W.frozen? ⟨g,1,none⟩=false:=fun W x=>by
  obtain⟨L,c,q1,q2,q3⟩:=H.ext x;exact⟨Blk.cell q1 1,Blk.free q1 1⟩
 replace RC:=Hd RC;obtain⟨RV,hRV⟩:∃ RV,Zj s a=RV:=⟨_,rfl⟩;rw[hRV] at P1 P4 P0 WO NU ⊢;generalize Zc s a=kk at *;clear hRV H;have hk:kk=0\/kk=1\/kk=2\/kk=3\/kk=4:=by omega
 unfold Zz at WO NU ⊢;clear rg;rcases hk with rfl | rfl | rfl | rfl | rfl
 ·obtain rfl:=P0 rfl
  clear P1 P4 P0 WO NU RM ST;go_enter Tryz.func46,Tryz.ntmps46;go_wp2_with (fail);refine KN.mono ?_;rintro e w1 ⟨rfl,x1⟩;have X1:=Hd (Ext.tr (a:=w) XI x1);clear x1 KN;go_wp2_with (fail);go_ret;exact⟨rfl,by first | exact(HH.out.ext X1.out).ext (by(repeat (first | assumption | exact Ext.rf _ | apply Ext.drew | apply Ext.drewN | apply Ext.alloc))) | (rw[List.append_nil];exact(HH.out.ext X1.out).ext XI),(ModT.of_ext X1.out).tr (ModT.of_ext XI)⟩
 ·obtain rfl:=P1 rfl
  clear P1 P4 P0 WO NU RM;go_enter Tryz.func46,Tryz.ntmps46;go_wp2_with (fail);refine KN.mono ?_;rintro e w1 ⟨rfl,x1⟩;have X1:=Hd (Ext.tr (a:=w) XI x1);obtain⟨c1,f1⟩:=RC.out _ X1.out;have S1:=ST.out _ X1.out;rw[show ((a+1:Nat):Int)=(a:Int)+1 by omega] at S1;have q1:=Hd S1.1;have q2:=Hd ((ModT.of_ext X1.out).tr S1.2);clear x1 KN S1 ST;go_wp2_with (fail);go_ret;exact⟨rfl,by first | exact q1.out.ext (by(repeat (first | assumption | exact Ext.rf _ | apply Ext.drew | apply Ext.drewN | apply Ext.alloc))) | (rw[List.append_nil];exact q1.out.ext XI),q2.out.tr (ModT.of_ext XI)⟩
 ·have NQ:=Hd (NU.out rfl)
  clear P1 P4 P0 WO NU RM ST;go_enter Tryz.func46,Tryz.ntmps46;go_wp2_with (fail);refine KN.mono ?_;rintro e w1 ⟨rfl,x1⟩;have X1:=Hd (Ext.tr (a:=w) XI x1);clear x1 KN;go_wp2_with (fail);refine(NQ.out _ (X1.out.tr XI)).mono ?_;rintro e w2 ⟨rfl,q1,q2⟩;have Q1:=Hd q1;have Q2:=Hd ((ModT.of_ext (X1.out.tr XI)).tr q2);clear q1 q2 NQ;go_wp2_with (fail);go_ret;exact⟨rfl,Q1.out.ext XI,Q2.out.tr (ModT.of_ext XI)⟩
 ·have NQ:=Hd (WO.out rfl)
  clear P1 P4 P0 WO NU RM ST;go_enter Tryz.func46,Tryz.ntmps46;go_wp2_with (fail);refine KN.mono ?_;rintro e w1 ⟨rfl,x1⟩;have X1:=Hd (Ext.tr (a:=w) XI x1);clear x1 KN;go_wp2_with (fail);refine(NQ.out _ (X1.out.tr XI)).mono ?_;rintro e w2 ⟨rfl,q1,q2⟩;have Q1:=Hd q1;have Q2:=Hd ((ModT.of_ext (X1.out.tr XI)).tr q2);clear q1 q2 NQ;go_wp2_with (fail);go_ret;exact⟨rfl,Q1.out.ext XI,Q2.out.tr (ModT.of_ext XI)⟩
 ·obtain rfl:=P4 rfl
  clear P1 P4 P0 WO NU ST;go_enter Tryz.func46,Tryz.ntmps46;go_wp2_with (fail);refine KN.mono ?_;rintro e w1 ⟨rfl,x1⟩;have X1:=Hd (Ext.tr (a:=w) XI x1);clear x1 KN;go_wp2_with (fail);refine(RM.out _ (X1.out.tr XI)).mono ?_;rintro e w2 ⟨rfl,q1,q2⟩;have Q1:=Hd q1;have Q2:=Hd ((ModT.of_ext (X1.out.tr XI)).tr q2);clear q1 q2 RM;go_wp2_with (fail);go_ret;exact⟨rfl,by first | exact Q1.out.ext (by(repeat (first | assumption | exact Ext.rf _ | apply Ext.drew | apply Ext.drewN | apply Ext.alloc))) | (rw[List.append_nil];exact Q1.out.ext XI),Q2.out.tr (ModT.of_ext XI)⟩
def Xg (w:World)(g:Nat) : Nat:=match w.cell? ⟨g,1,none⟩ with
 | some (.int _ n)=>n.toNat
 | _=>0
theorem Yy {w:World}{base g a:Nat}{s:Txt}{l:List Tok}(h:ScR w base g s a l) : Xg w g=a:=by
 obtain⟨L,c,q1,q2,q3⟩:=h;unfold Xg;rw[Blk.cell q1 1];simp
def ScanPost (R:List Tok×Nat×Int)(w:World)(e:Ending)(w':World) : Prop:=Ext w w'/\if R.2.2=0 then ∃ A c,e=.returned (.tuple #[.slice A R.1.length c,.int .i64 0,.int .i64 0])/\OwV w' w.heap.size 129 4 A R.1.length c (ZL R.1)
 else e=.returned (.tuple #[.slice none 0 0,.int .i64 (R.2.1:Int),.int .i64 R.2.2])
theorem Xh (s:Txt)(w:World)(hs:s.length<=70000)(hU:UT w) :
  Calls Tryz.prog 19 #[.string ⟨s.toArray⟩] w (ScanPost (Zn s) w):=by
 have hsz:=Zi s
 by_cases hbig:65536<s.length
 ·have e1:(s.length:Int)>65536:=by omega
  have hR:Zn s=([],0,5):=by unfold Zn;rw[if_pos hbig]
  rw[hR];clear hbig;go_enter Tryz.func19,Tryz.ntmps19;go_wp2_with (fail);go_ret3;exact⟨XI,rfl⟩
 ·have e1:¬(s.length:Int)>65536:=by omega
  have START:Hid (ScanAt (Zn s) s 0 []):=Hd (by unfold Zn;rw[if_neg hbig];exact ScanAt.start s);generalize Zn s=RES at *;clear hbig;obtain⟨g,hg⟩:∃ g,w.heap.size=g:=⟨_,rfl⟩;have H0:ScR (w.alloc (.cells #[.string ⟨s.toArray⟩,.int .i64 0,.slice none 0 0] 127)) w.heap.size g s 0 []:=⟨none,0,by rw[<-hg];exact .new rfl,by omega,OwV.nil _ _ _ _⟩;have ON:=Hd (fun(a:Nat) (l:List Tok) (W:World) (H:ScR W w.heap.size g s a l) (X:Ext w W) (hl:l.length<=a) (ha:a<s.length)=>Xt w.heap.size g s a l W H X.size (by omega) ha hs w hU X (Nat.le_refl _));obtain⟨i0,hi,hz0,hz1,hz2⟩:=info_parts Yx;replace hi:=Hd hi;replace hz0:=Hd hz0;replace hz1:=Hd hz1;replace hz2:=Hd hz2;replace H0:=Hd H0;clear hU;go_enter Tryz.func19,Tryz.ntmps19;go_wp2_with (fail)
  try rw[hg]
  replace hg:=Hd hg;go_loopw [6] (fun _ wr=>∃ (a:Nat) (l:List Tok),Hid (ScR wr w.heap.size g s a l)/\a<=s.length/\l.length<=a/\Hid (ScanAt RES s a l)/\Hid (Ext w wr)) (fun _ wr=>s.length-Xg wr g)
  case atStart=>exact⟨0,[],H0.out.ext XI,by omega,by simp,START,XI⟩
  case round =>
   obtain⟨wo,rfl⟩:=Wq wr;obtain⟨a,l,HS,ha,hl,HC,X⟩:=hrel;clear H0 START;have hpos:=Yy HS.out;have c1:wo.cell? ⟨g,1,none⟩=some (.int .i64 (a:Int)):=by obtain⟨_,_,q1,_⟩:=HS.out;exact Blk.cell q1 1
   by_cases hlt:a<s.length
   ·have ONE:=Hd (fun(W:World) (x:Ext wo W)=>ON.out a l W (HS.out.ext x) (X.out.tr x) hl hlt)
    unfold Zz at ONE;have hbad:=Hd (fun h=>HC.out.bad hlt h);have hstep:=Hd (fun h=>HC.out.step hlt h);have hst2:=Hd (fun h=>ZS hlt h);have hone:=Xq s a;generalize Zj s a=RV at *;obtain⟨b,er,tk⟩:=RV;simp only at hbad hstep hst2 hone ONE;go_wp2_with (fail);refine(ONE.out _ XI).mono ?_;rintro e w1 ⟨rfl,q1,q2⟩;have Q1:=Hd q1;have X1:=Hd (X.out.modT ((ModT.of_ext XI).tr q2) (Nat.le_refl _));clear q1 q2 ONE c1
    by_cases he:er=0
    ·subst he
     obtain⟨s1,s2⟩:=hst2.out rfl;have HC1:=Hd (hstep.out rfl);clear hbad hstep hst2;go_wp2_with (fail);go_roundw
     case rel=>exact⟨b,l++tk,Q1.out.ext XI,s2,by rw[List.length_append];omega,HC1,X1.out.tr XI⟩
     case measure =>
      have h9:=Yy (Q1.out.ext (show Ext w1 _ by(repeat (first | assumption | exact Ext.rf _ | apply Ext.drew | apply Ext.drewN | apply Ext.alloc))));rw[hpos,h9];omega
    ·have e3:(er != 0)=true:=by simpa using he
     have hB:=Hd (hbad.out he);have c1:w1.cell? ⟨g,1,none⟩=some (.int .i64 (b:Int)):=by obtain⟨_,_,q1,_⟩:=Q1.out;exact Blk.cell q1 1
     have hne:=Hd he;clear hbad hstep hst2 he;go_wp2_with (go_quiet (fail));go_ret3;unfold ScanPost;rw[hB.out];refine⟨X1.out.tr XI,?_⟩;rw[if_neg hne.out]
     rfl
   ·obtain rfl:a=s.length:=by omega
    have hF:=Hd (HC.out.fin rfl);obtain⟨L,c,q1,q2,q3⟩:=HS.out;have c2:=Blk.c2 q1;have ho:=Hd q3;have hlt2:¬((s.length:Int)<(s.length:Int)):=by omega
    obtain⟨n,hn⟩:∃ n,l.length=n:=⟨_,rfl⟩;rw[hn] at c2 ho hl;have zX:=X.out.size;clear q1 q2 q3 ON HS HC hlt;replace hn:=Hd hn;go_upto_region 8 with(fail);go_wp2_with (at_builtin;refine YY _ (e:=129) Tryz.underlying59 hi.out hz0.out hz1.out hz2.out (by simp[Value.cells]) (by omega) rfl _ _ rfl w.heap.size L n c (ZL l) (some ⟨wo.heap.size,0,none⟩) 1 1 [.int .i64 3,.string ⟨#[]⟩,.int .i64 0,.int .i64 (s.length:Int)] rfl rfl ?_ ?_ ?_ ?_ ?_ ?_ ?_ ?_;(exact ho.out.ext ((Ext.rf _).alloc _));(exact(RdV.blk (.new (by simp))).rdC);(simp);(simp[Value.oneCell']);(simp only[maxLen];omega);omega;(simp;omega);rintro A6 c6 w6 o6 g6 _);have X6:Ext w w6:=Ext.grow (a:=w) (X.out.alloc _) g6 (fun z hz=>(ho.out.lt z hz).1);replace o6:=Hd o6;replace X6:=Hd X6;clear g6;go_wp2_with (fail);go_ret3;unfold ScanPost;rw[hF.out];have hln:(l++[(⟨3,[],0,s.length⟩:Tok)]).length=n+1:=by rw[List.length_append,hn.out];rfl
    refine⟨X6.out.tr XI,?_⟩;rw[if_pos rfl];simp only;rw[hln,Ye];exact⟨A6,c6,rfl,o6.out.ext XI⟩
end
section
open Go.Shelf
def Yz : Go.Shelf.Ren:=⟨fun | 171=>24 | 243=>58 | 246=>125 | 283=>186 | 284=>187 | 285=>188 | 286=>189 | 129=>246 | 317=>245 | 318=>247 | 319=>248 | 320=>249 | 337=>296 | 338=>297 | n=>n,fun | 3=>3 | 9=>9 | 2=>2 | 4=>4 | 171=>296 | 0=>0 | 53=>49 | 37=>196 | 5=>5 | 173=>299 | 212=>330 | 51=>331 | 20=>20 | 213=>332 | 46=>268 | 232=>381 | 233=>382 | n=>n,fun | 17=>1 | 18=>4 | 19=>5 | n=>n⟩
theorem Xu : LaysM.n171 Tryz.prog Yz where
 mixed:=by kernel_rfl
 f129:=Tryz.func246.trans (congrArg some (by kernel_rfl))
 f171:=Tryz.func24.trans (congrArg some (by kernel_rfl))
 f243:=Tryz.func58.trans (congrArg some (by kernel_rfl))
 f246:=Tryz.func125.trans (congrArg some (by kernel_rfl))
 f283:=Tryz.func186.trans (congrArg some (by kernel_rfl))
 f284:=Tryz.func187.trans (congrArg some (by kernel_rfl))
 f285:=Tryz.func188.trans (congrArg some (by kernel_rfl))
 f286:=Tryz.func189.trans (congrArg some (by kernel_rfl))
 f317:=Tryz.func245.trans (congrArg some (by kernel_rfl))
 f318:=Tryz.func247.trans (congrArg some (by kernel_rfl))
 f319:=Tryz.func248.trans (congrArg some (by kernel_rfl))
 f320:=Tryz.func249.trans (congrArg some (by kernel_rfl))
 f337:=Tryz.func296.trans (congrArg some (by kernel_rfl))
 f338:=Tryz.func297.trans (congrArg some (by kernel_rfl))
 t0:=Tryz.underlying0
 a0:=Tryz.isAgg0
 z0:=Tryz.sizeOf0
 v0:=Tryz.zeroValue0
 t2:=Tryz.underlying2
 a2:=Tryz.isAgg2
 z2:=Tryz.sizeOf2
 v2:=Tryz.zeroValue2
 t3:=Tryz.underlying3
 a3:=Tryz.isAgg3
 z3:=Tryz.sizeOf3
 v3:=Tryz.zeroValue3
 t4:=Tryz.underlying4
 a4:=Tryz.isAgg4
 z4:=Tryz.sizeOf4
 v4:=Tryz.zeroValue4
 t5:=Tryz.underlying5
 a5:=Tryz.isAgg5
 z5:=Tryz.sizeOf5
 v5:=Tryz.zeroValue5
 t9:=Tryz.underlying9
 a9:=Tryz.isAgg9
 z9:=Tryz.sizeOf9
 v9:=Tryz.zeroValue9
 t20:=Tryz.underlying20
 a20:=Tryz.isAgg20
 z20:=Tryz.sizeOf20
 v20:=Tryz.zeroValue20
 t37:=Tryz.underlying196
 a37:=Tryz.isAgg196
 z37:=Tryz.sizeOf196
 v37:=Tryz.zeroValue196
 t46:=Tryz.underlying268
 a46:=Tryz.isAgg268
 z46:=Tryz.sizeOf268
 v46:=Tryz.zeroValue268
 t51:=Tryz.underlying331
 a51:=Tryz.isAgg331
 z51:=Tryz.sizeOf331
 v51:=Tryz.zeroValue331
 t53:=Tryz.underlying49
 a53:=Tryz.isAgg49
 z53:=Tryz.sizeOf49
 v53:=Tryz.zeroValue49
 t171:=Tryz.underlying296
 a171:=Tryz.isAgg296
 z171:=Tryz.sizeOf296
 v171:=Tryz.zeroValue296
 t173:=Tryz.underlying299
 a173:=Tryz.isAgg299
 z173:=Tryz.sizeOf299
 v173:=Tryz.zeroValue299
 t212:=Tryz.underlying330
 a212:=Tryz.isAgg330
 z212:=Tryz.sizeOf330
 v212:=Tryz.zeroValue330
 t213:=Tryz.underlying332
 a213:=Tryz.isAgg332
 z213:=Tryz.sizeOf332
 t232:=Tryz.underlying381
 a232:=Tryz.isAgg381
 z232:=Tryz.sizeOf381
 v232:=Tryz.zeroValue381
 t233:=Tryz.underlying382
 a233:=Tryz.isAgg382
 z233:=Tryz.sizeOf382
 v233:=Tryz.zeroValue382
 g17:=by kernel_rfl
 g18:=by kernel_rfl
 g19:=by kernel_rfl
 i0:=by kernel_rfl
 i2:=by kernel_rfl
 i3:=by kernel_rfl
 i4:=by kernel_rfl
 i5:=by kernel_rfl
 i9:=by kernel_rfl
 i20:=by kernel_rfl
 i37:=by kernel_rfl
 i46:=by kernel_rfl
 i51:=by kernel_rfl
 i53:=by kernel_rfl
 i171:=by kernel_rfl
 i173:=by kernel_rfl
 i212:=by kernel_rfl
 i232:=by kernel_rfl
 i233:=by kernel_rfl
 m17:=by kernel_rfl
 m18:=by kernel_rfl
 m19:=by kernel_rfl
end
section
open Go.Deep
def Ten (w:World) : Prop:=Lib.TabIs Tryz.prog w "internal/strconv.uint64pow10" .u64 Lib.pow10Tab
theorem Ten.ext {w w':World}(h:Ten w)(x:Ext w w') : Ten w':=Lib.tabBelow_of_tabIs h w' x
theorem Xi {w0 w:World}(h:Ext w0 w)(os:Array Obj) : Ext w0 (Go.Sort.grow w os) :=
 Below.trans h ⟨rfl,rfl,rfl,by simp[Go.Sort.grow],fun k hk=>by have:=h.size;simp only[Go.Sort.grow];exact Array.getElem?_append_left (by omega)⟩
theorem Xj (n:Int)(h0:-9223372036854775808<=n)(h1:n<=9223372036854775807)(w:World)(hT:Ten w) :
  Calls Tryz.prog 24 #[.int .i64 n] w fun e w'=>e=.returned (.string ⟨(Lib.itoa n).toArray⟩)/\Ext w w':=by
 refine(Any.strconv_Itoa Xu n h0 h1 w hT).mono ?_;rintro e w' ⟨rfl,k,os,rfl⟩;exact⟨rfl,Xi ((Ext.rf w).drewN k) os⟩
theorem Yn (n:Int)(h0:-9223372036854775808<=n)(h1:n<=9223372036854775807)(w:World)(hT:Ten w) :
  Calls Tryz.prog 12 #[.int .i64 n] w fun e w'=>e=.returned (.string ⟨(Lib.itoa n).toArray⟩)/\Ext w w':=by
 have IT:=Hd (fun(W:World) (x:Ext w W)=>Xj n h0 h1 W (hT.ext x));go_enter Tryz.func12,Tryz.ntmps12;go_wp2_with (fail);refine(IT.out _ XI).mono ?_;rintro e w1 ⟨rfl,x1⟩;have X1:=Hd (Ext.tr (a:=w) XI x1);go_wp2_with (fail);go_ret;exact⟨rfl,X1.out⟩
theorem Zv (a b:Txt) : (⟨a.toArray⟩:ByteArray)++⟨b.toArray⟩=⟨(a++b).toArray⟩:=by
 refine ByteArray.ext ?_;simp
end
end Go.Proofs.YtabmoalgmdlmnaaGreatDoor
