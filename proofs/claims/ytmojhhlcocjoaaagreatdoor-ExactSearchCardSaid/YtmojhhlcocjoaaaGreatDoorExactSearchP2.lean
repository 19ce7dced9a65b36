/- packed and squeezed by programs (see wip/) -/
import Derived.Test.YtmojhhlcocjoaaaGreatDoorExactSearchP1
import Derived.Lib.Hide
import Derived.Laws.Bits64b
import Derived.Lib.TrailingZeros
import Derived.Deep.DeepCutAuto
import Derived.Shelf.Spec.TrailingZeros
import Derived.RangeFuncNested
import Derived.RangeFuncBound
import Derived.RangeFuncCalls
import Derived.RangeFuncLeaves
import Derived.RangeFuncBox
import Derived.Maps.AppendAt
import Derived.Shelf.Abstract
import Derived.Shelf.RegionOpen
import Derived.OwnWalkIn
import Derived.TacticsInMore
import Derived.LoopNIn
import Derived.LoopIn
set_option maxRecDepth 100000
set_option maxHeartbeats 16000000
set_option linter.unusedVariables false
set_option linter.unusedSimpArgs false
namespace Go.Proofs.YtmojhhlcocjoaaaGreatDoor
def Zz (lt:Nat->Nat->Bool) : Nat->List Nat->List Nat
 | 0,p=>p
 | f+1,p=>if p.length<2 then p else List.merge (Zz lt f (p.take (p.length / 2))) (Zz lt f (p.drop (p.length / 2))) (fun x y => !lt y x)
theorem ZH (lt:Nat->Nat->Bool) : ∀ (f:Nat) (p:List Nat),(Zz lt f p).Perm p
 | 0,p=>List.Perm.refl p
 | f+1,p=>by
  unfold Zz;split
  ·exact List.Perm.refl p
  ·refine(List.merge_perm_append _).trans ?_
   have h:=(ZH lt f (p.take (p.length / 2))).append (ZH lt f (p.drop (p.length / 2)))
   rwa [List.take_append_drop] at h
theorem Qc (lt:Nat->Nat->Bool)(f:Nat)(p:List Nat) : (Zz lt f p).length=p.length:=(ZH lt f p).length_eq
def strictly (lt:Nat->Nat->Bool)(a b:Nat) : Prop:=lt a b=true\/(lt b a=false/\a<b)
structure Weak (lt:Nat->Nat->Bool) : Prop where
 asym:∀ a b,lt a b=true->lt b a=false
 neg:∀ a b c,lt a c=true->lt a b=true\/lt b c=true
theorem Weak.trans {lt:Nat->Nat->Bool}(h:Weak lt){a b c:Nat}(h1:strictly lt a b)(h2:strictly lt b c) : strictly lt a c:=by
 rcases h1 with h1 | ⟨h1,l1⟩<;>rcases h2 with h2 | ⟨h2,l2⟩
 ·rcases h.neg a c b h1 with h3 | h3
  ·exact .inl h3
  ·rw[h.asym b c h2] at h3;cases h3
 ·rcases h.neg a c b h1 with h3 | h3
  ·exact .inl h3
  ·rw[h2] at h3;cases h3
 ·rcases h.neg b a c h2 with h3 | h3
  ·rw[h1] at h3;cases h3
  ·exact .inl h3
 ·refine .inr ⟨?_,by omega⟩
  cases h3:lt c a with
  | false=>rfl
  | true =>
   rcases h.neg c b a h3 with h4 | h4
   ·rw[h2] at h4;cases h4
   ·rw[h1] at h4;cases h4
theorem Weak.irrefl {lt:Nat->Nat->Bool}(h:Weak lt)(a:Nat) : ¬strictly lt a a:=by
 rintro (h1 | ⟨_,h1⟩)
 ·have:=h.asym a a h1;rw[h1] at this;cases this
 ·omega
theorem Weak.asymm {lt:Nat->Nat->Bool}(h:Weak lt){a b:Nat}(h1:strictly lt a b) : ¬strictly lt b a:=fun h2=>h.irrefl a (h.trans h1 h2)
theorem Wo {lt:Nat->Nat->Bool}(h:Weak lt) : ∀ (n:Nat) (l r:List Nat),l.length+r.length<=n->l.Pairwise (strictly lt)->r.Pairwise (strictly lt)->(∀ a∈l,∀ b∈r,a<b)->(List.merge l r (fun x y => !lt y x)).Pairwise (strictly lt)
 | n,[],r,_,_,hr,_=>by rw[List.nil_merge];exact hr
 | n,a::l,[],_,hl,_,_=>by rw[List.merge_right];exact hl
 | 0,a::l,b::r,hn,_,_,_=>by simp at hn
 | n+1,a::l,b::r,hn,hl,hr,hlt=>by
  rw[List.cons_merge_cons];have hl':=List.pairwise_cons.1 hl;have hr':=List.pairwise_cons.1 hr;split
  ·rename_i hab
   have hab':lt b a=false:=by simpa using hab
   have R:strictly lt a b:=.inr ⟨hab',hlt a (by simp) b (by simp)⟩;refine List.pairwise_cons.2 ⟨fun x hx=>?_,Wo h n l (b::r) (by simp at hn ⊢;omega) hl'.2 hr (fun x hx y hy=>hlt x (by simp[hx]) y hy)⟩;rcases List.mem_merge.1 hx with hx | hx
   ·exact hl'.1 x hx
   ·rcases List.mem_cons.1 hx with rfl | hx
    ·exact R
    ·exact h.trans R (hr'.1 x hx)
  ·rename_i hab
   have hab':lt b a=true:=by simpa using hab
   have R:strictly lt b a:=.inl hab';refine List.pairwise_cons.2 ⟨fun x hx=>?_,Wo h n (a::l) r (by simp at hn ⊢;omega) hl hr'.2 (fun x hx y hy=>hlt x hx y (by simp[hy]))⟩;rcases List.mem_merge.1 hx with hx | hx
   ·rcases List.mem_cons.1 hx with rfl | hx
    ·exact R
    ·exact h.trans R (hl'.1 x hx)
   ·exact hr'.1 x hx
theorem YV {lt:Nat->Nat->Bool}(h:Weak lt) : ∀ (f:Nat) (p:List Nat),p.length<=f+1->p.Pairwise (· < ·)->(Zz lt f p).Pairwise (strictly lt)
 | 0,p,hf,_=>by
  match p,hf with
  | [],_=>exact List.Pairwise.nil
  | [a],_=>exact List.pairwise_singleton _ _
 | f+1,p,hf,hp=>by
  unfold Zz;split
  ·rename_i h2
   match p,h2 with
   | [],_=>exact List.Pairwise.nil
   | [a],_=>exact List.pairwise_singleton _ _
  ·rename_i h2
   refine Wo h _ _ _ (Nat.le_refl _) (YV h f _ (by simp;omega) (hp.sublist (List.take_sublist _ _))) (YV h f _ (by simp;omega) (hp.sublist (List.drop_sublist _ _))) ?_;intro a ha b hb;rw[(ZH lt f _).mem_iff] at ha hb;have:=List.pairwise_append.1 (by rw[List.take_append_drop (p.length / 2) p];exact hp);exact this.2.2 a ha b hb
def Yc (v w:List Int)(a b:Nat) : Bool :=
 if w.getD b 0=0 then false else if w.getD a 0=0 then true else decide (v.getD b 0*w.getD a 0<v.getD a 0*w.getD b 0)
theorem XH {w:List Int}(hw:∀ x∈w,0<=x)(a:Nat) : 0<=w.getD a 0:=by
 rw[List.getD_eq_getElem?_getD]
 cases h:w[a]? with
 | none=>simp
 | some x=>exact hw x (List.mem_of_getElem? h)
theorem UI {v w:List Int}(hw:∀ x∈w,0<=x) : Weak (Yc v w):=by
 have nn:=XH hw
 constructor
 ·intro a b hab
  unfold Yc at hab ⊢;have na:=nn a;have nb:=nn b
  by_cases b0:w.getD b 0=0
  ·rw[if_pos b0] at hab;cases hab
  ·rw[if_neg b0] at hab
   by_cases a0:w.getD a 0=0
   ·rw[if_pos a0]
   ·rw[if_neg a0] at hab
    rw[if_neg a0,if_neg b0];have:=of_decide_eq_true hab;exact decide_eq_false (by omega)
 ·intro a b c hac
  unfold Yc at hac ⊢;have na:=nn a;have nb:=nn b;have nc:=nn c
  by_cases c0:w.getD c 0=0
  ·rw[if_pos c0] at hac;cases hac
  ·rw[if_neg c0] at hac
   rw[if_neg c0]
   by_cases b0:w.getD b 0=0
   ·right;rw[if_pos b0]
   ·rw[if_neg b0,if_neg b0]
    by_cases a0:w.getD a 0=0
    ·left;rw[if_pos a0]
    ·rw[if_neg a0] at hac ⊢
     have h1:=of_decide_eq_true hac;generalize v.getD a 0=va at *;generalize v.getD b 0=vb at *;generalize v.getD c 0=vc at *;generalize w.getD a 0=wa at *;generalize w.getD b 0=wb at *;generalize w.getD c 0=wc at *
     by_cases h2:vb*wa<va*wb
     ·left;exact decide_eq_true h2
     ·right
      refine decide_eq_true ?_;have h3:va*wb<=vb*wa:=by omega
      have h4:wb*(vc*wa)<wb*(va*wc):=Int.mul_lt_mul_of_pos_left h1 (by omega);have h5:wc*(va*wb)<=wc*(vb*wa):=Int.mul_le_mul_of_nonneg_left h3 nc;have e1:wb*(vc*wa)=wa*(vc*wb):=by rw[Int.mul_comm vc wa,<-Int.mul_assoc,Int.mul_comm wb wa,Int.mul_assoc,Int.mul_comm wb vc]
      have e2:wb*(va*wc)=wc*(va*wb):=by rw[Int.mul_comm va wc,<-Int.mul_assoc,Int.mul_comm wb wc,Int.mul_assoc,Int.mul_comm wb va]
      have e3:wc*(vb*wa)=wa*(vb*wc):=by rw[Int.mul_comm vb wa,<-Int.mul_assoc,Int.mul_comm wc wa,Int.mul_assoc,Int.mul_comm wc vb]
      rw[e1,e2] at h4;rw[e3] at h5;exact Int.lt_of_mul_lt_mul_left (Int.lt_of_lt_of_le h4 h5) na
def ZW (v w:List Int) : List Nat:=Zz (Yc v w) v.length (List.range v.length)
theorem WH (v w:List Int) : (ZW v w).Perm (List.range v.length):=ZH _ _ _
theorem Qd (v w:List Int) : (ZW v w).length=v.length:=by rw[(WH v w).length_eq,List.length_range]
theorem QM {v w:List Int}(hw:∀ x∈w,0<=x) : (ZW v w).Pairwise (strictly (Yc v w)) :=
 YV (UI hw) _ _ (by simp) List.pairwise_lt_range
theorem Za6 {v w:List Int}{a:Nat} : a∈ZW v w↔a<v.length:=by rw[(WH v w).mem_iff,List.mem_range]
theorem Zcj {v w:List Int}{k a:Nat}(h:(ZW v w)[k]?=some a) : a<v.length:=Za6.1 (List.mem_of_getElem? h)
def stP (room out:Int) : List Int->List Int->List Int->Option (Int×Int)
 | _,_,[]=>some (room,out)
 | w::ws,v::vs,x::p=>if x=1 then(if room-w<0 then none else stP (room-w) out ws vs p) else if x=0 then(if room<0 then none else stP room (out+v) ws vs p) else none
 | _,_,_::_=>none
def Zq (room:Int) : List Int->List Int->Int
 | w::ws,v::vs=>if room<w then v*room / w else v+Zq (room-w) ws vs
 | _,_=>0
def Zi : List Int->Int
 | []=>0
 | x::l=>x+Zi l
def WJ (cap:Int)(ws vs p:List Int) : List Int×Int :=
 match stP cap 0 ws vs p with
 | none=>([],1)
 | some (room,_)=>match ws.drop p.length with
  | []=>([],0)
  | w::_=>if w<=room then([1,0],0) else([0],0)
def Yf (cap:Int)(ws vs p:List Int) : Int×Int :=
 match stP cap 0 ws vs p with
 | none=>(0,1)
 | some (room,out)=>(out+Zi (vs.drop p.length)-Zq room (ws.drop p.length) (vs.drop p.length),0)
theorem WK {ws vs:List Int} : ∀ {p:List Int} {room out:Int},ws.length<p.length->stP room out ws vs p=none:=by
 induction ws generalizing vs with
 | nil =>
  intro p room out h
  cases p with
  | nil=>simp at h
  | cons x p=>rfl
 | cons w ws ih =>
  intro p room out h
  cases p with
  | nil=>simp at h
  | cons x p =>
   cases vs with
   | nil=>rfl
   | cons v vs =>
    have h':ws.length<p.length:=by simpa using h
    unfold stP;rw[ih h',ih h'];split<;>(try split)<;>(try split)<;>rfl
theorem WM {ws vs:List Int} : ∀ {p:List Int} {room out r o:Int},(∀ x∈ws,0<=x)->0<=room->stP room out ws vs p=some (r,o)->0<=r/\r<=room:=by
 induction ws generalizing vs with
 | nil =>
  intro p room out r o _ h0 h
  cases p with
  | nil=>simp[stP] at h;omega
  | cons x p=>simp[stP] at h
 | cons w ws ih =>
  intro p room out r o hw h0 h
  cases p with
  | nil=>simp[stP] at h;omega
  | cons x p =>
   cases vs with
   | nil=>simp[stP] at h
   | cons v vs =>
    unfold stP at h;have hw0:0<=w:=hw w (by simp);have hw':∀ x∈ws,0<=x:=fun x hx=>hw x (by simp[hx])
    split at h
    ·split at h
     ·cases h
     ·have:=ih hw' (by omega) h;omega
    ·split at h
     ·split at h
      ·cases h
      ·exact ih hw' h0 h
     ·cases h
theorem UV {ws vs:List Int} : ∀ {p:List Int} {room out r o:Int},(∀ x∈vs,0<=x/\x<=2147483647)->stP room out ws vs p=some (r,o)->out<=o/\o<=out+2147483647*p.length:=by
 induction ws generalizing vs with
 | nil =>
  intro p room out r o _ h
  cases p with
  | nil=>simp[stP] at h;simp;omega
  | cons x p=>simp[stP] at h
 | cons w ws ih =>
  intro p room out r o hv h
  cases p with
  | nil=>simp[stP] at h;simp;omega
  | cons x p =>
   cases vs with
   | nil=>simp[stP] at h
   | cons v vs =>
    unfold stP at h;have hv0:=hv v (by simp);have hv':∀ x∈vs,0<=x/\x<=2147483647:=fun x hx=>hv x (by simp[hx])
    simp only[List.length_cons,Int.natCast_add,Int.natCast_one];split at h
    ·split at h
     ·cases h
     ·have:=ih hv' h;omega
    ·split at h
     ·split at h
      ·cases h
      ·have:=ih hv' h;omega
     ·cases h
theorem ZbN {ws vs:List Int} : ∀ {p q:List Int} {room out:Int},stP room out ws vs (p++q)=(stP room out ws vs p).bind fun(r,o)=>stP r o (ws.drop p.length) (vs.drop p.length) q:=by
 induction ws generalizing vs with
 | nil =>
  intro p q room out
  cases p with
  | nil=>simp[stP]
  | cons x p=>simp[stP]
 | cons w ws ih =>
  intro p q room out
  cases p with
  | nil=>simp[stP]
  | cons x p =>
   cases vs with
   | nil=>simp[stP]
   | cons v vs =>
    simp only[List.cons_append,stP,List.length_cons,List.drop_succ_cons];rw[ih,ih];split<;>(try split)<;>(try split)<;>rfl
theorem Xv : ∀ {ws vs:List Int} {room:Int},0<=room->(∀ x∈ws,0<=x)->(∀ x∈vs,0<=x)->0<=Zq room ws vs
 | [],vs,room,_,_,_=>by cases vs<;>simp[Zq]
 | w::ws,[],room,_,_,_=>by simp[Zq]
 | w::ws,v::vs,room,h0,hw,hv=>by
  unfold Zq;have hv0:=hv v (by simp);have hw0:=hw w (by simp);split
  ·exact Int.ediv_nonneg (Int.mul_nonneg hv0 h0) hw0
  ·have:=Xv (ws:=ws) (vs:=vs) (room:=room-w) (by omega) (fun x hx=>hw x (by simp[hx])) (fun x hx=>hv x (by simp[hx]))
   omega
theorem Yy : ∀ {vs:List Int},(∀ x∈vs,0<=x)->0<=Zi vs
 | [],_=>by simp[Zi]
 | v::vs,hv=>by
  have:=hv v (by simp);have:=Yy (vs:=vs) fun x hx=>hv x (by simp[hx])
  simp only[Zi];omega
theorem Wp : ∀ {ws vs:List Int} {room:Int},0<=room->(∀ x∈ws,0<=x)->(∀ x∈vs,0<=x)->Zq room ws vs<=Zi vs
 | [],vs,room,_,_,hv=>by
  have:0<=Zi vs:=Yy hv
  cases vs<;>simpa [Zq] using this
 | w::ws,[],room,_,_,_=>by simp[Zq,Zi]
 | w::ws,v::vs,room,h0,hw,hv=>by
  unfold Zq Zi;have hv0:=hv v (by simp);have hw0:=hw w (by simp);have hs:0<=Zi vs:=Yy fun x hx=>hv x (by simp[hx])
  split
  ·rename_i h
   have h1:v*room<=v*w:=Int.mul_le_mul_of_nonneg_left (by omega) hv0;have h2:v*room / w<=v*w / w:=Int.ediv_le_ediv (by omega) h1;rw[Int.mul_ediv_cancel _ (by omega)] at h2;omega
  ·have:=Wp (ws:=ws) (vs:=vs) (room:=room-w) (by omega) (fun x hx=>hw x (by simp[hx])) (fun x hx=>hv x (by simp[hx]))
   omega
def J0 (w0 v0:Int) : List Int->List Int->Prop
 | w::ws,v::vs=>v*w0<=v0*w/\J0 w0 v0 ws vs
 | _,_=>True
def Falls : List Int->List Int->Prop
 | w::ws,v::vs=>J0 w v ws vs/\Falls ws vs
 | _,_=>True
theorem Wq {w0 v0:Int}(h0:0<=w0) : ∀ {ws vs:List Int} {room:Int},0<=room->0<=v0->(∀ x∈ws,0<=x)->(∀ x∈vs,0<=x)->J0 w0 v0 ws vs->w0*Zq room ws vs<=v0*room
 | [],vs,room,hr,hv0,_,_,_=>by
  have:0<=v0*room:=Int.mul_nonneg hv0 hr
  cases vs<;>simpa [Zq] using this
 | w::ws,[],room,hr,hv0,_,_,_=>by
  have:0<=v0*room:=Int.mul_nonneg hv0 hr
  simpa [Zq] using this
 | w::ws,v::vs,room,hr,hv0,hw,hv,hu=>by
  unfold Zq;have hw0:=hw w (by simp);have hvv:=hv v (by simp);obtain⟨hu1,hu2⟩:=hu;split
  ·rename_i hlt
   have hpos:0<w:=by omega
   have h1:v*room / w*w<=v*room:=Int.ediv_mul_le _ (by omega);have h2:w0*(v*room / w*w)<=w0*(v*room):=Int.mul_le_mul_of_nonneg_left h1 h0;have h3:room*(v*w0)<=room*(v0*w):=Int.mul_le_mul_of_nonneg_left hu1 hr;have e1:w0*(v*room / w*w)=w*(w0*(v*room / w)):=by rw[Int.mul_comm (v*room / w) w,<-Int.mul_assoc,Int.mul_comm w0 w,Int.mul_assoc]
   have e2:w0*(v*room)=room*(v*w0):=by rw[<-Int.mul_assoc,Int.mul_comm (w0*v) room,Int.mul_comm w0 v]
   have e3:room*(v0*w)=w*(v0*room):=by rw[<-Int.mul_assoc,Int.mul_comm (room*v0) w,Int.mul_comm room v0]
   rw[e1,e2] at h2;rw[e3] at h3;exact Int.le_of_mul_le_mul_left (Int.le_trans h2 h3) hpos
  ·have ih:=Wq h0 (ws:=ws) (vs:=vs) (room:=room-w) (by omega) hv0 (fun x hx=>hw x (by simp[hx])) (fun x hx=>hv x (by simp[hx])) hu2
   rw[Int.mul_add,Int.mul_comm w0 v];rw[Int.mul_sub] at ih;omega
theorem UJ {w0 v0:Int}(h0:0<=w0) : ∀ {ws vs:List Int} {room:Int},w0<=room->0<=v0->(∀ x∈ws,0<=x)->(∀ x∈vs,0<=x)->J0 w0 v0 ws vs->Falls ws vs->Zq room ws vs<=v0+Zq (room-w0) ws vs
 | [],vs,room,hr,hv0,_,_,_,_=>by cases vs<;>simpa [Zq] using hv0
 | w::ws,[],room,hr,hv0,_,_,_,_=>by simpa [Zq] using hv0
 | w::ws,v::vs,room,hr,hv0,hw,hv,hu,hf=>by
  have hw0:=hw w (by simp);have hvv:=hv v (by simp);obtain⟨hu1,hu2⟩:=hu;obtain⟨hf1,hf2⟩:=hf;have hw':∀ x∈ws,0<=x:=fun x hx=>hw x (by simp[hx])
  have hv':∀ x∈vs,0<=x:=fun x hx=>hv x (by simp[hx])
  simp only[Zq]
  by_cases a1:room<w
  ·rw[if_pos a1,if_pos (by omega)]
   have hpos:0<w:=by omega
   have e:v*room<=v*(room-w0)+v0*w:=by rw[Int.mul_sub];omega
   have h1:v*room / w<=(v*(room-w0)+v0*w) / w:=Int.ediv_le_ediv hpos e;rw[Int.add_mul_ediv_right _ _ (by omega)] at h1;omega
  ·rw[if_neg a1]
   by_cases a2:room-w0<w
   ·rw[if_pos a2]
    have hpos:0<w:=by omega
    have h1:=Wq hw0 (ws:=ws) (vs:=vs) (room:=room-w) (by omega) hvv hw' hv' hf1;have h2:v+Zq (room-w) ws vs-v0<=v*(room-w0) / w:=by
     rw[Int.le_ediv_iff_mul_le hpos];rw[Int.mul_comm,Int.mul_sub,Int.mul_add,Int.mul_sub];rw[Int.mul_sub] at h1;rw[Int.mul_comm w v,Int.mul_comm w v0];omega
    omega
   ·rw[if_neg a2]
    have ih:=UJ h0 (ws:=ws) (vs:=vs) (room:=room-w) (by omega) hv0 hw' hv' hu2 hf2;have e:room-w-w0=room-w0-w:=by omega
    rw[e] at ih;omega
theorem Jw {w v:Int}{ws vs:List Int}{room:Int}(hr:0<=room)(hw:∀ x∈w::ws,0<=x)(hv:∀ x∈v::vs,0<=x)(hf:Falls (w::ws) (v::vs)) : Zq room ws vs<=Zq room (w::ws) (v::vs):=by
 have hw0:=hw w (by simp);have hv0:=hv v (by simp);have hw':∀ x∈ws,0<=x:=fun x hx=>hw x (by simp[hx])
 have hv':∀ x∈vs,0<=x:=fun x hx=>hv x (by simp[hx])
 obtain⟨hu,hf'⟩:=hf
 conv=>rhs;unfold Zq
 split
 ·rename_i h
  have hpos:0<w:=by omega
  have h1:=Wq hw0 hr hv0 hw' hv' hu;rw[Int.le_ediv_iff_mul_le hpos,Int.mul_comm];exact h1
 ·exact UJ hw0 (by omega) hv0 hw' hv' hu hf'
def Zk (l:List Nat)(v:List Int) : List Int:=l.map fun n=>v.getD n 0
theorem J1 {v w:List Int}{a:Nat}(hv:∀ x∈v,0<=x)(hw:∀ x∈w,0<=x) : ∀ {l:List Nat},(∀ b∈l,strictly (Yc v w) a b)->J0 (w.getD a 0) (v.getD a 0) (Zk l w) (Zk l v)
 | [],_=>trivial
 | b::l,h=>by
  refine⟨?_,J1 hv hw (l:=l) fun c hc=>h c (by simp[hc])⟩;have hb:=h b (by simp);have h2:Yc v w b a=false:=by
   rcases hb with hb | ⟨hb,_⟩
   ·exact(UI hw).asym _ _ hb
   ·exact hb
  unfold Yc at h2;have va:=XH hv a;have wa:=XH hw a;have wb:=XH hw b
  by_cases a0:w.getD a 0=0
  ·rw[a0,Int.mul_zero];exact Int.mul_nonneg va wb
  ·rw[if_neg a0] at h2
   by_cases b0:w.getD b 0=0
   ·rw[if_pos b0] at h2;cases h2
   ·rw[if_neg b0] at h2
    have:=of_decide_eq_false h2;show v.getD b 0*w.getD a 0<=v.getD a 0*w.getD b 0;omega
theorem J2 {v w:List Int}(hv:∀ x∈v,0<=x)(hw:∀ x∈w,0<=x) : ∀ {l:List Nat},l.Pairwise (strictly (Yc v w))->Falls (Zk l w) (Zk l v)
 | [],_=>trivial
 | a::l,h=>by
  have h':=List.pairwise_cons.1 h;exact⟨J1 hv hw h'.1,J2 hv hw h'.2⟩
theorem Falls.drop : ∀ {k:Nat} {ws vs:List Int},Falls ws vs->Falls (ws.drop k) (vs.drop k)
 | 0,ws,vs,h=>h
 | k+1,[],vs,h=>by simp[Falls]
 | k+1,w::ws,[],h=>by simp[Falls]
 | k+1,w::ws,v::vs,h=>by rw[List.drop_succ_cons,List.drop_succ_cons];exact Falls.drop h.2
def ZV (room out:Int) : List Int->List Int->Int
 | w::ws,v::vs=>if w<=room then(if ZV room (out+v) ws vs<ZV (room-w) out ws vs then ZV room (out+v) ws vs else ZV (room-w) out ws vs) else ZV room (out+v) ws vs
 | _,_=>out
theorem Qe : ∀ {ws vs:List Int} {room out:Int},0<=room->(∀ x∈ws,0<=x)->(∀ x∈vs,0<=x)->ws.length=vs.length->Falls ws vs->out+Zi vs-Zq room ws vs<=ZV room out ws vs
 | [],[],room,out,_,_,_,_,_=>by simp[Zi,Zq,ZV]
 | [],_::_,_,_,_,_,_,h,_=>by simp at h
 | _::_,[],_,_,_,_,_,h,_=>by simp at h
 | w::ws,v::vs,room,out,h0,hw,hv,hl,hf=>by
  have hfr:=Jw h0 hw hv hf;have hw':∀ x∈ws,0<=x:=fun x hx=>hw x (by simp[hx])
  have hv':∀ x∈vs,0<=x:=fun x hx=>hv x (by simp[hx])
  have hl':ws.length=vs.length:=by simpa using hl
  have h1:=Qe (out:=out+v) h0 hw' hv' hl' hf.2;unfold ZV;simp only[Zi];split
  ·rename_i hle
   have h2:=Qe (room:=room-w) (out:=out) (by omega) hw' hv' hl' hf.2;have e:Zq room (w::ws) (v::vs)=v+Zq (room-w) ws vs:=by rw[Zq,if_neg (by omega)]
   rw[e] at hfr ⊢;split<;>omega
  ·omega
theorem Yj : ∀ {ws vs:List Int} {room out:Int},0<=out->(∀ x∈vs,0<=x)->0<=ZV room out ws vs
 | [],vs,room,out,h,_=>by cases vs<;>simpa [ZV] using h
 | w::ws,[],room,out,h,_=>by simpa [ZV] using h
 | w::ws,v::vs,room,out,h,hv=>by
  have hv0:=hv v (by simp);have hv':∀ x∈vs,0<=x:=fun x hx=>hv x (by simp[hx])
  have h1:=Yj (ws:=ws) (vs:=vs) (room:=room) (out:=out+v) (by omega) hv';have h2:=Yj (ws:=ws) (vs:=vs) (room:=room-w) (out:=out) h hv';unfold ZV;split
  ·split<;>assumption
  ·assumption
theorem Yz {a b:List Int}(h:a.Perm b) : Zi a=Zi b:=by
 induction h with
 | nil=>rfl
 | cons x _ ih=>simp[Zi,ih]
 | swap x y l=>simp[Zi];omega
 | trans _ _ h1 h2=>rw[h1,h2]
theorem ZdA (a b:List Int) : Zi (a++b)=Zi a+Zi b:=by
 induction a with
 | nil=>simp[Zi]
 | cons x a ih=>simp[Zi,ih];omega
def Ul (l:List Nat)(p:List Int) : Nat->List Int
 | 0=>List.replicate l.length 0
 | k+1=>(Ul l p k).set (l.getD k 0) (p.getD k 0)
theorem VQ (l:List Nat)(p:List Int) : ∀ k,(Ul l p k).length=l.length
 | 0=>by simp[Ul]
 | k+1=>by simp[Ul,VQ l p k]
theorem ZbO {l:List Nat}{p:List Int}(hn:l.Nodup)(hl:∀ a∈l,a<l.length) : ∀ k,k<=l.length->∀ j,j<k->(Ul l p k)[l.getD j 0]?=some (p.getD j 0)
 | 0,_,j,h=>by omega
 | k+1,hk,j,h=>by
  unfold Ul;have ek:l.getD k 0=l[k]:=by simp[List.getD,List.getElem?_eq_getElem (show k<l.length by omega)]
  have ej:l.getD j 0=l[j]:=by simp[List.getD,List.getElem?_eq_getElem (show j<l.length by omega)]
  by_cases hj:j=k
  ·subst hj
   rw[List.getElem?_set_self (by rw[VQ,ek];exact hl _ (List.getElem_mem _))]
  ·have hne:l.getD k 0≠l.getD j 0:=fun h'=>hj (((List.getElem?_inj (i:=j) (j:=k) (by omega) hn).1 (by
    rw[List.getElem?_eq_getElem (show k<l.length by omega),List.getElem?_eq_getElem (show j<l.length by omega),<-ek,<-ej,h'])))
   rw[List.getElem?_set_ne hne,ZbO hn hl k (by omega) j (by omega)]
def Z0 (x ws:List Int) : Int:=Zi (List.zipWith (fun x w=>if x=1 then w else 0) x ws)
def Yq (x vs:List Int) : Int:=Zi (List.zipWith (fun x v=>if x=1 then 0 else v) x vs)
def ZeT (cap:Int)(ws vs x:List Int) : Int×Int:=if cap<Z0 x ws then(0,9) else(Yq x vs,0)
theorem YG (f:Int->Int->Int)(x w:List Int)(h:x.length=w.length) : List.zipWith f x w=(List.range x.length).map fun j=>f (x.getD j 0) (w.getD j 0):=by
 apply List.ext_getElem
 ·simp[h]
 ·intro k h1 h2
  have k1:k<x.length:=by simp at h2;omega
  have k2:k<w.length:=by omega
  simp[List.getD,List.getElem?_eq_getElem k1,List.getElem?_eq_getElem k2]
theorem VR (f:Int->Int->Int){l:List Nat}{n:Nat}(hp:l.Perm (List.range n)){p w:List Int}(lp:p.length=n)(lw:w.length=n) :
  Zi (List.zipWith f (Ul l p n) w)=Zi (List.zipWith f p (Zk l w)):=by
 have hl:l.length=n:=by rw[hp.length_eq,List.length_range]
 have hnd:l.Nodup:=hp.nodup_iff.2 List.nodup_range;have hlt:∀ a∈l,a<l.length:=fun a ha=>by rw[hl];exact List.mem_range.1 (hp.mem_iff.1 ha)
 have la:(Ul l p n).length=n:=by rw[VQ,hl]
 rw[YG f _ w (by rw[la,lw]),la,<-Yz (hp.map _),YG f p (Zk l w) (by simp[Zk,lp,hl]),lp]
 congr 1
 apply List.ext_getElem
 ·simp[hl]
 ·intro k h1 h2
  have hk:k<l.length:=by simpa using h1
  have hk':k<n:=by omega
  simp only[List.getElem_map,List.getElem_range];have e1:(Ul l p n).getD (l[k]) 0=p.getD k 0:=by
   have h:=ZbO (p:=p) hnd hlt n (by omega) k hk';have ek:l.getD k 0=l[k]:=by simp[List.getD,List.getElem?_eq_getElem hk]
   rw[ek] at h;simp[List.getD,h]
  have e2:(Zk l w).getD k 0=w.getD (l[k]) 0:=by
   unfold Zk;simp[List.getD,List.getElem?_map,List.getElem?_eq_getElem hk]
  rw[e1,e2]
theorem ZbP {l:List Nat}{p:List Int}(h:∀ x∈p,x=0\/x=1) : ∀ k,∀ x∈Ul l p k,x=0\/x=1
 | 0,x,hx=>.inl (List.eq_of_mem_replicate hx)
 | k+1,x,hx=>by
  rcases List.mem_or_eq_of_mem_set hx with h1 | h1
  ·exact ZbP h k x h1
  ·subst h1
   cases hv:p[k]? with
   | none=>simp[List.getD,hv]
   | some y=>simpa [List.getD,hv] using h y (List.mem_of_getElem? hv)
def Xg (cap:Int)(ws vs p:List Int) : Int:=match stP cap 0 ws vs p with
 | none=>-1
 | some (r,o)=>ZV r o (ws.drop p.length) (vs.drop p.length)
section
variable {cap:Int} {ws vs p ws' vs':List Int} {r o w v:Int}
theorem Vg {l l' p:List Int}{x y:Int}(h:l.drop p.length=x::l') : l.drop (p++[y]).length=l':=by
 have h1:=congrArg List.tail h;rw[List.tail_drop] at h1
 simpa using h1
theorem X8 (h:stP cap 0 ws vs p=some (r,o)) : Xg cap ws vs p=ZV r o (ws.drop p.length) (vs.drop p.length):=by unfold Xg;rw[h]
theorem QU (h:stP cap 0 ws vs p=some (r,o))(hw:ws.drop p.length=w::ws')(hv:vs.drop p.length=v::vs')(hle:w<=r) : stP cap 0 ws vs (p++[1])=some (r-w,o):=by
 rw[ZbN,h];simp only[Option.bind_some,hw,hv,stP,if_true];rw[if_neg (by omega)]
theorem Um (h:stP cap 0 ws vs p=some (r,o))(hw:ws.drop p.length=w::ws')(hv:vs.drop p.length=v::vs')(h0:0<=r) : stP cap 0 ws vs (p++[0])=some (r,o+v):=by
 rw[ZbN,h];simp only[Option.bind_some,hw,hv,stP,if_true];rw[if_neg (by decide),if_neg (by omega)]
theorem J3 (h:stP cap 0 ws vs p=some (r,o))(hw:ws.drop p.length=w::ws')(hv:vs.drop p.length=v::vs')(hle:w<=r) : Xg cap ws vs (p++[1])=ZV (r-w) o ws' vs':=by
 rw[X8 (QU h hw hv hle),Vg hw,Vg hv]
theorem Qf (h:stP cap 0 ws vs p=some (r,o))(hw:ws.drop p.length=w::ws')(hv:vs.drop p.length=v::vs')(h0:0<=r) : Xg cap ws vs (p++[0])=ZV r (o+v) ws' vs':=by
 rw[X8 (Um h hw hv h0),Vg hw,Vg hv]
end
def ZF (f:Int->Int) : Int->List Int->Int
 | b,[]=>b
 | b,x::l=>ZF f (if b<0 then f x else if f x<b then f x else b) l
theorem J4 {cap:Int}{ws vs p:List Int}{r o:Int}(h:stP cap 0 ws vs p=some (r,o))(h0:0<=r)(hl:p.length<ws.length)(hlv:ws.length=vs.length)(hv0:∀ x∈vs,0<=x)(ho:0<=o) :
  ZF (fun x=>Xg cap ws vs (p++[x])) (-1) (WJ cap ws vs p).1=Xg cap ws vs p:=by
 obtain⟨w,ws',hw⟩:∃ w ws',ws.drop p.length=w::ws':=⟨_,_,List.drop_eq_getElem_cons hl⟩;obtain⟨v,vs',hv⟩:∃ v vs',vs.drop p.length=v::vs':=⟨_,_,List.drop_eq_getElem_cons (by omega)⟩;have hvs:∀ x∈v::vs',0<=x:=fun x hx=>hv0 x (List.mem_of_mem_drop (hv ▸ hx))
 have e:=X8 h;rw[hw,hv] at e;unfold WJ;rw[h,e];simp only[hw];have h2:=Qf h hw hv h0;unfold ZV;split
 ·rename_i hle
  have h1:=J3 h hw hv hle;have n1:0<=ZV (r-w) o ws' vs':=Yj ho fun x hx=>hvs x (by simp[hx])
  simp only[ZF,h1,h2];rw[if_pos (show (-1:Int)<0 by decide),if_neg (show ¬ZV (r-w) o ws' vs'<0 by omega)]
 ·simp only[ZF,h2]
  rw[if_pos (show (-1:Int)<0 by decide)]
theorem J5 {cap:Int}{ws vs p:List Int}(h0:0<=cap)(hw:∀ x∈ws,0<=x)(hv:∀ x∈vs,0<=x/\x<=2147483647)(hl:ws.length=vs.length)(hf:Falls ws vs)(he:(Yf cap ws vs p).2=0) :
  0<=(Yf cap ws vs p).1/\(Yf cap ws vs p).1<=Xg cap ws vs p:=by
 unfold Yf at he ⊢
 cases hs:stP cap 0 ws vs p with
 | none=>rw[hs] at he;simp at he
 | some q =>
  obtain⟨r,o⟩:=q;have h1:=(WM hw h0 hs).1;have h2:=(UV hv hs).1;have hw':∀ x∈ws.drop p.length,0<=x:=fun x hx=>hw x (List.mem_of_mem_drop hx)
  have hv':∀ x∈vs.drop p.length,0<=x:=fun x hx=>(hv x (List.mem_of_mem_drop hx)).1
  rw[X8 hs];simp only;have h3:=Wp h1 hw' hv';have h4:=Qe (out:=o) h1 hw' hv' (by simp[hl]) hf.drop;exact⟨by omega,h4⟩
theorem Zck (cap:Int)(ws vs p:List Int) : (Yf cap ws vs p).2=0\/((Yf cap ws vs p).2=1/\stP cap 0 ws vs p=none):=by
 unfold Yf
 cases hs:stP cap 0 ws vs p with
 | none=>exact .inr ⟨rfl,rfl⟩
 | some q=>exact .inl rfl
theorem ZdB {cap:Int}{ws vs p:List Int}{r o:Int}(h:stP cap 0 ws vs p=some (r,o))(hl:p.length=ws.length)(hlv:ws.length=vs.length) : Yf cap ws vs p=(o,0)/\Xg cap ws vs p=o:=by
 have d1:ws.drop p.length=[]:=List.drop_of_length_le (by omega);have d2:vs.drop p.length=[]:=List.drop_of_length_le (by omega);rw[X8 h];unfold Yf;rw[h];simp[d1,d2,Zi,Zq,ZV]
end Go.Proofs.YtmojhhlcocjoaaaGreatDoor
namespace Go.Proofs.YtmojhhlcocjoaaaGreatDoor
open Go.RowKit Go.ChangeShapes Go.WideShapes Go.ChangeAt Go.Deep
def Small31 (xs:List Int) : Prop:=∀ x∈xs,0<=x/\x<=2147483647
theorem Small31.get {xs:List Int}(h:Small31 xs){k:Nat}{x:Int}(hk:xs[k]?=some x) : 0<=x/\x<=2147483647:=h x (List.mem_of_getElem? hk)
theorem Zcl {n:Int}(h:Xs n=0) : 0<=n/\n<=2147483647:=by
 unfold Xs at h;split at h
 ·cases h
 ·split at h
  ·cases h
  ·omega
theorem Vr : ∀ {l:List Int},Ye l=0->∀ x∈l,0<=x/\x<=2147483647
 | [],_,x,hx=>by cases hx
 | y::l,h,x,hx=>by
  unfold Ye at h;split at h
  ·rename_i h0
   rcases List.mem_cons.1 hx with rfl | hx
   ·exact Zcl h0
   ·exact Vr h x hx
  ·exact absurd h ‹_›
theorem QV : ∀ {xs ys:List Int},xs.length=ys.length->(∀ x∈xs,x∈Xu xs ys)/\(∀ y∈ys,y∈Xu xs ys)
 | [],[],_=>by simp
 | x::xs,y::ys,h=>by
  obtain⟨h1,h2⟩:=QV (xs:=xs) (ys:=ys) (by simpa using h);simp only[Xu];refine⟨fun z hz=>?_,fun z hz=>?_⟩
  ·rcases List.mem_cons.1 hz with rfl | hz
   ·simp
   ·simp[h1 z hz]
  ·rcases List.mem_cons.1 hz with rfl | hz
   ·simp
   ·simp[h2 z hz]
 | [],_::_,h=>by simp at h
 | _::_,[],h=>by simp at h
structure KnapOk (i:InstP) : Prop where
 n1:1<=i.n
 n2:i.n<=64
 w:(i.weight.length:Int)=i.n
 v:(i.value.length:Int)=i.n
 cap:0<=i.cap/\i.cap<=2147483647
 sw:Small31 i.weight
 sv:Small31 i.value
 cost:i.cost=[]
theorem Z3 {i:InstP}(h:Zl i=0)(hk:i.kind=1) : KnapOk i:=by
 unfold Zl at h
 by_cases hs:Xt i.kind i.n=0
 ·rw[if_pos hs] at h
  by_cases hsh:WG i=true
  ·rw[if_pos hsh,if_pos hk] at h
   unfold WG at hsh;rw[if_pos hk] at hsh;simp only[Bool.and_eq_true,beq_iff_eq] at hsh;obtain⟨⟨h1,h2⟩,h3⟩:=hsh;unfold Xt at hs;rw[if_pos hk] at hs;have hn:1<=i.n/\i.n<=64:=by
    split at hs
    ·cases hs
    ·split at hs
     ·cases hs
     ·omega
   have hl:i.weight.length=i.value.length:=by omega
   unfold ZR at h;rw[List.take_length,hl,List.take_length] at h;have hb:=Vr h;obtain⟨m1,m2⟩:=QV hl;exact⟨hn.1,hn.2,h1,h2,hb _ (by simp),fun x hx=>hb x (by simp[m1 x hx]),fun x hx=>hb x (by simp[m2 x hx]),List.eq_nil_of_length_eq_zero (by omega)⟩
  ·rw[if_neg hsh] at h
   cases h
 ·rw[if_neg hs] at h
  exact absurd h hs
def BoxI (w:World)(g:Nat)(xs:List Int) : Prop:=∃ A c,Blk w g 22 #[.slice A xs.length c]/\RdI w A xs/\xs.length<=9223372036854775807
theorem BoxI.ext {w w':World}{g:Nat}{xs:List Int}(h:BoxI w g xs)(x:Ext w w') : BoxI w' g xs:=by
 obtain⟨A,c,h1,h2,h3⟩:=h;exact⟨A,c,h1.ext x,h2.ext x,h3⟩
theorem Zcm (vs ws:List Int)(gv gw a b:Nat)(w:World)(hv:BoxI w gv vs)(hw:BoxI w gw ws)(sv:Small31 vs)(sw:Small31 ws)(ha:a<vs.length)(hb:b<vs.length)(ha':a<ws.length)(hb':b<ws.length) :
  Calls Tryz.prog 127 (#[.int .i64 a,.int .i64 b]++#[.pointer (some ⟨gw,0,none⟩),.pointer (some ⟨gv,0,none⟩)]) w fun e w'=>e=.returned (.bool (Yc vs ws a b))/\Ext w w':=by
 obtain⟨A,c,B1,rv,lv⟩:=hv;obtain⟨B,d,B2,rw',lw⟩:=hw;obtain⟨g1,o1,va,rfl,z1,c1,e1,_⟩:=rv.at ha;obtain⟨g1',o1',vb,h1',z1',c2,e2,_⟩:=rv.at hb;obtain⟨rfl,rfl⟩:g1=g1'/\o1=o1':=by injection h1' with h;injection h with h3 h4;exact⟨h3,h4⟩
 obtain⟨g2,o2,wa,rfl,z2,c3,e3,_⟩:=rw'.at ha';obtain⟨g2',o2',wb,h2',z2',c4,e4,_⟩:=rw'.at hb';obtain⟨rfl,rfl⟩:g2=g2'/\o2=o2':=by injection h2' with h;injection h with h3 h4;exact⟨h3,h4⟩
 have bva:=sv.get e1.out;have bvb:=sv.get e2.out;have bwa:=sw.get e3.out;have bwb:=sw.get e4.out;have HA:Hid (Yc vs ws a b=if wb=0 then false else if wa=0 then true else decide (vb*wa<va*wb)):=Hd (by
  unfold Yc;rw[getD_some e1.out,getD_some e2.out,getD_some e3.out,getD_some e4.out])
 have d1:=B1.c0;have d2:=B2.c0;have y1:=B1.lt;have y2:=B2.lt;clear h1' h2' rv rw' B1 B2 sv sw
 by_cases hwb:wb=0
 ·subst hwb
  have HR:Hid (Yc vs ws a b=false):=by
   have h:=HA.out;rw[if_pos rfl] at h;exact h
  go_enter Tryz.func127,Tryz.ntmps127;go_wp2;go_ret;exact⟨QR HR.out.symm,Ext.rf _⟩
 ·have hwb':(wb==0)=false:=by simpa using hwb
  by_cases hwa:wa=0
  ·subst hwa
   have HR:Hid (Yc vs ws a b=true):=by
    have h:=HA.out;rw[if_neg hwb,if_pos rfl] at h;exact h
   clear hwb;go_enter Tryz.func127,Tryz.ntmps127;go_wp2;go_ret;exact⟨QR HR.out.symm,Ext.rf _⟩
  ·have hwa':(wa==0)=false:=by simpa using hwa
   have HR:Hid (Yc vs ws a b=decide (0<Vu va wb vb wa)):=by
    have h:=HA.out;rw[if_neg hwb,if_neg hwa] at h;have h2:decide (vb*wa<va*wb)=decide (0<Vu va wb vb wa):=by
     rw[decide_eq_decide];exact(Za5 bva.1 bwb.1 bvb.1 bwa.1).symm
    rw[h2] at h;exact h
   clear hwb hwa;go_enter Tryz.func127,Tryz.ntmps127;go_wp2_with (fail);go_region_held3 (fun w'=>w'.cell? ⟨gv,0,none⟩=some (.slice (some ⟨g1,o1,none⟩) vs.length c)/\w'.cell? ⟨gw,0,none⟩=some (.slice (some ⟨g2,o2,none⟩) ws.length d)/\w'.cell? ⟨g1,o1+a,none⟩=some (.int .i64 va)/\w'.cell? ⟨g1,o1+b,none⟩=some (.int .i64 vb)/\w'.cell? ⟨g2,o2+a,none⟩=some (.int .i64 wa)/\w'.cell? ⟨g2,o2+b,none⟩=some (.int .i64 wb)) (go_keep)
    (first
     | (go_at_call 128;refine(Zci va wb vb wa _ bva bwb bvb bwa).mono ?_;rintro e w2 ⟨rfl,x2⟩;have X2:=Ext.tr (a:=w) (by(repeat (first | assumption | exact Ext.rf _ | apply Ext.drew | apply Ext.drewN | apply Ext.alloc))) x2;have k1:=Zg X2 y1 d1;have k2:=Zg X2 y2 d2;have k3:=Zg X2 z1 c1;have k4:=Zg X2 z1 c2;have k5:=Zg X2 z2 c3;have k6:=Zg X2 z2 c4))
   all_goals go_wp2
   all_goals go_ret
   all_goals exact⟨QR HR.out.symm,by(repeat (first | assumption | exact Ext.rf _ | apply Ext.drew | apply Ext.drewN | apply Ext.alloc))⟩
theorem Jy : ∀ args w,(callFunc 127 args).run Tryz.prog w=.ok (.enter 127 args) w:=enters_of Tryz.func127 (by kernel_rfl) rfl
def nl (l:List Nat) : List Int:=l.map fun n:Nat=>(n:Int)
theorem ZG (l:List Nat) : (nl l).length=l.length:=by simp[nl]
theorem ZeX {l:List Nat}{k n:Nat}(h:l[k]?=some n) : (nl l)[k]?=some (n:Int):=by simp[nl,h]
theorem Jz (a b:List Nat) : nl (a++b)=nl a++nl b:=by simp[nl]
def YH (n k:Nat) : List Int:=(List.range n).map fun i=>if i<k then(i:Int) else 0
theorem Za7 (n k:Nat) : (YH n k).length=n:=by simp[YH]
theorem J6 (n:Nat) : YH n 0=List.replicate n 0:=by
 simp[YH,List.map_const']
theorem J7 (n k:Nat) : YH n (k+1)=(YH n k).set k k:=by
 refine List.ext_getElem (by simp[YH]) fun i h1 h2=>?_
 rw[List.getElem_set];simp only[YH,List.getElem_map,List.getElem_range]
 by_cases h:k=i
 ·subst h;simp
 ·rw[if_neg h]
  by_cases h3:i<k
  ·rw[if_pos h3,if_pos (by omega)]
  ·rw[if_neg h3,if_neg (by omega)]
theorem J8 (n:Nat) : YH n n=nl (List.range n):=by
 refine List.ext_getElem (by simp[YH,nl]) fun i h1 h2=>?_
 simp only[YH,nl,List.getElem_map,List.getElem_range];rw[if_pos (by simpa [YH] using h1)]
def ZdC (l:List Int)(base:Nat)(w:World)(e:Ending)(w':World) : Prop:=∃ A c,e=.returned (.slice A l.length c)/\OwI w' base A c l/\Ext w w'
theorem Zcn (n:Nat)(w:World)(hn:n<=1000000000) : Calls Tryz.prog 126 #[.int .i64 n] w (ZdC (nl (List.range n)) w.heap.size w):=by
 go_enter Tryz.func126,Tryz.ntmps126;go_wp2_with (at_make;refine Wh _ rfl _ _ rfl w.heap.size _ _ n rfl rfl rfl rfl (by omega) (Nat.le_refl _) ?_;rintro w1 hown hg);have X1:=Hd ((Ext.rf w).grownNone hg);replace hown:=Hd hown;clear hg;go_loopw [9] (fun i wr=>∃ k:Nat,i=.int .i64 k/\k<=n/\Hid (OwI wr w.heap.size (some ⟨w.heap.size,0,none⟩) n (YH n k))/\Ext w wr) (fun i _=>n-(intOf i).toNat)
 case atStart=>exact⟨0,rfl,by omega,by rw[J6];exact hown,X1.out⟩
 case round =>
  obtain⟨k,rfl,hk,HO,Y⟩:=hrel
  by_cases hlt:k<n
  ·obtain⟨x,hc,hf,hb,hx,hs⟩:=HO.out.cell (k:=k) (by rw[Za7];exact hlt)
   have HS:Hid (OwI (wr.setCell ⟨w.heap.size,k,none⟩ (.int .i64 k)) w.heap.size (some ⟨w.heap.size,0,none⟩) n (YH n (k+1))):=by
    have h:=hs.out k;rw[<-J7] at h;exact h
   have Y2:=Hd (Y.setNew (p:=⟨w.heap.size,k,none⟩) (Nat.le_refl _) (.int .i64 k));clear hx hs;go_wp2;go_roundw
   case rel=>exact⟨k+1,by go_num,by omega,HS,Y2.out⟩
   case measure=>simp[intOf];omega
  ·obtain rfl:k=n:=by omega
   go_wp2;go_ret;refine⟨some ⟨w.heap.size,0,none⟩,k,?_,?_,Y⟩
   ·rw[ZG,List.length_range]
    rfl
   ·rw[<-J8]
    exact HO.out
section
variable (w:World)
theorem J9 {ops:Array Oper}{rest:List Oper}{o:Oper}{a:Act}{Q:Exit->Act->World->Prop}(hgd:o.guard=none)(l c:Operand)(hop:o.op=Op.makeSlice 22 l c)
  (base:Nat) (C:Int) (n:Nat) (hl:a.eval l=.int .i64 0) (hc:a.eval c=.int .i64 C) (hC:C=(n:Int)) (hn:n<=2^44) (hbase:base<=w.heap.size)
  (hK:∀ w',OwI w' base (some ⟨w.heap.size,0,none⟩) n []->w.grownBy w' none->wpList Tryz.prog ops Q rest (a.put o.dst (.slice (some ⟨w.heap.size,0,none⟩) 0 n)) w') :
  wpList Tryz.prog ops Q (o::rest) a w:=by
 obtain⟨i0,hi,hz0,hz1,hz2⟩:=info_parts Yp;refine wpList_make_own w hgd l c _ hop base 3 i0 _ 1 Tryz.underlying22 hi hz0 hz1 .i64 .i64 C n hl hc hC (by rw[hz2];omega) (by simp only[maxLen];omega) hbase (fun w' h2 h3=>hK w' ?_ h3);exact h2
end
theorem RdI.dropA {w:World}{A:Option Addr}{xs:List Int}(h:RdI w A xs)(k:Nat) : RdI w (A.map (·.add k)) (xs.drop k):=by
 rcases h with rfl | ⟨b,off,rfl,hb,hc⟩
 ·exact .inl (by simp)
 ·refine .inr ⟨b,off+k,by simp[add_plain],hb,fun j v hj=>?_⟩
  rw[List.getElem?_drop] at hj;rw[Nat.add_assoc];exact hc _ v hj
def AheadOf (g:Nat)(lb:Array Value)(lt:Nat->Nat->Bool)(n:Nat)(w:World) : Prop :=
 ∀ (W:World) (a b:Nat),a<n->b<n->Ext w W->Calls Tryz.prog g (#[.int .i64 a,.int .i64 b]++lb) W fun e w'=>e=.returned (.bool (lt a b))/\Ext W w'
theorem AheadOf.ext {g:Nat}{lb:Array Value}{lt:Nat->Nat->Bool}{n:Nat}{w w':World}(h:AheadOf g lb lt n w)(x:Ext w w') : AheadOf g lb lt n w':=fun W a b ha hb y=>h W a b ha hb (x.tr y)
def Zco (A0:Option Addr)(l:List Nat)(w:World)(e:Ending)(w':World) : Prop:=∃ A c,e=.returned (.slice A l.length c)/\RdI w' A (nl l)/\l.length<=c/\c<=9223372036854775807/\Ext w w'/\∀ k,bl A=some k->bl A0=some k\/w.heap.size<=k
theorem Zcp (g:Nat)(lb:Array Value)(lt:Nat->Nat->Bool)(n:Nat)(eg:∀ args w,(callFunc g args).run Tryz.prog w=.ok (.enter g args) w) :
  ∀ (f:Nat) (p:List Nat) (m:Nat) (A:Option Addr) (c:Nat) (w:World),m=p.length->p.length<=f+1->(∀ x∈p,x<n)->RdI w A (nl p)->p.length<=c->c<=9223372036854775807->p.length<=1000000->AheadOf g lb lt n w ->
  Calls Tryz.prog 125 #[.slice A m c,.func (.func g) #[] lb] w (Zco A (Zz lt f p) w):=by
 intro f
 induction f with
 | zero =>
  intro p m A c w hm hf hp hA lc mc ls hlt;subst hm;have h2:p.length<2:=by omega
  clear hf hlt;go_enter Tryz.func125,Tryz.ntmps125;go_wp2;go_ret;exact⟨A,c,rfl,hA,lc,mc,Ext.rf _,fun _ hk=>.inl hk⟩
 | succ f ih =>
  intro p m A c w hm hf hp hA lc mc ls hlt
  by_cases h2:p.length<2
  ·subst hm
   have HM:Hid (Zz lt (f+1) p=p):=Hd (by unfold Zz;rw[if_pos h2]);clear hf hlt ih;go_enter Tryz.func125,Tryz.ntmps125;go_wp2;go_ret;exact⟨A,c,by rw[HM.out];rfl,by rw[HM.out];exact hA,by rw[HM.out];exact lc,mc,Ext.rf _,fun _ hk=>.inl hk⟩
  ·have HM:Hid (Zz lt (f+1) p=List.merge (Zz lt f (p.take (p.length / 2))) (Zz lt f (p.drop (p.length / 2))) (fun x y => !lt y x)):=by
    have h:Zz lt (f+1) p=List.merge (Zz lt f (p.take (p.length / 2))) (Zz lt f (p.drop (p.length / 2))) (fun x y => !lt y x):=by
     conv=>lhs;unfold Zz
     rw[if_neg h2]
    exact h
   obtain⟨hv,hh⟩:∃ hv,hv=p.length / 2:=⟨_,rfl⟩;rw[<-hh] at HM;have eh:(p.length:Int) / 2=(hv:Int):=by omega
   have h1:1<=hv:=by omega
   have h3:hv<p.length:=by omega
   have hc:hv<c:=by omega
   have lp:=Qc lt f (p.take hv);have lq:=Qc lt f (p.drop hv);have pp:=ZH lt f (p.take hv);have pq:=ZH lt f (p.drop hv);have i1:=fun(w':World) (x:Ext w w')=>ih (p.take hv) hv A c w' (by simp;omega) (by simp;omega) (fun x hx=>hp x (List.mem_of_mem_take hx)) (by have:=(hA.ext x).take hv;simpa [nl,List.map_take] using this) (by simp;omega) mc (by simp;omega) (hlt.ext x)
   obtain⟨b,off,x0,rfl,_,_,_,_⟩:=hA.at (k:=0) (by rw[ZG];omega);have i2:=fun(w':World) (x:Ext w w')=>ih (p.drop hv) (p.length-hv) (some ⟨b,off+hv,none⟩) (c-hv) w' (by simp) (by simp;omega) (fun x hx=>hp x (List.mem_of_mem_drop hx)) (by have:=(hA.ext x).dropA hv;simpa [nl,List.map_drop,add_plain] using this) (by simp;omega) (by omega) (by simp;omega) (hlt.ext x)
   subst hm;replace i1:=Hd i1;replace i2:=Hd i2;replace hA:=Hd hA;replace hlt:=Hd hlt;replace lp:=Hd lp;replace lq:=Hd lq;replace pp:=Hd pp;replace pq:=Hd pq;replace hp:=Hd hp;replace hh:=Hd hh;clear ih hf;go_enter Tryz.func125,Tryz.ntmps125;go_wp2_with (fail);have b1:(0:Int)<=(hv:Int):=by omega
   have b2:(hv:Int)<=(c:Int):=by omega
   have b3:(hv:Int)<=(p.length:Int):=by omega
   go_region_held3 (fun _=>True) (trivial)
    (first
     | (go_at_call_of 125 (Value.slice (some ⟨b,off,none⟩) hv c);refine(i1.out _ (by(repeat (first | assumption | exact Ext.rf _ | apply Ext.drew | apply Ext.drewN | apply Ext.alloc)))).mono ?_;rintro e w1 ⟨A1,c1,rfl,r1,l1,m1,x1,_⟩;have y1:=Ext.tr (a:=w) (by(repeat (first | assumption | exact Ext.rf _ | apply Ext.drew | apply Ext.drewN | apply Ext.alloc))) x1)
     | (go_at_call_of 125 (Value.slice (some ⟨b,off+hv,none⟩) (p.length-hv) (c-hv));refine(i2.out _ (by(repeat (first | assumption | exact Ext.rf _ | apply Ext.drew | apply Ext.drewN | apply Ext.alloc)))).mono ?_;rintro e w2 ⟨A2,c2,rfl,r2,l2,m2,x2,_⟩;have y2:=Ext.tr (a:=w) y1 x2))
   have LL:=lp.out;have LR:=lq.out;have ML:∀ x∈Zz lt f (p.take hv),x<n:=fun x hx=>hp.out x (List.mem_of_mem_take (pp.out.mem_iff.1 hx))
   have MR:∀ x∈Zz lt f (p.drop hv),x<n:=fun x hx=>hp.out x (List.mem_of_mem_drop (pq.out.mem_iff.1 hx))
   rw[List.length_take] at LL;rw[List.length_drop] at LR;clear lp lq pp pq i1 i2 eh;generalize Zz lt f (p.take hv)=L0 at *;generalize Zz lt f (p.drop hv)=R0 at *;have lsum:L0.length+R0.length<=1000000:=by omega
   have lsum2:Hid (L0.length+R0.length=p.length):=by
    have h9:L0.length+R0.length=p.length:=by omega
    exact h9
   clear LL LR;have r1':=Hd (r1.ext x2);replace r2:=Hd r2;replace ML:=Hd ML;replace MR:=Hd MR;clear r1 x1 x2 y1;go_wp2_with (at_make;refine J9 _ rfl _ _ rfl w2.heap.size _ p.length rfl rfl rfl (by omega) (Nat.le_refl _) ?_;rintro w3 o3 g3);have X3:=(Ext.rf w2).grownNone g3;have O3:=Hd o3;clear o3 g3 hA b1 b2 b3;obtain⟨M,hM⟩:∃ M,Hid (M=List.merge L0 R0 (fun x y => !lt y x)):=⟨_,rfl⟩;go_loopw [6,7,8] (fun l r o wr=>∃ (B1 B2 B3:Option Addr) (d1 d2 d3:Nat) (L R O:List Nat),l=.slice B1 L.length d1/\r=.slice B2 R.length d2/\o=.slice B3 O.length d3 /\
     Hid (RdI w2 B1 (nl L)/\RdI w2 B2 (nl R)/\OwI wr w2.heap.size B3 d3 (nl O)/\O++List.merge L R (fun x y => !lt y x)=M/\(∀ x∈L,x<n)/\(∀ x∈R,x<n))/\L.length<=d1/\d1<=9223372036854775807/\R.length<=d2/\d2<=9223372036854775807/\O.length+L.length+R.length<=1000000/\Ext w2 wr)
    (fun l r _ _=>match l,r with | .slice _ n _,.slice _ m _=>n+m | _,_=>0)
   case atStart=>exact⟨A1,A2,_,c1,c2,p.length,L0,R0,[],rfl,rfl,rfl,⟨r1'.out,r2.out,O3.out,by rw[hM.out];rfl,ML.out,MR.out⟩,l1,m1,l2,m2,by simp;omega,X3⟩
   case round =>
    obtain⟨wo,rfl⟩:∃ wo:World,wo=wr:=⟨_,rfl⟩;obtain⟨B1,B2,B3,d1,d2,d3,L,R,O,rfl,rfl,rfl,HH,e1,e2,e3,e4,e5,Y⟩:=hrel;obtain⟨r1w,r2w,ho,hsum,mL,mR⟩:=HH.out;have r1x:=r1w.ext Y;have r2x:=r2w.ext Y
    by_cases hL:L=[]
    ·subst hL
     have HE:Hid (O++[]++R=M):=by
      have h9:O++[]++R=M:=by rw[<-hsum,List.nil_merge,List.append_nil]
      exact h9
     clear hsum;simp only[List.length_nil] at *;have tok1:True:=trivial;go_wp2_with (first
      | (at_builtin;have _t:=tok1;refine Yw _ rfl _ _ rfl w2.heap.size B3 O.length d3 (nl O) (nl []) B1 d1 rfl rfl (by simp[ZG]) ?_ ?_ ?_ ?_ ?_;(exact ho);(exact r1x);(simp[ZG];omega);(exact Y.size);rintro A5 c5 w5 o5 g5 _;have X5:=Y.grow g5 (fun k hk=>(ho.lt k hk).1);clear tok1)
      | (at_builtin;refine Yw _ rfl _ _ rfl w2.heap.size A5 _ c5 (nl O++nl []) (nl R) B2 d2 rfl (by rw[ZG R];rfl) (by simp[ZG]) ?_ ?_ ?_ ?_ ?_;(exact o5);(exact r2w.ext X5);(simp[ZG];omega);(exact X5.size);rintro A6 c6 w6 o6 g6 _;have X6:=X5.grow g6 (fun k hk=>(o5.lt k hk).1)))
     have le6:=o6.le;have eL:(nl O++nl []++nl R)=nl (Zz lt (f+1) p):=by rw[HM.out,<-hM.out,<-HE.out,Jz,Jz]
     rw[eL] at o6 le6;refine bodyPost_ret (v:=.slice A6 (Zz lt (f+1) p).length c6) ?_ rfl ⟨A6,c6,rfl,o6.read,by rw[ZG] at le6;exact le6.1,le6.2,Ext.tr y2 X6,fun kk hkk=>.inr (Nat.le_trans y2.size (o6.lt kk hkk).1)⟩;have eN:(Zz lt (f+1) p).length=(nl O++nl []++nl R).length:=by rw[eL,ZG]
     rw[eN];simp[results,Tryz.results125,go_sem]
    ·have hL':0<L.length:=List.length_pos_iff.2 hL
     by_cases hR:R=[]
     ·subst hR
      have HE:Hid (O++L++[]=M):=by
       have h9:O++L++[]=M:=by rw[<-hsum,List.merge_right,List.append_nil]
       exact h9
      clear hsum hL;simp only[List.length_nil] at *;have tok1:True:=trivial;go_wp2_with (first
       | (at_builtin;have _t:=tok1;refine Yw _ rfl _ _ rfl w2.heap.size B3 O.length d3 (nl O) (nl L) B1 d1 rfl (by rw[ZG L];rfl) (by simp[ZG]) ?_ ?_ ?_ ?_ ?_;(exact ho);(exact r1x);(simp[ZG];omega);(exact Y.size);rintro A5 c5 w5 o5 g5 _;have X5:=Y.grow g5 (fun k hk=>(ho.lt k hk).1);clear tok1)
       | (at_builtin;refine Yw _ rfl _ _ rfl w2.heap.size A5 _ c5 (nl O++nl L) (nl []) B2 d2 rfl rfl (by simp[ZG]) ?_ ?_ ?_ ?_ ?_;(exact o5);(exact r2w.ext X5);(simp[ZG];omega);(exact X5.size);rintro A6 c6 w6 o6 g6 _;have X6:=X5.grow g6 (fun k hk=>(o5.lt k hk).1)))
      have le6:=o6.le;have eL:(nl O++nl L++nl [])=nl (Zz lt (f+1) p):=by rw[HM.out,<-hM.out,<-HE.out,Jz,Jz]
      rw[eL] at o6 le6;refine bodyPost_ret (v:=.slice A6 (Zz lt (f+1) p).length c6) ?_ rfl ⟨A6,c6,rfl,o6.read,by rw[ZG] at le6;exact le6.1,le6.2,Ext.tr y2 X6,fun kk hkk=>.inr (Nat.le_trans y2.size (o6.lt kk hkk).1)⟩;have eN:(Zz lt (f+1) p).length=(nl O++nl L++nl []).length:=by rw[eL,ZG]
      rw[eN];simp[results,Tryz.results125,go_sem]
     ·obtain⟨a,L,rfl⟩:=List.exists_cons_of_ne_nil hL
      obtain⟨d,R,rfl⟩:=List.exists_cons_of_ne_nil hR;have hL9:0<(a::L).length:=by simp
      have hR9:0<(d::R).length:=by simp
      obtain⟨bb1,oo1,x1,rfl,zb1,ka,ea,_⟩:=r1w.at (k:=0) (by simp[nl]);obtain⟨bb2,oo2,x2',rfl,zb2,kd,ed,_⟩:=r2w.at (k:=0) (by simp[nl]);obtain rfl:x1=(a:Int):=by have h9:=ea.out;simp[nl] at h9;exact h9.symm
      obtain rfl:x2'=(d:Int):=by have h9:=ed.out;simp[nl] at h9;exact h9.symm
      rw[Nat.add_zero] at ka kd;have ka':=Zg Y zb1 ka;have kd':=Zg Y zb2 kd;have hcall:=fun(W:World) (x:Ext wo W)=>hlt.out W d a (mR d (by simp)) (mL a (by simp)) ((y2.tr Y).tr x)
      clear ea ed hL hR r1x r2x hL'
      cases hq:lt d a with
      | true =>
       simp only[hq] at hcall;have hsum2:Hid (O++(d::List.merge (a::L) R (fun x y => !lt y x))=M):=by
        have h9:O++(d::List.merge (a::L) R (fun x y => !lt y x))=M:=by
         rw[<-hsum,List.cons_merge_cons,if_neg (by simp[hq])]
        exact h9
       clear hq hsum;replace hcall:=Hd hcall;replace ho:=Hd ho;replace r1w:=Hd r1w;replace r2w:=Hd r2w;go_wp2_with (fail);go_region_held3 (fun w'=>w'.cell? ⟨bb1,oo1,none⟩=some (.int .i64 (a:Nat))/\w'.cell? ⟨bb2,oo2,none⟩=some (.int .i64 (d:Nat))) (go_keep)
        (first | (go_at_fn g;refine(hcall.out _ (by(repeat (first | assumption | exact Ext.rf _ | apply Ext.drew | apply Ext.drewN | apply Ext.alloc)))).mono ?_;rintro e w4 ⟨rfl,x4⟩;have Y4:=Ext.tr (a:=w2) (by(repeat (first | assumption | exact Ext.rf _ | apply Ext.drew | apply Ext.drewN | apply Ext.alloc))) x4;have s1:=Zg Y4 zb1 ka;have s2:=Zg Y4 zb2 kd;have ho4:=Hd (ho.out.ext (Ext.tr (a:=wo) (by(repeat (first | assumption | exact Ext.rf _ | apply Ext.drew | apply Ext.drewN | apply Ext.alloc))) x4))))
       by_cases hcap:d2=1
       ·subst hcap
        have t0:R.length=0:=by simp only[List.length_cons] at *;omega
        obtain rfl:R=[]:=List.eq_nil_of_length_eq_zero t0;clear t0;go_wp2_with (fail);go_region_held3 (fun w'=>w'.cell? ⟨bb2,oo2,none⟩=some (.int .i64 (d:Nat))) (go_keep)
         (first | (refine Wg _ (by rfl) _ _ (by rfl) w2.heap.size B3 O.length d3 (nl O) [((d:Nat):Int)] (some ⟨w4.heap.size,0,none⟩) 1 (by rfl) (by rfl) (by rw[ZG O]) ?_ ?_ ?_ ?_ ?_;(refine OwI.ext ho4.out ?_;(repeat (first | assumption | exact Ext.rf _ | apply Ext.drew | apply Ext.drewN | apply Ext.alloc)));(exact .blk (by(first | exact .new (by simp) | exact .drew (.new (by simp)) | exact .alloc (.new (by simp)) _ | exact .drew (.alloc (.new (by simp)) _) | exact .alloc (.alloc (.new (by simp)) _) _ | exact .drew (.alloc (.alloc (.new (by simp)) _) _) | (repeat (first | assumption | (refine Blk.new ?_;(focus (simp;done))) | apply Blk.drew | apply Blk.drewN | apply Blk.alloc)))) rfl);(rw[ZG O];simp;omega);(have:=Y4.size;simp;omega);rintro A7 c7 w7 o7 g7 _;have Y7:Ext w2 w7:=Ext.grow (a:=w2) (by(repeat (first | assumption | exact Ext.rf _ | apply Ext.drew | apply Ext.drewN | apply Ext.alloc))) g7 (fun kk hkk=>(ho.out.lt kk hkk).1);have s1:=Zg Y7 zb2 kd))
        go_wp2;have O7:Hid (OwI w7 w2.heap.size A7 c7 (nl (O++[d]))):=by
         have h9:=o7;rw[show nl O++[((d:Nat):Int)]=nl (O++[d]) from by simp[nl]] at h9;exact h9
        have eO:(nl O).length+1=(O++[d]).length:=by simp[nl]
        clear o7 g7;go_roundw
        case rel=>exact⟨some ⟨bb1,oo1,none⟩,some ⟨bb2,oo2,none⟩,A7,d1,0,c7,a::L,[],O++[d],by first | rfl | (simp;done) | (simp[nl];done) | (rw[if_neg (by omega)];done) | (rw[<-eO];done),by first | rfl | (simp;done) | (simp[nl];done) | (rw[if_neg (by omega)];done) | (rw[<-eO];done),by first | rfl | (simp;done) | (simp[nl];done) | (rw[if_neg (by omega)];done) | (rw[<-eO];done),⟨r1w.out,.inl rfl,O7.out,by rw[<-hsum2.out,List.append_assoc];rfl,mL,fun x hx=>mR x (by simp[hx])⟩,by simp only[List.length_cons] at *;omega,by omega,by simp only[List.length_cons,List.length_nil] at *;omega,by omega,by simp only[List.length_append,List.length_cons,List.length_nil] at *;omega,Y7⟩
        case measure=>simp
       ·have hcap2:1<d2:=by simp only[List.length_cons] at *;omega
        have q1:(1:Int)<=(d2:Int):=by omega
        have q2:(1:Int)<=(R.length:Int)+1:=by omega
        clear hcap;go_wp2_with (fail);go_region_held3 (fun w'=>w'.cell? ⟨bb2,oo2,none⟩=some (.int .i64 (d:Nat))) (go_keep)
         (first | (refine Wg _ (by rfl) _ _ (by rfl) w2.heap.size B3 O.length d3 (nl O) [((d:Nat):Int)] (some ⟨w4.heap.size,0,none⟩) 1 (by rfl) (by rfl) (by rw[ZG O]) ?_ ?_ ?_ ?_ ?_;(refine OwI.ext ho4.out ?_;(repeat (first | assumption | exact Ext.rf _ | apply Ext.drew | apply Ext.drewN | apply Ext.alloc)));(exact .blk (by(first | exact .new (by simp) | exact .drew (.new (by simp)) | exact .alloc (.new (by simp)) _ | exact .drew (.alloc (.new (by simp)) _) | exact .alloc (.alloc (.new (by simp)) _) _ | exact .drew (.alloc (.alloc (.new (by simp)) _) _) | (repeat (first | assumption | (refine Blk.new ?_;(focus (simp;done))) | apply Blk.drew | apply Blk.drewN | apply Blk.alloc)))) rfl);(rw[ZG O];simp;omega);(have:=Y4.size;simp;omega);rintro A7 c7 w7 o7 g7 _;have Y7:Ext w2 w7:=Ext.grow (a:=w2) (by(repeat (first | assumption | exact Ext.rf _ | apply Ext.drew | apply Ext.drewN | apply Ext.alloc))) g7 (fun kk hkk=>(ho.out.lt kk hkk).1);have s1:=Zg Y7 zb2 kd))
        go_wp2;have O7:Hid (OwI w7 w2.heap.size A7 c7 (nl (O++[d]))):=by
         have h9:=o7;rw[show nl O++[((d:Nat):Int)]=nl (O++[d]) from by simp[nl]] at h9;exact h9
        have eO:(nl O).length+1=(O++[d]).length:=by simp[nl]
        clear o7 g7;go_roundw
        case rel=>exact⟨some ⟨bb1,oo1,none⟩,some ⟨bb2,oo2+1,none⟩,A7,d1,d2-1,c7,a::L,R,O++[d],by first | rfl | (simp;done) | (simp[nl];done) | (rw[if_neg (by omega)];done) | (rw[<-eO];done),by first | rfl | (simp;done) | (simp[nl];done) | (rw[if_neg (by omega)];done) | (rw[<-eO];done),by first | rfl | (simp;done) | (simp[nl];done) | (rw[if_neg (by omega)];done) | (rw[<-eO];done),⟨r1w.out,by have h9:=r2w.out.dropA 1;simpa [nl,add_plain] using h9,O7.out,by rw[<-hsum2.out,List.append_assoc];rfl,mL,fun x hx=>mR x (by simp[hx])⟩,by simp only[List.length_cons] at *;omega,by omega,by simp only[List.length_cons,List.length_nil] at *;omega,by omega,by simp only[List.length_append,List.length_cons,List.length_nil] at *;omega,Y7⟩
        case measure=>simp
      | false =>
       simp only[hq] at hcall;have hsum2:Hid (O++(a::List.merge L (d::R) (fun x y => !lt y x))=M):=by
        have h9:O++(a::List.merge L (d::R) (fun x y => !lt y x))=M:=by
         rw[<-hsum,List.cons_merge_cons,if_pos (by simp[hq])]
        exact h9
       clear hq hsum;replace hcall:=Hd hcall;replace ho:=Hd ho;replace r1w:=Hd r1w;replace r2w:=Hd r2w;go_wp2_with (fail);go_region_held3 (fun w'=>w'.cell? ⟨bb1,oo1,none⟩=some (.int .i64 (a:Nat))/\w'.cell? ⟨bb2,oo2,none⟩=some (.int .i64 (d:Nat))) (go_keep)
        (first | (go_at_fn g;refine(hcall.out _ (by(repeat (first | assumption | exact Ext.rf _ | apply Ext.drew | apply Ext.drewN | apply Ext.alloc)))).mono ?_;rintro e w4 ⟨rfl,x4⟩;have Y4:=Ext.tr (a:=w2) (by(repeat (first | assumption | exact Ext.rf _ | apply Ext.drew | apply Ext.drewN | apply Ext.alloc))) x4;have s1:=Zg Y4 zb1 ka;have s2:=Zg Y4 zb2 kd;have ho4:=Hd (ho.out.ext (Ext.tr (a:=wo) (by(repeat (first | assumption | exact Ext.rf _ | apply Ext.drew | apply Ext.drewN | apply Ext.alloc))) x4))))
       by_cases hcap:d1=1
       ·subst hcap
        have t0:L.length=0:=by simp only[List.length_cons] at *;omega
        obtain rfl:L=[]:=List.eq_nil_of_length_eq_zero t0;clear t0;go_wp2_with (fail);go_region_held3 (fun w'=>w'.cell? ⟨bb1,oo1,none⟩=some (.int .i64 (a:Nat))) (go_keep)
         (first | (refine Wg _ (by rfl) _ _ (by rfl) w2.heap.size B3 O.length d3 (nl O) [((a:Nat):Int)] (some ⟨w4.heap.size,0,none⟩) 1 (by rfl) (by rfl) (by rw[ZG O]) ?_ ?_ ?_ ?_ ?_;(refine OwI.ext ho4.out ?_;(repeat (first | assumption | exact Ext.rf _ | apply Ext.drew | apply Ext.drewN | apply Ext.alloc)));(exact .blk (by(first | exact .new (by simp) | exact .drew (.new (by simp)) | exact .alloc (.new (by simp)) _ | exact .drew (.alloc (.new (by simp)) _) | exact .alloc (.alloc (.new (by simp)) _) _ | exact .drew (.alloc (.alloc (.new (by simp)) _) _) | (repeat (first | assumption | (refine Blk.new ?_;(focus (simp;done))) | apply Blk.drew | apply Blk.drewN | apply Blk.alloc)))) rfl);(rw[ZG O];simp;omega);(have:=Y4.size;simp;omega);rintro A7 c7 w7 o7 g7 _;have Y7:Ext w2 w7:=Ext.grow (a:=w2) (by(repeat (first | assumption | exact Ext.rf _ | apply Ext.drew | apply Ext.drewN | apply Ext.alloc))) g7 (fun kk hkk=>(ho.out.lt kk hkk).1);have s1:=Zg Y7 zb1 ka))
        go_wp2;have O7:Hid (OwI w7 w2.heap.size A7 c7 (nl (O++[a]))):=by
         have h9:=o7;rw[show nl O++[((a:Nat):Int)]=nl (O++[a]) from by simp[nl]] at h9;exact h9
        have eO:(nl O).length+1=(O++[a]).length:=by simp[nl]
        clear o7 g7;go_roundw
        case rel=>exact⟨some ⟨bb1,oo1,none⟩,some ⟨bb2,oo2,none⟩,A7,0,d2,c7,[],d::R,O++[a],by first | rfl | (simp;done) | (simp[nl];done) | (rw[if_neg (by omega)];done) | (rw[<-eO];done),by first | rfl | (simp;done) | (simp[nl];done) | (rw[if_neg (by omega)];done) | (rw[<-eO];done),by first | rfl | (simp;done) | (simp[nl];done) | (rw[if_neg (by omega)];done) | (rw[<-eO];done),⟨.inl rfl,r2w.out,O7.out,by rw[<-hsum2.out,List.append_assoc];rfl,fun x hx=>mL x (by simp[hx]),mR⟩,by simp only[List.length_cons,List.length_nil] at *;omega,by omega,by simp only[List.length_cons] at *;omega,by omega,by simp only[List.length_append,List.length_cons,List.length_nil] at *;omega,Y7⟩
        case measure=>simp
       ·have hcap2:1<d1:=by simp only[List.length_cons] at *;omega
        have q1:(1:Int)<=(d1:Int):=by omega
        have q2:(1:Int)<=(L.length:Int)+1:=by omega
        clear hcap;go_wp2_with (fail);go_region_held3 (fun w'=>w'.cell? ⟨bb1,oo1,none⟩=some (.int .i64 (a:Nat))) (go_keep)
         (first | (refine Wg _ (by rfl) _ _ (by rfl) w2.heap.size B3 O.length d3 (nl O) [((a:Nat):Int)] (some ⟨w4.heap.size,0,none⟩) 1 (by rfl) (by rfl) (by rw[ZG O]) ?_ ?_ ?_ ?_ ?_;(refine OwI.ext ho4.out ?_;(repeat (first | assumption | exact Ext.rf _ | apply Ext.drew | apply Ext.drewN | apply Ext.alloc)));(exact .blk (by(first | exact .new (by simp) | exact .drew (.new (by simp)) | exact .alloc (.new (by simp)) _ | exact .drew (.alloc (.new (by simp)) _) | exact .alloc (.alloc (.new (by simp)) _) _ | exact .drew (.alloc (.alloc (.new (by simp)) _) _) | (repeat (first | assumption | (refine Blk.new ?_;(focus (simp;done))) | apply Blk.drew | apply Blk.drewN | apply Blk.alloc)))) rfl);(rw[ZG O];simp;omega);(have:=Y4.size;simp;omega);rintro A7 c7 w7 o7 g7 _;have Y7:Ext w2 w7:=Ext.grow (a:=w2) (by(repeat (first | assumption | exact Ext.rf _ | apply Ext.drew | apply Ext.drewN | apply Ext.alloc))) g7 (fun kk hkk=>(ho.out.lt kk hkk).1);have s1:=Zg Y7 zb1 ka))
        go_wp2;have O7:Hid (OwI w7 w2.heap.size A7 c7 (nl (O++[a]))):=by
         have h9:=o7;rw[show nl O++[((a:Nat):Int)]=nl (O++[a]) from by simp[nl]] at h9;exact h9
        have eO:(nl O).length+1=(O++[a]).length:=by simp[nl]
        clear o7 g7;go_roundw
        case rel=>exact⟨some ⟨bb1,oo1+1,none⟩,some ⟨bb2,oo2,none⟩,A7,d1-1,d2,c7,L,d::R,O++[a],by first | rfl | (simp;done) | (simp[nl];done) | (rw[if_neg (by omega)];done) | (rw[<-eO];done),by first | rfl | (simp;done) | (simp[nl];done) | (rw[if_neg (by omega)];done) | (rw[<-eO];done),by first | rfl | (simp;done) | (simp[nl];done) | (rw[if_neg (by omega)];done) | (rw[<-eO];done),⟨by have h9:=r1w.out.dropA 1;simpa [nl,add_plain] using h9,r2w.out,O7.out,by rw[<-hsum2.out,List.append_assoc];rfl,fun x hx=>mL x (by simp[hx]),mR⟩,by simp only[List.length_cons,List.length_nil] at *;omega,by omega,by simp only[List.length_cons] at *;omega,by omega,by simp only[List.length_append,List.length_cons,List.length_nil] at *;omega,Y7⟩
        case measure=>simp
end Go.Proofs.YtmojhhlcocjoaaaGreatDoor
namespace Go.Proofs.YtmojhhlcocjoaaaGreatDoor
open Go.RowKit Go.ChangeShapes Go.WideShapes Go.ChangeAt Go.Deep
theorem Zaa {xs:List Int}(h:Small31 xs) : (xs.any fun n=>decide (n<0))=false:=by
 rw[List.any_eq_false];intro x hx;have:=h x hx;simp;omega
def Zcq (l:List Nat)(w:World)(e:Ending)(w':World) : Prop:=∃ A c,e=.returned (.tuple #[.slice A l.length c,.int .i64 0])/\RdI w' A (nl l)/\l.length<=c/\c<=9223372036854775807/\Ext w w'/\∀ k,bl A=some k->w.heap.size<=k
theorem Zcr (A B:Option Addr)(a b:Nat)(vs ws:List Int)(w:World)(hA:RdI w A vs)(hB:RdI w B ws)(hl:vs.length=ws.length)(h64:vs.length<=64)(sv:Small31 vs)(sw:Small31 ws) :
  Calls Tryz.prog 73 #[.slice A vs.length a,.slice B ws.length b] w (Zcq (ZW vs ws) w):=by
 have hn1:=Zaa sv;have hn2:=Zaa sw;have hne:((vs.length:Int) != (ws.length:Int))=false:=by simp[hl]
 have h64':(vs.length:Int)<=64:=by omega
 have X0:Ext w ((w.alloc (.cells #[.slice A vs.length a] 22)).alloc (.cells #[.slice B ws.length b] 22)):=((Ext.rf _).alloc _).alloc _;have bv:BoxI ((w.alloc (.cells #[.slice A vs.length a] 22)).alloc (.cells #[.slice B ws.length b] 22)) w.heap.size vs:=⟨A,a,.alloc (.new rfl) _,hA.ext X0,by omega⟩;have bw:BoxI ((w.alloc (.cells #[.slice A vs.length a] 22)).alloc (.cells #[.slice B ws.length b] 22)) (w.heap.size+1) ws:=⟨B,b,.new (by simp),hB.ext X0,by omega⟩;have Bv:Hid (Blk ((w.alloc (.cells #[.slice A vs.length a] 22)).alloc (.cells #[.slice B ws.length b] 22)) w.heap.size 22 #[.slice A vs.length a]):=.alloc (.new rfl) _;have Bw:Hid (Blk ((w.alloc (.cells #[.slice A vs.length a] 22)).alloc (.cells #[.slice B ws.length b] 22)) (w.heap.size+1) 22 #[.slice B ws.length b]):=.new (by simp);have N1:=fun(W:World) (x:Ext w W)=>JZ A a vs W (hA.ext x) (by simp only[maxLen];omega)
 have N2:=fun(W:World) (x:Ext w W)=>JZ B b ws W (hB.ext x) (by simp only[maxLen];omega)
 simp only[hn1] at N1;simp only[hn2] at N2;have AH:AheadOf 127 #[.pointer (some ⟨w.heap.size+1,0,none⟩),.pointer (some ⟨w.heap.size,0,none⟩)] (Yc vs ws) vs.length ((w.alloc (.cells #[.slice A vs.length a] 22)).alloc (.cells #[.slice B ws.length b] 22)) :=
  fun W i j hi hj x=>Zcm vs ws w.heap.size (w.heap.size+1) i j W (bv.ext x) (bw.ext x) sv sw hi hj (by omega) (by omega)
 have MG:=fun(A':Option Addr) (c':Nat) (W:World) (hr:RdI W A' (nl (List.range vs.length))) (hc:vs.length<=c') (hm:c'<=9223372036854775807) (x:Ext ((w.alloc (.cells #[.slice A vs.length a] 22)).alloc (.cells #[.slice B ws.length b] 22)) W) =>
  Zcp 127 #[.pointer (some ⟨w.heap.size+1,0,none⟩),.pointer (some ⟨w.heap.size,0,none⟩)] (Yc vs ws) vs.length Jy vs.length (List.range vs.length) vs.length A' c' W (by simp) (by simp) (fun x hx=>List.mem_range.1 hx) hr (by simpa using hc) hm (by simp;omega) (AH.ext x)
 have HR:Hid (Zz (Yc vs ws) vs.length (List.range vs.length)=ZW vs ws):=rfl;have PL:=fun W:World=>Zcn vs.length W (by omega)
 replace hl:=Hd hl;replace X0:=Hd X0;replace bv:=Hd bv;replace bw:=Hd bw;replace N1:=Hd N1;replace N2:=Hd N2;replace MG:=Hd MG;replace PL:=Hd PL;replace hA:=Hd hA;replace hB:=Hd hB;clear hn1 hn2 sv sw AH;have hmf:∀ (fn:Fn) (first cap:Array Value) (w:World),(Instr.makeFunc fn first cap).run Tryz.prog w=.ok (.func fn first cap) w:=fun _ _ _ _=>rfl
 go_enter Tryz.func73,Tryz.ntmps73;go_wp2_with (fail);refine(N1.out _ X0.out).mono ?_;rintro e w1 ⟨rfl,x1⟩;have X1:=Hd (X0.out.tr x1);have c1:w1.cell? ⟨w.heap.size,0,none⟩=some (.slice A vs.length a):=(Bv.out.ext x1).cell 0;have c2:w1.cell? ⟨w.heap.size+1,0,none⟩=some (.slice B ws.length b):=(Bw.out.ext x1).cell 0;go_wp2_with (fail);refine(N2.out _ X1.out).mono ?_;rintro e w2 ⟨rfl,x2⟩;have X2:=Hd (X1.out.tr x2);have x12:=Hd (Ext.tr x1 x2);have d1:w2.cell? ⟨w.heap.size,0,none⟩=some (.slice A vs.length a):=(Bv.out.ext x12.out).cell 0;clear c1 c2 x2;go_wp2_with (fail);refine(PL.out _).mono ?_;rintro e w3 ⟨A3,c3,rfl,o3,x3⟩;have le3:=o3.le;have l3:vs.length<=c3:=by have h:=le3.1;rw[ZG,List.length_range] at h;exact h
 have m3:c3<=9223372036854775807:=by have h:=le3.2;unfold maxLen at h;exact h
 have e3:(nl (List.range vs.length)).length=vs.length:=by rw[ZG,List.length_range]
 have x13:=Hd (Ext.tr x12.out x3);have X3:=Hd (X2.out.tr x3);replace o3:=Hd o3;clear d1 x3 le3;go_wp2_with (fail);refine(MG.out A3 c3 _ o3.out.read l3 m3 x13.out).mono ?_;rintro e w4 ⟨A4,c4,rfl,r4,l4,m4,x4,b4⟩;have HB:Hid (∀ k,bl A4=some k->w.heap.size<=k):=fun k hk=>by
  rcases b4 k hk with h | h
  ·exact Nat.le_trans X2.out.size (o3.out.lt k h).1
  ·exact Nat.le_trans X3.out.size h
 clear b4;rw[HR.out] at r4 l4 ⊢;have X4:=Hd (X3.out.tr x4);replace r4:=Hd r4;clear x4 e3;go_wp2;go_ret2;exact⟨A4,c4,rfl,r4.out,l4,m4,X4.out,HB.out⟩
section
variable {ops:Array Oper} {i:Nat} {t:TypeId} {d:Option Tmp} {a:Act} {w:World} {K:Act->World->Prop} {Q:Exit->Act->World->Prop}
theorem Zcs {x y:Operand}(hi:Wl ops i=some (none,.makeSlice 22 x y,t,d))(base n:Nat)(L:Int)(hx:a.eval x=.int .i64 L)(hy:a.eval y=.int .i64 L)(hL:L=(n:Int))(hn:n<=2^44)(hb:base<=w.heap.size)
  (hK:∀ w',OwI w' base (some ⟨w.heap.size,0,none⟩) n (List.replicate n 0)->w.grownBy w' none->K (a.put d (.slice (some ⟨w.heap.size,0,none⟩) n n)) w'):wpOp Tryz.prog ops Q i K a w:=by
 obtain⟨i0,hi0,hz0,hz1,hz2⟩:=info_parts Yp;subst hL;obtain⟨w',hrun,h2,h3⟩:=run_make_full (P:=Tryz.prog) w base 22 3 i0 _ 1 Tryz.underlying22 hi0 hz0 hz1 .i64 .i64 n (by rw[hz2];omega) (by simp only[maxLen];omega) hb;refine ZB hi _ (by simp[Zd,execOp,hx,hy,hrun]) (hK w' ?_ h3);have e:(madeCells (Value.int .i64 0).cells (n*1)).toList=(List.replicate n (0:Int)).map (Value.int .i64):=by
  simp[madeCells,Value.cells,List.map_const',Nat.mod_one]
 rw[e] at h2
 simpa [OwI] using h2
end
def KernB (w:World)(base g:Nat)(cap:Int)(l:List Nat)(ws vs bs:List Int) : Prop :=
 ∃ (PA:Option Addr) (pc:Nat) (WA:Option Addr) (wc:Nat) (VA:Option Addr) (vc:Nat) (HA:Option Addr) (hc:Nat),
  Blk w g 119 #[.int .i64 cap,.slice PA l.length pc,.slice WA ws.length wc,.slice VA vs.length vc,.slice HA bs.length hc]/\base<=g /\
  (RdI w PA (nl l)/\∀ k,bl PA=some k->base<=k)/\(RdI w WA ws/\∀ k,bl WA=some k->base<=k)/\(RdI w VA vs/\∀ k,bl VA=some k->base<=k)/\(RdI w HA bs/\∀ k,bl HA=some k->base<=k)
theorem KernB.ext {w w':World}{base g:Nat}{cap:Int}{l:List Nat}{ws vs bs:List Int}(h:KernB w base g cap l ws vs bs)(x:Ext w w') : KernB w' base g cap l ws vs bs:=by
 obtain⟨PA,pc,WA,wc,VA,vc,HA,hc,h1,h2,h3,h4,h5,h6⟩:=h;exact⟨PA,pc,WA,wc,VA,vc,HA,hc,h1.ext x,h2,⟨h3.1.ext x,h3.2⟩,⟨h4.1.ext x,h4.2⟩,⟨h5.1.ext x,h5.2⟩,⟨h6.1.ext x,h6.2⟩⟩
theorem RdI.mod {S:Nat->Prop}{w w':World}{A:Option Addr}{xs:List Int}(h:RdI w A xs)(k:Mod S w w')(hb:∀ b,bl A=some b->¬S b) : RdI w' A xs:=by
 rcases h with rfl | ⟨b,off,rfl,hlt,hc⟩
 ·exact .inl rfl
 ·refine .inr ⟨b,off,rfl,Nat.lt_of_lt_of_le hlt k.size,fun j x hj=>?_⟩
  rw[<-hc j x hj];exact World.cell?_of_block (k.block b hlt (hb b rfl))
theorem KernB.mod {S:Nat->Prop}{w w':World}{base g:Nat}{cap:Int}{l:List Nat}{ws vs bs:List Int}(h:KernB w base g cap l ws vs bs)(x:Mod S w w')(hS:∀ k,base<=k->¬S k) : KernB w' base g cap l ws vs bs:=by
 obtain⟨PA,pc,WA,wc,VA,vc,HA,hc,h1,h2,h3,h4,h5,h6⟩:=h;exact⟨PA,pc,WA,wc,VA,vc,HA,hc,h1.mod x (hS _ h2),h2,⟨h3.1.mod x fun b hb=>hS _ (h3.2 b hb),h3.2⟩,⟨h4.1.mod x fun b hb=>hS _ (h4.2 b hb),h4.2⟩,⟨h5.1.mod x fun b hb=>hS _ (h5.2 b hb),h5.2⟩,⟨h6.1.mod x fun b hb=>hS _ (h6.2 b hb),h6.2⟩⟩
def Dis (A B:Option Addr) : Prop:=∀ k,bl A=some k->bl B≠some k
theorem Dis.symm {A B:Option Addr}(h:Dis A B) : Dis B A:=fun k hk hA=>h k hA hk
theorem Dis.none (B:Option Addr) : Dis none B:=fun k hk=>by simp[bl] at hk
def Fill (w:World)(base g:Nat)(cap:Int)(PA:Option Addr)(pn pc:Nat)(ws vs bs:List Int) : Prop :=
 ∃ (WA:Option Addr) (wc:Nat) (VA:Option Addr) (vc:Nat) (HA:Option Addr) (hc:Nat),
  Blk w g 119 #[.int .i64 cap,.slice PA pn pc,.slice WA ws.length wc,.slice VA vs.length vc,.slice HA bs.length hc]/\base<=g /\
  OwI w base WA wc ws/\OwI w base VA vc vs/\OwI w base HA hc bs/\Dis WA VA/\Dis WA HA/\Dis VA HA
theorem Qg {w w':World}{base:Nat}{A:Option Addr}{c:Nat}{xs:List Int}(h:OwI w base A c xs)(hg:w.grownBy w' (bl A)) : Mod (fun k=>bl A=some k) w w':=Mod.grown hg fun g hA=>hA
theorem Dis.after {w:World}{base:Nat}{A A' B:Option Addr}{c:Nat}{ys:List Int}(h:Dis A B)(hB:OwI w base B c ys)(hA:bl A'=bl A\/∃ g,bl A'=some g/\w.heap.size<=g) : Dis A' B:=by
 intro k hk hb;rcases hA with hA | ⟨g,hg,hlt⟩
 ·exact h k (hA ▸ hk) hb
 ·rw[hk] at hg
  obtain rfl:=Option.some.inj hg;have:=(hB.lt k hb).2;omega
theorem Fill.ext {w w':World}{base g:Nat}{cap:Int}{PA:Option Addr}{pn pc:Nat}{ws vs bs:List Int}(h:Fill w base g cap PA pn pc ws vs bs)(x:Ext w w') : Fill w' base g cap PA pn pc ws vs bs:=by
 obtain⟨WA,wc,VA,vc,HA,hc,h1,h2,h3,h4,h5,h6⟩:=h;exact⟨WA,wc,VA,vc,HA,hc,h1.ext x,h2,h3.ext x,h4.ext x,h5.ext x,h6⟩
end Go.Proofs.YtmojhhlcocjoaaaGreatDoor
namespace Go.Proofs.YtmojhhlcocjoaaaGreatDoor
open Go.RowKit Go.ChangeShapes Go.WideShapes Go.ChangeAt Go.Deep
section
variable {w w2:World} {base g pn pc wc vc hc c':Nat} {cap x:Int} {PA WA VA HA A':Option Addr} {ws vs bs:List Int}
theorem ZeY (hB:Blk w g 119 #[.int .i64 cap,.slice PA pn pc,.slice WA ws.length wc,.slice VA vs.length vc,.slice HA bs.length hc])(hg:base<=g)
  (hW:OwI w base WA wc ws) (hV:OwI w base VA vc vs) (hH:OwI w base HA hc bs) (d1:Dis WA VA) (d2:Dis WA HA) (d3:Dis VA HA)
  (hgr:w.grownBy w2 (bl WA)) (o2:OwI w2 base A' c' (ws++[x])) (alt:bl A'=bl WA\/∃ g,bl A'=some g/\w.heap.size<=g) :
  Blk w2 g 119 #[.int .i64 cap,.slice PA pn pc,.slice WA ws.length wc,.slice VA vs.length vc,.slice HA bs.length hc] /\
  Fill (w2.setCell ⟨g,2,none⟩ (.slice A' (ws.length+1) c')) base g cap PA pn pc (ws++[x]) vs bs:=by
 have M:Mod (fun k=>bl WA=some k) w w2:=Qg hW hgr;have hB2:=hB.mod M fun h=>hW.ne hB (by decide) g h rfl
 have hV2:=hV.mod M fun k hk h=>d1 k h hk
 have hH2:=hH.mod M fun k hk h=>d2 k h hk
 refine⟨hB2,A',c',VA,vc,HA,hc,?_,hg,o2.far hB2 (by decide) 2 _,hV2.far hB2 (by decide) 2 _,hH2.far hB2 (by decide) 2 _,d1.after hV alt,d2.after hH alt,d3⟩;rw[List.length_append];exact hB2.set 2 _
theorem ZeZ (hB:Blk w g 119 #[.int .i64 cap,.slice PA pn pc,.slice WA ws.length wc,.slice VA vs.length vc,.slice HA bs.length hc])(hg:base<=g)
  (hW:OwI w base WA wc ws) (hV:OwI w base VA vc vs) (hH:OwI w base HA hc bs) (d1:Dis WA VA) (d2:Dis WA HA) (d3:Dis VA HA)
  (hgr:w.grownBy w2 (bl VA)) (o2:OwI w2 base A' c' (vs++[x])) (alt:bl A'=bl VA\/∃ g,bl A'=some g/\w.heap.size<=g) :
  Blk w2 g 119 #[.int .i64 cap,.slice PA pn pc,.slice WA ws.length wc,.slice VA vs.length vc,.slice HA bs.length hc] /\
  Fill (w2.setCell ⟨g,3,none⟩ (.slice A' (vs.length+1) c')) base g cap PA pn pc ws (vs++[x]) bs:=by
 have M:Mod (fun k=>bl VA=some k) w w2:=Qg hV hgr;have hB2:=hB.mod M fun h=>hV.ne hB (by decide) g h rfl
 have hW2:=hW.mod M fun k hk h=>d1.symm k h hk
 have hH2:=hH.mod M fun k hk h=>d3 k h hk
 refine⟨hB2,WA,wc,A',c',HA,hc,?_,hg,hW2.far hB2 (by decide) 3 _,o2.far hB2 (by decide) 3 _,hH2.far hB2 (by decide) 3 _,(d1.symm.after hW alt).symm,d2,d3.after hH alt⟩;rw[List.length_append];exact hB2.set 3 _
end
theorem Ze0 {w:World}{base g pn pc wc vc hc hb k:Nat}{cap y:Int}{PA WA VA:Option Addr}{ws vs bs:List Int}(hB:Blk w g 119 #[.int .i64 cap,.slice PA pn pc,.slice WA ws.length wc,.slice VA vs.length vc,.slice (some ⟨hb,0,none⟩) bs.length hc])(hg:base<=g)
  (hW:OwI w base WA wc ws) (hV:OwI w base VA vc vs) (hH:OwI w base (some ⟨hb,0,none⟩) hc bs) (d1:Dis WA VA) (d2:Dis WA (some ⟨hb,0,none⟩)) (d3:Dis VA (some ⟨hb,0,none⟩))
  (hs:OwI (w.setCell ⟨hb,k,none⟩ (.int .i64 y)) base (some ⟨hb,0,none⟩) hc (bs.set k y)) :
  Fill (w.setCell ⟨hb,k,none⟩ (.int .i64 y)) base g cap PA pn pc ws vs (bs.set k y):=by
 have M:Mod (fun q=>q=hb) w (w.setCell ⟨hb,k,none⟩ (.int .i64 y)):=Mod.set (S:=fun q=>q=hb) (p:=⟨hb,k,none⟩) (Mod.rf w) (.inl rfl) _;have hne:¬g=hb:=fun h=>hH.ne hB (by decide) hb rfl h.symm
 refine⟨WA,wc,VA,vc,_,hc,?_,hg,hW.mod M fun q hq h=>d2 q hq (by subst h;rfl),hV.mod M fun q hq h=>d3 q hq (by subst h;rfl),hs,d1,d2,d3⟩;rw[List.length_set];exact hB.mod M hne
def Yr (vs:List Int)(k:Nat) : List Int:=(List.range (vs.length+1)).map fun i=>if i<k then 0 else Zi (vs.drop i)
theorem Wa (vs:List Int)(k:Nat) : (Yr vs k).length=vs.length+1:=by simp[Yr]
theorem Za8 (vs:List Int) : Yr vs vs.length=List.replicate (vs.length+1) 0:=by
 refine List.ext_getElem (by simp[Yr]) fun i h1 h2=>?_
 simp only[Yr,List.getElem_map,List.getElem_range,List.getElem_replicate];split
 ·rfl
 ·rw[List.drop_of_length_le (by omega)];rfl
theorem QW {vs:List Int}{k i:Nat}(hi:i<=vs.length)(hk:k<=i) : (Yr vs k)[i]?=some (Zi (vs.drop i)):=by
 unfold Yr;rw[List.getElem?_map,List.getElem?_range (by omega)];simp[show ¬i<k by omega]
theorem Zct {vs:List Int}{k:Nat}{v:Int}(hv:vs[k]?=some v) : (Yr vs (k+1)).set k (Zi (vs.drop (k+1))+v)=Yr vs k:=by
 obtain⟨hk,hv⟩:=List.getElem?_eq_some_iff.1 hv;refine List.ext_getElem (by simp[Yr]) fun i h1 h2=>?_
 rw[List.getElem_set];simp only[Yr,List.getElem_map,List.getElem_range]
 by_cases h:k=i
 ·subst h
  rw[if_pos rfl,if_neg (by omega),List.drop_eq_getElem_cons hk,hv];simp only[Zi];omega
 ·rw[if_neg h]
  by_cases h3:i<k
  ·rw[if_pos (by omega),if_pos h3]
  ·rw[if_neg (by omega),if_neg h3]
theorem JA {vs:List Int}(h:Small31 vs)(k:Nat) : 0<=Zi (vs.drop k)/\Zi (vs.drop k)<=2147483647*vs.length:=by
 have key:∀ l:List Int,(∀ x∈l,0<=x/\x<=2147483647)->0<=Zi l/\Zi l<=2147483647*l.length:=by
  intro l
  induction l with
  | nil=>intro _;simp[Zi]
  | cons x l ih =>
   intro hl;have h1:=hl x (by simp);have h2:=ih fun y hy=>hl y (by simp[hy])
   simp only[Zi,List.length_cons,Int.natCast_add,Int.natCast_one];omega
 have h1:=key (vs.drop k) fun x hx=>h x (List.mem_of_mem_drop hx)
 have h2:(vs.drop k).length<=vs.length:=by simp
 omega
theorem ZY (l:List Nat)(v:List Int) : (Zk l v).length=l.length:=by simp[Zk]
theorem VS {l:List Nat}{k n:Nat}{v:List Int}{x:Int}(h:l[k]?=some n)(hx:v[n]?=some x) : Zk (l.take (k+1)) v=Zk (l.take k) v++[x]:=by
 obtain⟨hk,h⟩:=List.getElem?_eq_some_iff.1 h;unfold Zk;rw[List.take_succ_eq_append_getElem hk,List.map_append,h];simp[List.getD,hx]
end Go.Proofs.YtmojhhlcocjoaaaGreatDoor
namespace Go.Proofs.YtmojhhlcocjoaaaGreatDoor
open Go.RowKit Go.ChangeShapes Go.WideShapes Go.ChangeAt Go.Deep
def ZbQ (i:InstP)(w:World)(e:Ending)(w':World) : Prop :=
 ∃ g,e=.returned (.tuple #[.pointer (some ⟨g,0,none⟩),.int .i64 0])/\KernB w' w.heap.size g i.cap (ZW i.value i.weight) (Zk (ZW i.value i.weight) i.weight) (Zk (ZW i.value i.weight) i.value) (Yr (Zk (ZW i.value i.weight) i.value) 0)/\Ext w w'
theorem Zes (i:InstP)(vs:List Value)(w:World)(H:RInst w vs i)(hc:Zl i=0)(hk:i.kind=1) :
  Calls Tryz.prog 36 #[.agg (List.toArray vs)] w (ZbQ i w):=by
 have ok:=Z3 hc hk;have C:=fun(W:World) (x:Ext w W)=>ZA i vs W (H.ext x) (by have:=ok.w;have:=ok.n2;omega) (by have:=ok.v;have:=ok.n2;omega)
 simp only[hc] at C;obtain⟨kind,nn,cap,xw,xv,co⟩:=i;obtain⟨n1,n2,okw,okv,okc,sw,sv,oke⟩:=ok;simp only at *;obtain⟨A,a,B,b,D,d,rfl,⟨rA,iA,lA,mA⟩,⟨rB,iB,lB,mB⟩,-⟩:=H;simp only at *;subst hk oke;obtain⟨n,rfl⟩:∃ n:Nat,nn=(n:Int):=⟨nn.toNat,by omega⟩;have lw:Hid (xw.length=n):=by(have h:xw.length=n:=by omega);exact h
 have lv:Hid (xv.length=n):=by(have h:xv.length=n:=by omega);exact h
 clear okw okv hc;obtain⟨bd1,bd2⟩:1<=n/\n<=64:=by omega
 have R:=fun(W:World) (x:Ext w W)=>Zcr B A b a xv xw W (rB.ext x) (rA.ext x) (by rw[lv.out,lw.out]) (by rw[lv.out];omega) sv sw
 have RL:Hid ((ZW xv xw).length=n):=Hd (by rw[Qd,lv.out]);have RM:Hid (∀ k q,(ZW xv xw)[k]?=some q->q<n):=fun k q h=>by have:=Zcj h;rw[lv.out] at this;exact this
 have HI:Hid (∃ l,l=ZW xv xw):=⟨_,rfl⟩;obtain⟨l,hl⟩:=HI.out;rw[<-hl] at RL RM;simp only[<-hl] at R;replace hl:=Hd hl;replace C:=Hd C;replace R:=Hd R;replace rA:=Hd rA;replace rB:=Hd rB;replace iA:=Hd iA;replace iB:=Hd iB;replace mA:=Hd mA;replace mB:=Hd mB;replace sw:=Hd sw;replace sv:=Hd sv;have B1:Hid (Blk (w.alloc (.cells #[.int .i64 1,.int .i64 n,.int .i64 cap,.slice A xw.length a,.slice B xv.length b,.slice D 0 d] 25)) w.heap.size 25 #[.int .i64 1,.int .i64 n,.int .i64 cap,.slice A xw.length a,.slice B xv.length b,.slice D 0 d]):=.new rfl;clear HI;go_enter Tryz.func36,Tryz.ntmps36;go_wp2_with (fail);refine(C.out _ (by(repeat (first | assumption | exact Ext.rf _ | apply Ext.drew | apply Ext.drewN | apply Ext.alloc)))).mono ?_;rintro e w2 ⟨rfl,x2⟩;have X2:=Hd (Ext.tr (a:=w) (by(repeat (first | assumption | exact Ext.rf _ | apply Ext.drew | apply Ext.drewN | apply Ext.alloc))) x2);have B2:=Hd (B1.out.ext x2);have c0:=B2.out.c0;have c3:=B2.out.c3;have c4:=B2.out.c4;clear x2;go_wp2_with (fail);refine(R.out _ X2.out).mono ?_;rintro e w3 ⟨PA,pc,rfl,rP,lP,mP,x3,bP⟩;have X3:=Hd (X2.out.tr x3);have B3:=Hd (B2.out.ext x3);replace rP:=Hd rP;have bP':Hid (∀ k,bl PA=some k->w.heap.size<=k):=fun k hk=>Nat.le_trans X2.out.size (bP k hk)
 clear c0 c3 c4 x3 bP;go_wp2_with (fail);have k1:=B3.out.c1;have k2:=B3.out.c2;have zb:=B3.out.lt;refine wp_region_any (by kernel_rfl) ?_
 change wpAny _ _ _ _ _ _ _ (World.drew _)
 refine Za (i:=0) (op:=Op.fieldAddr 25 (Operand.tmp 1) 2) (t:=0) (d:=some 30) (v:=?_) rfl (by decide +kernel) (by decide +kernel) (by decide +kernel) (fun _ _ _ h=>h) ?_ ?_
 case refine_2=>(intro _;unfold Zd;go_simp;try with_reducible rfl)
 try simp only[lay]
 refine Za (i:=2) (op:=Op.move (Operand.tmp 5)) (t:=22) (d:=some 32) (v:=?_) rfl (by decide +kernel) (by decide +kernel) (by decide +kernel) (fun _ _ _ h=>h) ?_ ?_
 case refine_2=>(intro _;unfold Zd;go_simp;try with_reducible rfl)
 try simp only[lay]
 refine Za (i:=3) (op:=Op.fieldAddr 25 (Operand.tmp 1) 1) (t:=0) (d:=some 33) (v:=?_) rfl (by decide +kernel) (by decide +kernel) (by decide +kernel) (fun _ _ _ h=>h) ?_ ?_
 case refine_2=>(intro _;unfold Zd;go_simp;try with_reducible rfl)
 try simp only[lay]
 refine ZM (n:=3) [(1,some 31),(4,some 34),(5,some 35),(6,some 36)] (Ext w3)
  (VF (fun | 1=>some (.int .i64 cap) | 4=>some (.int .i64 n) | 5=>some (.int .i64 ((n:Int)+1)) | _=>none)
   (fun j v W=>j=6->∃ h,v=.slice (some ⟨h,0,none⟩) (n+1) (n+1)/\OwI W w3.heap.size (some ⟨h,0,none⟩) (n+1) (List.replicate (n+1) 0)))
  Ext #[true,true,true,true,true,true,true,false,false,false] (by kernel_rfl) (VF.stab ?_) ?_ ?_ ((Ext.rf _).drew)
 ·intro j v W W' _ g6 hx h
  obtain⟨h,q1,q2⟩:=g6 h;exact⟨h,q1,q2.ext hx⟩
 ·intro pq hpm u W hRW hD K hK
  have r1:=Zg hRW zb k1;have r2:=Zg hRW zb k2;have z2:=hRW.size;simp only[List.mem_cons,List.not_mem_nil,or_false] at hpm;rcases hpm with rfl | rfl | rfl | rfl
  ·exact Zo (T:=3) rfl (.pointer (some ⟨w.heap.size,2,none⟩)) (by kernel_rfl) (.int .i64 cap) (by go_simp) (hK _ _ (VF.mk rfl) hRW (Ext.rf _))
  ·exact Zo (T:=3) rfl (.pointer (some ⟨w.heap.size,1,none⟩)) (by kernel_rfl) (.int .i64 n) (by go_simp) (hK _ _ (VF.mk rfl) hRW (Ext.rf _))
  ·have h4:=(hD 4 (Zm (by kernel_rfl))).k rfl
   exact ZB rfl (.int .i64 ((n:Int)+1)) (by simp only[Zj,h4];unfold Zd;go_simp;exact IntWalk.i64_in _ (by omega)) (hK _ _ (VF.mk rfl) hRW (Ext.rf _))
  ·have h5:=(hD 5 (Zm (by kernel_rfl))).k rfl
   refine Zcs rfl w3.heap.size (n+1) ((n:Int)+1) (Eq.trans (b:=u 5) (by kernel_rfl) h5) (Eq.trans (b:=u 5) (by kernel_rfl) h5) (by omega) (by omega) z2 (fun w' o6 g6=>hK _ _ (VF.mg rfl fun _=>⟨_,rfl,o6⟩) (hRW.grownNone g6) ((Ext.rf _).grownNone g6))
 ·intro u w4 hRW hV
  have h1:=(hV (1,some 31) (by simp)).k rfl;have h4:=(hV (4,some 34) (by simp)).k rfl;have h5:=(hV (5,some 35) (by simp)).k rfl;obtain⟨hb,h6,o6⟩:=(hV (6,some 36) (by simp)).g rfl rfl;simp only[Zj,h1,h4,h5,h6];clear hV h1 h4 h5 h6 k1 k2
  try simp only[lay]
  refine Za (i:=7) (op:=Op.build 119 #[(0,Operand.tmp 31),(1,Operand.tmp 32),(4,Operand.tmp 36)]) (t:=119) (d:=some 37) (v:=?_) rfl (by decide +kernel) (by decide +kernel) (by decide +kernel) (fun _ _ _ h=>h) ?_ ?_
  case refine_2=>(intro _;unfold Zd;go_simp;try with_reducible rfl)
  try simp only[lay]
  refine Zh 8 (by kernel_rfl) (ZB (op:=.box 119 (.tmp 37)) rfl (.pointer (some ⟨w4.heap.size,0,none⟩)) (w':=w4.alloc (.cells #[.int .i64 cap,.slice PA l.length pc,.slice none 0 0,.slice none 0 0,.slice (some ⟨hb,0,none⟩) (n+1) (n+1)] 119)) (by unfold Zd;go_simp) ?_)
  try simp only[lay]
  refine Za (i:=9) (op:=Op.assign (Operand.tmp 38)) (t:=69) (d:=some 7) (v:=?_) rfl (by decide +kernel) (by decide +kernel) (by decide +kernel) (fun _ _ _ h=>h) ?_ ?_
  case refine_2=>(intro _;unfold Zd;go_simp;try with_reducible rfl)
  try simp only[lay]
  refine wpAny_done (by kernel_rfl) ?_ _;have X4:=Hd ((Ext.tr X3.out hRW).alloc (.cells #[.int .i64 cap,.slice PA l.length pc,.slice none 0 0,.slice none 0 0,.slice (some ⟨hb,0,none⟩) (n+1) (n+1)] 119));have Y4:=Hd (hRW.alloc (.cells #[.int .i64 cap,.slice PA l.length pc,.slice none 0 0,.slice none 0 0,.slice (some ⟨hb,0,none⟩) (n+1) (n+1)] 119));have F4:Hid (Fill (w4.alloc (.cells #[.int .i64 cap,.slice PA l.length pc,.slice none 0 0,.slice none 0 0,.slice (some ⟨hb,0,none⟩) (n+1) (n+1)] 119)) w3.heap.size w4.heap.size cap PA l.length pc [] [] (List.replicate (n+1) 0)):=by
   refine⟨none,0,none,0,some ⟨hb,0,none⟩,n+1,?_,hRW.size,OwI.nil _ _,OwI.nil _ _,o6.ext ((Ext.rf _).alloc _),Dis.none _,Dis.none _,Dis.none _⟩;simp only[List.length_replicate,List.length_nil];exact .new rfl
  clear o6;generalize hw4:w4.alloc (.cells #[.int .i64 cap,.slice PA l.length pc,.slice none 0 0,.slice none 0 0,.slice (some ⟨hb,0,none⟩) (n+1) (n+1)] 119)=w5 at *;clear hw4 hRW;generalize w4.heap.size=g at *;clear w4;go_simp;go_wp2_with (fail);have lP9:=rP.out;have hbs:Hid (∀ (u:World) (z:Int),(Instr.buildSlice 22 1 #[(0,.int .i64 z)]).run Tryz.prog u=.ok (.slice (some ⟨u.heap.size,0,none⟩) 1 1) (u.alloc (.cells #[.int .i64 z] 3))):=fun u z=>by go_simp
  have F4':Hid (Fill w5 w3.heap.size g cap PA l.length pc (Zk (l.take 0) xw) (Zk (l.take 0) xv) (List.replicate (n+1) 0)):=F4.out;clear F4 lP9;go_loopw [41] (fun i wr=>∃ j:Nat,i=.int .i64 j/\j<=n/\Hid (Fill wr w3.heap.size g cap PA l.length pc (Zk (l.take j) xw) (Zk (l.take j) xv) (List.replicate (n+1) 0))/\Ext w3 wr) (fun i _=>n-(intOf i).toNat)
  case atStart=>exact⟨0,rfl,by omega,F4',Y4.out⟩
  case round =>
   obtain⟨wo,rfl⟩:∃ wo:World,wo=wr:=⟨_,rfl⟩;obtain⟨j,rfl,hj,HF,Y⟩:=hrel;have Bi:=Hd (B3.out.ext Y)
   by_cases hlt:j<n
   ·obtain⟨pb,po,qi,rfl,_,cq,eq1,_⟩:=(rP.out.ext Y).at (k:=j) (by rw[ZG,RL.out];exact hlt)
    have hj':j<l.length:=by rw[RL.out];exact hlt
    obtain⟨q,hq0⟩:∃ q,Hid (l[j]?=some q):=⟨l[j],List.getElem?_eq_getElem hj'⟩;obtain rfl:qi=(q:Int):=by
     have h1:=ZeX hq0.out;rw[eq1.out] at h1;exact Option.some.inj h1
    have hqn:q<n:=RM.out j q hq0.out;have hqw:q<xw.length:=by rw[lw.out];exact hqn
    have hqv:q<xv.length:=by rw[lv.out];exact hqn
    obtain⟨ab,ao,x,rfl,zs2',cs2',ex,_⟩:=(rA.out.ext X3.out).at hqw;obtain⟨bb,bo,y,rfl,zs3',cs3',ey,_⟩:=(rB.out.ext X3.out).at hqv;have EW:Hid (Zk (l.take (j+1)) xw=Zk (l.take j) xw++[x]):=VS hq0.out ex.out;have EV:Hid (Zk (l.take (j+1)) xv=Zk (l.take j) xv++[y]):=VS hq0.out ey.out;have lW:(Zk (l.take j) xw).length<=64:=by rw[ZY];simp;omega
    have lV:(Zk (l.take j) xv).length<=64:=by rw[ZY];simp;omega
    generalize Zk (l.take j) xw=WL at *;generalize Zk (l.take j) xv=VL at *;have zi:=Bi.out.lt;go_wp2_with (fail);obtain⟨WA,wc,VA,vc,HA,hc,Bg,hgb,OW,OV,OH,dd1,dd2,dd3⟩:=HF.out;have zg:=Bg.lt;have zs2:=Nat.lt_of_lt_of_le zs2' Y.size;have cs2:=Zg Y zs2' cs2';replace Bg:=Hd Bg;replace OW:=Hd OW;replace OV:=Hd OV;replace OH:=Hd OH;refine wp_region_any (by kernel_rfl) ?_
    change wpAny _ _ _ _ _ _ _ (World.drew _)
    refine Za (i:=0) (op:=Op.move (Operand.tmp 7)) (t:=69) (d:=some 45) (v:=?_) rfl (by decide +kernel) (by decide +kernel) (by decide +kernel) (fun _ _ _ h=>h) ?_ ?_
    case refine_2=>(intro _;unfold Zd;go_simp;try with_reducible rfl)
    try simp only[lay]
    refine Za (i:=1) (op:=Op.move (Operand.tmp 7)) (t:=69) (d:=some 46) (v:=?_) rfl (by decide +kernel) (by decide +kernel) (by decide +kernel) (fun _ _ _ h=>h) ?_ ?_
    case refine_2=>(intro _;unfold Zd;go_simp;try with_reducible rfl)
    try simp only[lay]
    refine Za (i:=2) (op:=Op.nilCheck (Operand.tmp 46)) (t:=0) (d:=some 47) (v:=?_) rfl (by decide +kernel) (by decide +kernel) (by decide +kernel) (fun _ _ _ h=>h) ?_ ?_
    case refine_2=>(intro _;unfold Zd;go_simp;try with_reducible rfl)
    try simp only[lay]
    refine Za (i:=3) (op:=Op.fieldAddr 119 (Operand.tmp 47) 2) (t:=0) (d:=some 48) (v:=?_) rfl (by decide +kernel) (by decide +kernel) (by decide +kernel) (fun _ _ _ h=>h) ?_ ?_
    case refine_2=>(intro _;unfold Zd;go_simp;try with_reducible rfl)
    try simp only[lay]
    refine Za (i:=5) (op:=Op.fieldAddr 25 (Operand.tmp 1) 3) (t:=0) (d:=some 50) (v:=?_) rfl (by decide +kernel) (by decide +kernel) (by decide +kernel) (fun _ _ _ h=>h) ?_ ?_
    case refine_2=>(intro _;unfold Zd;go_simp;try with_reducible rfl)
    try simp only[lay]
    refine Za (i:=7) (op:=Op.move (Operand.tmp 9)) (t:=3) (d:=some 52) (v:=?_) rfl (by decide +kernel) (by decide +kernel) (by decide +kernel) (fun _ _ _ h=>h) ?_ ?_
    case refine_2=>(intro _;unfold Zd;go_simp;try with_reducible rfl)
    try simp only[lay]
    refine ZM (n:=4) [(4,some 49),(6,some 51),(8,some 53),(9,some 54),(10,some 55)] (Ext wo)
     (VF (fun | 4=>some (.slice WA WL.length wc) | 6=>some (.slice (some ⟨ab,ao,none⟩) xw.length a) | 8=>some (.pointer (some ⟨ab,ao+q,none⟩)) | 9=>some (.int .i64 x) | _=>none)
      (fun j v W=>j=10->∃ h,v=.slice (some ⟨h,0,none⟩) 1 1/\Blk W h 3 #[.int .i64 x]))
     Ext #[true,true,true,true,true,true,true,true,true,true,true,false,false,false,false] (by kernel_rfl) (VF.stab ?_) ?_ ?_ ((Ext.rf _).drew)
    ·intro j v W W' _ g6 hx h
     obtain⟨h,q1,q2⟩:=g6 h;exact⟨h,q1,q2.ext hx⟩
    ·intro pq hpm u W hRW hD K hK
     have r1:=Zg hRW zg (Bg.out.cell 2);have r2:=Zg hRW zi (Bi.out.cell 3);have r3:=Zg hRW zs2 cs2;simp only[List.mem_cons,List.not_mem_nil,or_false] at hpm;rcases hpm with rfl | rfl | rfl | rfl | rfl
     ·exact Zo (T:=22) rfl (.pointer (some ⟨g,2,none⟩)) (by kernel_rfl) (.slice WA WL.length wc) (by go_simp) (hK _ _ (VF.mk rfl) hRW (Ext.rf _))
     ·exact Zo (T:=22) rfl (.pointer (some ⟨w.heap.size,3,none⟩)) (by kernel_rfl) (.slice (some ⟨ab,ao,none⟩) xw.length a) (by go_simp) (hK _ _ (VF.mk rfl) hRW (Ext.rf _))
     ·have h6:=(hD 6 (Zm (by kernel_rfl))).k rfl
      exact ZU (T:=22) rfl (.slice (some ⟨ab,ao,none⟩) xw.length a) (.int .i64 q) (Eq.trans (b:=u 6) (by kernel_rfl) h6) (by kernel_rfl) (.pointer (some ⟨ab,ao+q,none⟩)) (by go_simp) (hK _ _ (VF.mk rfl) hRW (Ext.rf _))
     ·have h8:=(hD 8 (Zm (by kernel_rfl))).k rfl
      exact Zo (T:=3) rfl (.pointer (some ⟨ab,ao+q,none⟩)) (Eq.trans (b:=u 8) (by kernel_rfl) h8) (.int .i64 x) (by go_simp) (hK _ _ (VF.mk rfl) hRW (Ext.rf _))
     ·have h9:=(hD 9 (Zm (by kernel_rfl))).k rfl
      exact Jt rfl _ (Eq.trans (b:=u 9) (by kernel_rfl) h9) _ (hbs.out _ _) (hK _ _ (VF.mg rfl fun _=>⟨_,rfl,.new rfl⟩) (hRW.alloc _) ((Ext.rf _).alloc _))
    ·intro u w6 hRW hV
     have h4:=(hV (4,some 49) (by simp)).k rfl;have h6:=(hV (6,some 51) (by simp)).k rfl;have h8:=(hV (8,some 53) (by simp)).k rfl;have h9:=(hV (9,some 54) (by simp)).k rfl;obtain⟨hq,h10,b10⟩:=(hV (10,some 55) (by simp)).g rfl rfl;simp only[Zj,h4,h6,h8,h9,h10];obtain⟨A7,c7,w7,hrun,o7,g7,alt7⟩:=Vc w6 w3.heap.size 22 WA WL.length wc WL [x] (some ⟨hq,0,none⟩) 1 rfl (OW.out.ext hRW) (.blk b10 rfl) (by simp;omega) (Nat.le_trans Y.size hRW.size);obtain⟨b7,F7⟩:=ZeY (Bg.out.ext hRW) hgb (OW.out.ext hRW) (OV.out.ext hRW) (OH.out.ext hRW) dd1 dd2 dd3 g7 o7 alt7;have x7:Ext w3 w7:=(Y.tr hRW).grow g7 (fun k hk=>(OW.out.lt k hk).1);have cg7:=b7.c2;have fg7:=b7.free 2;have Y7:Ext w3 (w7.setCell ⟨g,2,none⟩ (.slice A7 (WL.length+1) c7)):=x7.setNew (p:=⟨g,2,none⟩) hgb _;replace F7:=Hd F7;rw[show (WL++[x]).length=WL.length+1 from by simp] at hrun;clear h4 h6 h8 h9 h10 hV b10 o7 g7 alt7 b7;refine Zh 11 (by kernel_rfl) (U4 rfl (.slice WA WL.length wc) (.slice (some ⟨hq,0,none⟩) 1 1) (by kernel_rfl) (by kernel_rfl) _ hrun ?_)
     try simp only[lay]
     refine Za (i:=12) (op:=Op.nilCheck (Operand.tmp 45)) (t:=0) (d:=some 57) (v:=?_) rfl (by decide +kernel) (by decide +kernel) (by decide +kernel) (fun _ _ _ h=>h) ?_ ?_
     case refine_2=>(intro _;unfold Zd;go_simp;try with_reducible rfl)
     try simp only[lay]
     refine Za (i:=13) (op:=Op.fieldAddr 119 (Operand.tmp 57) 2) (t:=0) (d:=some 58) (v:=?_) rfl (by decide +kernel) (by decide +kernel) (by decide +kernel) (fun _ _ _ h=>h) ?_ ?_
     case refine_2=>(intro _;unfold Zd;go_simp;try with_reducible rfl)
     try simp only[lay]
     refine Zh 14 (by kernel_rfl) (Yo rfl (.pointer (some ⟨g,2,none⟩)) (.slice A7 (WL.length+1) c7) (by kernel_rfl) (by kernel_rfl) (by go_simp;rfl) ?_);refine wpAny_done (by kernel_rfl) ?_ _;clear hrun hRW cg7 fg7 x7;generalize w7.setCell ⟨g,2,none⟩ (.slice A7 (WL.length+1) c7)=w8 at *;clear w7;go_simp;clear Bg OW OV OH dd1 dd2 dd3 HF zg cs2 zs2 Bi zi;have Bi:=Hd (B3.out.ext Y7);have zi:=Bi.out.lt;go_wp2_with (fail);obtain⟨WA2,wc2,VA2,vc2,HA2,hc2,Bg,hgb,OW,OV,OH,dd1,dd2,dd3⟩:=F7.out;have zg:=Bg.lt;have zs3:=Nat.lt_of_lt_of_le zs3' Y7.size;have cs3:=Zg Y7 zs3' cs3';replace Bg:=Hd Bg;replace OW:=Hd OW;replace OV:=Hd OV;replace OH:=Hd OH;clear F7;refine wp_region_any (by kernel_rfl) ?_
     change wpAny _ _ _ _ _ _ _ (World.drew _)
     refine Za (i:=0) (op:=Op.move (Operand.tmp 7)) (t:=69) (d:=some 59) (v:=?_) rfl (by decide +kernel) (by decide +kernel) (by decide +kernel) (fun _ _ _ h=>h) ?_ ?_
     case refine_2=>(intro _;unfold Zd;go_simp;try with_reducible rfl)
     try simp only[lay]
     refine Za (i:=1) (op:=Op.move (Operand.tmp 7)) (t:=69) (d:=some 60) (v:=?_) rfl (by decide +kernel) (by decide +kernel) (by decide +kernel) (fun _ _ _ h=>h) ?_ ?_
     case refine_2=>(intro _;unfold Zd;go_simp;try with_reducible rfl)
     try simp only[lay]
     refine Za (i:=2) (op:=Op.nilCheck (Operand.tmp 60)) (t:=0) (d:=some 61) (v:=?_) rfl (by decide +kernel) (by decide +kernel) (by decide +kernel) (fun _ _ _ h=>h) ?_ ?_
     case refine_2=>(intro _;unfold Zd;go_simp;try with_reducible rfl)
     try simp only[lay]
     refine Za (i:=3) (op:=Op.fieldAddr 119 (Operand.tmp 61) 3) (t:=0) (d:=some 62) (v:=?_) rfl (by decide +kernel) (by decide +kernel) (by decide +kernel) (fun _ _ _ h=>h) ?_ ?_
     case refine_2=>(intro _;unfold Zd;go_simp;try with_reducible rfl)
     try simp only[lay]
     refine Za (i:=5) (op:=Op.fieldAddr 25 (Operand.tmp 1) 4) (t:=0) (d:=some 64) (v:=?_) rfl (by decide +kernel) (by decide +kernel) (by decide +kernel) (fun _ _ _ h=>h) ?_ ?_
     case refine_2=>(intro _;unfold Zd;go_simp;try with_reducible rfl)
     try simp only[lay]
     refine Za (i:=7) (op:=Op.move (Operand.tmp 9)) (t:=3) (d:=some 66) (v:=?_) rfl (by decide +kernel) (by decide +kernel) (by decide +kernel) (fun _ _ _ h=>h) ?_ ?_
     case refine_2=>(intro _;unfold Zd;go_simp;try with_reducible rfl)
     try simp only[lay]
     refine ZM (n:=4) [(4,some 63),(6,some 65),(8,some 67),(9,some 68),(10,some 69)] (Ext w8)
      (VF (fun | 4=>some (.slice VA2 VL.length vc2) | 6=>some (.slice (some ⟨bb,bo,none⟩) xv.length b) | 8=>some (.pointer (some ⟨bb,bo+q,none⟩)) | 9=>some (.int .i64 y) | _=>none)
       (fun j v W=>j=10->∃ h,v=.slice (some ⟨h,0,none⟩) 1 1/\Blk W h 3 #[.int .i64 y]))
      Ext #[true,true,true,true,true,true,true,true,true,true,true,false,false,false,false] (by kernel_rfl) (VF.stab ?_) ?_ ?_ ((Ext.rf _).drew)
     ·intro j v W W' _ g6 hx h
      obtain⟨h,q1,q2⟩:=g6 h;exact⟨h,q1,q2.ext hx⟩
     ·intro pq hpm u W hRW hD K hK
      have r1:=Zg hRW zg (Bg.out.cell 3);have r2:=Zg hRW zi (Bi.out.cell 4);have r3:=Zg hRW zs3 cs3;simp only[List.mem_cons,List.not_mem_nil,or_false] at hpm;rcases hpm with rfl | rfl | rfl | rfl | rfl
      ·exact Zo (T:=22) rfl (.pointer (some ⟨g,3,none⟩)) (by kernel_rfl) (.slice VA2 VL.length vc2) (by go_simp) (hK _ _ (VF.mk rfl) hRW (Ext.rf _))
      ·exact Zo (T:=22) rfl (.pointer (some ⟨w.heap.size,4,none⟩)) (by kernel_rfl) (.slice (some ⟨bb,bo,none⟩) xv.length b) (by go_simp) (hK _ _ (VF.mk rfl) hRW (Ext.rf _))
      ·have h6:=(hD 6 (Zm (by kernel_rfl))).k rfl
       exact ZU (T:=22) rfl (.slice (some ⟨bb,bo,none⟩) xv.length b) (.int .i64 q) (Eq.trans (b:=u 6) (by kernel_rfl) h6) (by kernel_rfl) (.pointer (some ⟨bb,bo+q,none⟩)) (by go_simp) (hK _ _ (VF.mk rfl) hRW (Ext.rf _))
      ·have h8:=(hD 8 (Zm (by kernel_rfl))).k rfl
       exact Zo (T:=3) rfl (.pointer (some ⟨bb,bo+q,none⟩)) (Eq.trans (b:=u 8) (by kernel_rfl) h8) (.int .i64 y) (by go_simp) (hK _ _ (VF.mk rfl) hRW (Ext.rf _))
      ·have h9:=(hD 9 (Zm (by kernel_rfl))).k rfl
       exact Jt rfl _ (Eq.trans (b:=u 9) (by kernel_rfl) h9) _ (hbs.out _ _) (hK _ _ (VF.mg rfl fun _=>⟨_,rfl,.new rfl⟩) (hRW.alloc _) ((Ext.rf _).alloc _))
     ·intro u w6 hRW hV
      have h4:=(hV (4,some 63) (by simp)).k rfl;have h6:=(hV (6,some 65) (by simp)).k rfl;have h8:=(hV (8,some 67) (by simp)).k rfl;have h9:=(hV (9,some 68) (by simp)).k rfl;obtain⟨hq,h10,b10⟩:=(hV (10,some 69) (by simp)).g rfl rfl;simp only[Zj,h4,h6,h8,h9,h10];obtain⟨A7,c7,w7,hrun,o7,g7,alt7⟩:=Vc w6 w3.heap.size 22 VA2 VL.length vc2 VL [y] (some ⟨hq,0,none⟩) 1 rfl (OV.out.ext hRW) (.blk b10 rfl) (by simp;omega) (Nat.le_trans Y7.size hRW.size);obtain⟨b7,F7⟩:=ZeZ (Bg.out.ext hRW) hgb (OW.out.ext hRW) (OV.out.ext hRW) (OH.out.ext hRW) dd1 dd2 dd3 g7 o7 alt7;have x7:Ext w3 w7:=(Y7.tr hRW).grow g7 (fun k hk=>(OV.out.lt k hk).1);have cg7:=b7.c3;have fg7:=b7.free 3;have Y9:Ext w3 (w7.setCell ⟨g,3,none⟩ (.slice A7 (VL.length+1) c7)):=x7.setNew (p:=⟨g,3,none⟩) hgb _;have F9:=Hd F7;rw[show (VL++[y]).length=VL.length+1 from by simp] at hrun;clear F7 h4 h6 h8 h9 h10 hV b10 o7 g7 alt7 b7;refine Zh 11 (by kernel_rfl) (U4 rfl (.slice VA2 VL.length vc2) (.slice (some ⟨hq,0,none⟩) 1 1) (by kernel_rfl) (by kernel_rfl) _ hrun ?_)
      try simp only[lay]
      refine Za (i:=12) (op:=Op.nilCheck (Operand.tmp 59)) (t:=0) (d:=some 71) (v:=?_) rfl (by decide +kernel) (by decide +kernel) (by decide +kernel) (fun _ _ _ h=>h) ?_ ?_
      case refine_2=>(intro _;unfold Zd;go_simp;try with_reducible rfl)
      try simp only[lay]
      refine Za (i:=13) (op:=Op.fieldAddr 119 (Operand.tmp 71) 3) (t:=0) (d:=some 72) (v:=?_) rfl (by decide +kernel) (by decide +kernel) (by decide +kernel) (fun _ _ _ h=>h) ?_ ?_
      case refine_2=>(intro _;unfold Zd;go_simp;try with_reducible rfl)
      try simp only[lay]
      refine Zh 14 (by kernel_rfl) (Yo rfl (.pointer (some ⟨g,3,none⟩)) (.slice A7 (VL.length+1) c7) (by kernel_rfl) (by kernel_rfl) (by go_simp;rfl) ?_);refine wpAny_done (by kernel_rfl) ?_ _;clear hrun hRW cg7 fg7 x7;generalize w7.setCell ⟨g,3,none⟩ (.slice A7 (VL.length+1) c7)=w9 at *;clear w7;go_simp;go_wp2_with (fail);go_roundw
      case rel=>exact⟨j+1,by go_num,by omega,by rw[EW.out,EV.out];exact F9.out,Y9⟩
      case measure=>simp[intOf];omega
   ·obtain rfl:j=n:=by omega
    have eF:Hid (l.take j=l):=List.take_of_length_le (by rw[RL.out];exact Nat.le_refl _);have HF':Hid (Fill wo w3.heap.size g cap PA l.length pc (Zk l xw) (Zk l xv) (List.replicate (j+1) 0)):=by
     have h:=HF.out;rw[eF.out] at h;exact h
    have lV:(Zk l xv).length=j:=by rw[ZY];exact RL.out
    have bV:Small31 (Zk l xv):=by
     intro z hz;obtain⟨q,hq,rfl⟩:=List.mem_map.1 hz;obtain⟨k,hk⟩:=List.mem_iff_getElem?.1 hq;have hqn:=RM.out k q hk;have:xv[q]?=some (xv[q]'(by rw[lv.out];exact hqn)):=List.getElem?_eq_getElem _;rw[getD_some this];exact sv.out _ (List.getElem_mem _)
    have HF2:Hid (Fill wo w3.heap.size g cap PA l.length pc (Zk l xw) (Zk l xv) (Yr (Zk l xv) j)):=by
     have h:=HF'.out;have e9:=Za8 (Zk l xv);rw[lV] at e9;rw[<-e9] at h;exact h
    have hWe:Hid (Zk l xw=Zk (ZW xv xw) xw):=by rw[hl.out];exact rfl
    have hVe:Hid (Zk l xv=Zk (ZW xv xw) xv):=by rw[hl.out];exact rfl
    generalize Zk l xw=XW at *;generalize Zk l xv=XV at *;have k1:=Bi.out.c1;clear HF HF' eF;replace lV:=Hd lV;replace bV:=Hd bV;have hge:l.length<=j:=by rw[RL.out];exact Nat.le_refl _
    have hgeb:decide (j<l.length)=false:=by simpa using hge
    go_wp2_with (fail);go_loopw [10] (fun i wr=>∃ (k:Nat) (z:Int),i=.int .i64 z/\z+1=(k:Int)/\k<=j/\Hid (Fill wr w3.heap.size g cap PA l.length pc XW XV (Yr XV k))/\Ext w3 wr) (fun i _=>(intOf i+1).toNat)
    case atStart=>exact⟨j,_,rfl,by omega,by omega,HF2,Y⟩
    case round =>
     obtain⟨wq,rfl⟩:∃ wq:World,wq=wr:=⟨_,rfl⟩;obtain⟨k,z,rfl,hz,hk,HG,Z⟩:=hrel
     by_cases h0:1<=k
     ·obtain⟨m,rfl⟩:∃ m,k=m+1:=⟨k-1,by omega⟩
      obtain rfl:z=(m:Int):=by omega
      obtain⟨WA,wc,VA,vc,HA,hc,Bg,hgb,OW,OV,OH,dd1,dd2,dd3⟩:=HG.out;obtain⟨hb,x0,rfl,hbb,zh,_,_,_,hset⟩:=OH.at (k:=m) (by rw[Wa,lV.out];omega);obtain⟨hb',x1,e1,_,_,ch1,_,ex1,_⟩:=OH.at (k:=m+1) (by rw[Wa,lV.out];omega);obtain rfl:hb=hb':=by injection e1 with e1;injection e1
      obtain rfl:x1=Zi (XV.drop (m+1)):=by
       have h1:=QW (vs:=XV) (k:=m+1) (i:=m+1) (by rw[lV.out];omega) (Nat.le_refl _);rw[ex1.out] at h1;exact Option.some.inj h1
      obtain⟨vb,y,rfl,_,zv,cv,_,ey,_⟩:=OV.at (k:=m) (by rw[lV.out];omega);have bd1:=JA bV.out (m+1);rw[lV.out] at bd1;have bd2:=bV.out.get ey.out;have cB:=Bg.cell 4;have cV:=Bg.cell 3;have zg:=Bg.lt;have lB:(Yr XV (m+1)).length=j+1:=by rw[Wa,lV.out]
      simp only[lB,lV.out] at cB cV;obtain⟨S,hS⟩:∃ S,Hid (S=Zi (XV.drop (m+1))):=⟨_,rfl⟩;rw[<-hS.out] at bd1 ch1;replace Bg:=Hd Bg;replace OW:=Hd OW;replace OV:=Hd OV;replace OH:=Hd OH;clear hset HG lB ex1 e1 hz h0;replace cB:wq.cell? ⟨g,4,none⟩=some (.slice (some ⟨hb,0,none⟩) (j+1) hc):=cB;replace cV:wq.cell? ⟨g,3,none⟩=some (.slice (some ⟨vb,0,none⟩) j vc):=cV;have hmj:m<j:=by omega
      have q1:(0:Int)<=(m:Int)+1:=by omega
      have q2:(m:Int)<(j:Int)+1:=by omega
      have q3:(m:Int)+1<(j:Int)+1:=by omega
      have q4:¬((m:Int)+1<0):=by omega
      clear HF2;go_wp2_with (fail);refine wp_region_any (by kernel_rfl) ?_
      change wpAny _ _ _ _ _ _ _ (World.drew _)
      refine Za (i:=0) (op:=Op.move (Operand.tmp 7)) (t:=69) (d:=some 81) (v:=?_) rfl (by decide +kernel) (by decide +kernel) (by decide +kernel) (fun _ _ _ h=>h) ?_ ?_
      case refine_2=>(intro _;unfold Zd;go_simp;try with_reducible rfl)
      try simp only[lay]
      refine Za (i:=1) (op:=Op.nilCheck (Operand.tmp 81)) (t:=0) (d:=some 82) (v:=?_) rfl (by decide +kernel) (by decide +kernel) (by decide +kernel) (fun _ _ _ h=>h) ?_ ?_
      case refine_2=>(intro _;unfold Zd;go_simp;try with_reducible rfl)
      try simp only[lay]
      refine Za (i:=2) (op:=Op.fieldAddr 119 (Operand.tmp 82) 4) (t:=0) (d:=some 83) (v:=?_) rfl (by decide +kernel) (by decide +kernel) (by decide +kernel) (fun _ _ _ h=>h) ?_ ?_
      case refine_2=>(intro _;unfold Zd;go_simp;try with_reducible rfl)
      try simp only[lay]
      refine Za (i:=4) (op:=Op.move (Operand.tmp 10)) (t:=3) (d:=some 85) (v:=?_) rfl (by decide +kernel) (by decide +kernel) (by decide +kernel) (fun _ _ _ h=>h) ?_ ?_
      case refine_2=>(intro _;unfold Zd;go_simp;try with_reducible rfl)
      try simp only[lay]
      refine Za (i:=5) (op:=Op.move (Operand.tmp 7)) (t:=69) (d:=some 86) (v:=?_) rfl (by decide +kernel) (by decide +kernel) (by decide +kernel) (fun _ _ _ h=>h) ?_ ?_
      case refine_2=>(intro _;unfold Zd;go_simp;try with_reducible rfl)
      try simp only[lay]
      refine Za (i:=6) (op:=Op.nilCheck (Operand.tmp 86)) (t:=0) (d:=some 87) (v:=?_) rfl (by decide +kernel) (by decide +kernel) (by decide +kernel) (fun _ _ _ h=>h) ?_ ?_
      case refine_2=>(intro _;unfold Zd;go_simp;try with_reducible rfl)
      try simp only[lay]
      refine Za (i:=7) (op:=Op.fieldAddr 119 (Operand.tmp 87) 4) (t:=0) (d:=some 88) (v:=?_) rfl (by decide +kernel) (by decide +kernel) (by decide +kernel) (fun _ _ _ h=>h) ?_ ?_
      case refine_2=>(intro _;unfold Zd;go_simp;try with_reducible rfl)
      try simp only[lay]
      refine Za (i:=9) (op:=Op.move (Operand.tmp 10)) (t:=3) (d:=some 90) (v:=?_) rfl (by decide +kernel) (by decide +kernel) (by decide +kernel) (fun _ _ _ h=>h) ?_ ?_
      case refine_2=>(intro _;unfold Zd;go_simp;try with_reducible rfl)
      try simp only[lay]
      refine Za (i:=13) (op:=Op.move (Operand.tmp 7)) (t:=69) (d:=some 94) (v:=?_) rfl (by decide +kernel) (by decide +kernel) (by decide +kernel) (fun _ _ _ h=>h) ?_ ?_
      case refine_2=>(intro _;unfold Zd;go_simp;try with_reducible rfl)
      try simp only[lay]
      refine Za (i:=14) (op:=Op.nilCheck (Operand.tmp 94)) (t:=0) (d:=some 95) (v:=?_) rfl (by decide +kernel) (by decide +kernel) (by decide +kernel) (fun _ _ _ h=>h) ?_ ?_
      case refine_2=>(intro _;unfold Zd;go_simp;try with_reducible rfl)
      try simp only[lay]
      refine Za (i:=15) (op:=Op.fieldAddr 119 (Operand.tmp 95) 3) (t:=0) (d:=some 96) (v:=?_) rfl (by decide +kernel) (by decide +kernel) (by decide +kernel) (fun _ _ _ h=>h) ?_ ?_
      case refine_2=>(intro _;unfold Zd;go_simp;try with_reducible rfl)
      try simp only[lay]
      refine Za (i:=17) (op:=Op.move (Operand.tmp 10)) (t:=3) (d:=some 98) (v:=?_) rfl (by decide +kernel) (by decide +kernel) (by decide +kernel) (fun _ _ _ h=>h) ?_ ?_
      case refine_2=>(intro _;unfold Zd;go_simp;try with_reducible rfl)
      try simp only[lay]
      refine ZM (n:=2) [(3,some 84),(8,some 89),(10,some 91),(11,some 92),(12,some 93),(16,some 97),(18,some 99),(19,some 100),(20,some 101)] (Ext wq)
       (VF (fun | 3=>some (.slice (some ⟨hb,0,none⟩) (j+1) hc) | 8=>some (.slice (some ⟨hb,0,none⟩) (j+1) hc) | 10=>some (.int .i64 ((m:Int)+1)) | 11=>some (.pointer (some ⟨hb,m+1,none⟩)) | 12=>some (.int .i64 S) | 16=>some (.slice (some ⟨vb,0,none⟩) j vc) | 18=>some (.pointer (some ⟨vb,m,none⟩)) | 19=>some (.int .i64 y) | 20=>some (.int .i64 (S+y)) | _=>none) (fun _ _ _=>True))
       Ext #[true,true,true,true,true,true,true,true,true,true,true,true,true,true,true,true,true,true,true,true,true,false,false] (by kernel_rfl) (VF.stab ?_) ?_ ?_ ((Ext.rf _).drew)
      ·intro j v W W' _ h _
       exact h
      ·intro pq hpm u W hRW hD K hK
       have r1:=Zg hRW zg cB;have r2:=Zg hRW zg cV;have r3:=Zg hRW zh ch1;have r4:=Zg hRW zv cv;simp only[List.mem_cons,List.not_mem_nil,or_false] at hpm;rcases hpm with rfl | rfl | rfl | rfl | rfl | rfl | rfl | rfl | rfl
       ·exact Zo (T:=22) rfl (.pointer (some ⟨g,4,none⟩)) (by kernel_rfl) (.slice (some ⟨hb,0,none⟩) (j+1) hc) (by go_simp) (hK _ _ (VF.mk rfl) hRW (Ext.rf _))
       ·exact Zo (T:=22) rfl (.pointer (some ⟨g,4,none⟩)) (by kernel_rfl) (.slice (some ⟨hb,0,none⟩) (j+1) hc) (by go_simp) (hK _ _ (VF.mk rfl) hRW (Ext.rf _))
       ·exact ZB rfl (.int .i64 ((m:Int)+1)) (by simp only[Zj];unfold Zd;go_simp;exact IntWalk.i64_in _ (by omega)) (hK _ _ (VF.mk rfl) hRW (Ext.rf _))
       ·have h8:=(hD 8 (Zm (by kernel_rfl))).k rfl
        have h10:=(hD 10 (Zm (by kernel_rfl))).k rfl;exact ZU (T:=22) rfl (.slice (some ⟨hb,0,none⟩) (j+1) hc) (.int .i64 ((m:Int)+1)) (Eq.trans (b:=u 8) (by kernel_rfl) h8) (Eq.trans (b:=u 10) (by kernel_rfl) h10) (.pointer (some ⟨hb,m+1,none⟩)) (by go_simp) (hK _ _ (VF.mk rfl) hRW (Ext.rf _))
       ·have h11:=(hD 11 (Zm (by kernel_rfl))).k rfl
        exact Zo (T:=3) rfl (.pointer (some ⟨hb,m+1,none⟩)) (Eq.trans (b:=u 11) (by kernel_rfl) h11) (.int .i64 S) (by go_simp) (hK _ _ (VF.mk rfl) hRW (Ext.rf _))
       ·exact Zo (T:=22) rfl (.pointer (some ⟨g,3,none⟩)) (by kernel_rfl) (.slice (some ⟨vb,0,none⟩) j vc) (by go_simp) (hK _ _ (VF.mk rfl) hRW (Ext.rf _))
       ·have h16:=(hD 16 (Zm (by kernel_rfl))).k rfl
        exact ZU (T:=22) rfl (.slice (some ⟨vb,0,none⟩) j vc) (.int .i64 m) (Eq.trans (b:=u 16) (by kernel_rfl) h16) (by kernel_rfl) (.pointer (some ⟨vb,m,none⟩)) (by go_simp) (hK _ _ (VF.mk rfl) hRW (Ext.rf _))
       ·have h18:=(hD 18 (Zm (by kernel_rfl))).k rfl
        exact Zo (T:=3) rfl (.pointer (some ⟨vb,m,none⟩)) (Eq.trans (b:=u 18) (by kernel_rfl) h18) (.int .i64 y) (by go_simp) (hK _ _ (VF.mk rfl) hRW (Ext.rf _))
       ·have h12:=(hD 12 (Zm (by kernel_rfl))).k rfl
        have h19:=(hD 19 (Zm (by kernel_rfl))).k rfl;exact ZB rfl (.int .i64 (S+y)) (by simp only[Zj,h12,h19];unfold Zd;go_simp;exact IntWalk.i64_in _ (by omega)) (hK _ _ (VF.mk rfl) hRW (Ext.rf _))
      ·intro u w6 hRW hV
       have h3:=(hV (3,some 84) (by simp)).k rfl;have h8:=(hV (8,some 89) (by simp)).k rfl;have h10:=(hV (10,some 91) (by simp)).k rfl;have h11:=(hV (11,some 92) (by simp)).k rfl;have h12:=(hV (12,some 93) (by simp)).k rfl;have h16:=(hV (16,some 97) (by simp)).k rfl;have h18:=(hV (18,some 99) (by simp)).k rfl;have h19:=(hV (19,some 100) (by simp)).k rfl;have h20:=(hV (20,some 101) (by simp)).k rfl;simp only[Zj,h3,h8,h10,h11,h12,h16,h18,h19,h20];clear hV h3 h8 h10 h11 h12 h16 h18 h19 h20;have Z6:=Z.tr hRW;obtain⟨x2,ch2,fh2,_,_,hset⟩:=(OH.out.ext hRW).cell (k:=m) (by rw[Wa,lV.out];omega);have HN:Hid (Fill (w6.setCell ⟨hb,m,none⟩ (.int .i64 (S+y))) w3.heap.size g cap PA l.length pc XW XV (Yr XV m)):=by
        have h:=Ze0 (Bg.out.ext hRW) hgb (OW.out.ext hRW) (OV.out.ext hRW) (OH.out.ext hRW) dd1 dd2 dd3 (k:=m) (y:=S+y) (hset.out _);rw[hS.out,Zct ey.out] at h;rw[hS.out];exact h
       have ZN:=Hd (Z6.setNew (p:=⟨hb,m,none⟩) hbb (.int .i64 (S+y)));clear hset
       try simp only[lay]
       refine Za (i:=21) (op:=Op.indexAddr 22 (Operand.tmp 84) (Operand.tmp 85)) (t:=0) (d:=some 102) (v:=?_) rfl (by decide +kernel) (by decide +kernel) (by decide +kernel) (fun _ _ _ h=>h) ?_ ?_
       case refine_2=>(intro _;unfold Zd;go_simp;try with_reducible rfl)
       try simp only[lay]
       refine Zh 22 (by kernel_rfl) (Yo rfl (.pointer (some ⟨hb,m,none⟩)) (.int .i64 (S+y)) (by kernel_rfl) (by kernel_rfl) (by go_simp;rfl) ?_);refine wpAny_done (by kernel_rfl) ?_ _;clear ch2 fh2 hRW Z6;generalize w6.setCell ⟨hb,m,none⟩ (.int .i64 (S+y))=w8 at *;clear w6;go_simp;go_wp2_with (fail);go_roundw
       case rel=>exact⟨m,_,rfl,by omega,by omega,HN,ZN.out⟩
       case measure=>simp[intOf]
     ·obtain rfl:k=0:=by omega
      obtain rfl:z=-1:=by omega
      go_wp2_with (fail);go_ret2;obtain⟨WA,wc,VA,vc,HA,hc,Bg,hgb,OW,OV,OH,-,-,-⟩:=HG.out;have bw3:=X3.out.size;refine⟨g,rfl,⟨PA,pc,WA,wc,VA,vc,HA,hc,?_,Nat.le_trans bw3 hgb,⟨?_,bP'.out⟩,⟨?_,fun k hk=>Nat.le_trans bw3 (OW.lt k hk).1⟩,⟨?_,fun k hk=>Nat.le_trans bw3 (OV.lt k hk).1⟩,⟨?_,fun k hk=>Nat.le_trans bw3 (OH.lt k hk).1⟩⟩,X3.out.tr Z⟩
      ·rw[<-hWe.out,<-hVe.out,<-hl.out]
       exact Bg
      ·rw[<-hl.out]
       exact rP.out.ext Z
      ·rw[<-hWe.out]
       exact OW.read
      ·rw[<-hVe.out]
       exact OV.read
      ·rw[<-hVe.out]
       exact OH.read
structure KOk (cap:Int)(l:List Nat)(ws vs bs:List Int) : Prop where
 cap:0<=cap/\cap<=2147483647
 l64:l.length<=64
 lw:ws.length=l.length
 lv:vs.length=l.length
 lb:bs.length=l.length+1
 sw:Small31 ws
 sv:Small31 vs
theorem QX {base g:Nat}{cap:Int}{l:List Nat}{ws vs bs:List Int}(w:World)(H:KernB w base g cap l ws vs bs) :
  Calls Tryz.prog 251 #[.pointer (some ⟨g,0,none⟩)] w fun e w'=>e=.returned (.int .i64 l.length)/\Ext w w':=by
 obtain⟨PA,pc,WA,wc,VA,vc,HA,hc,hB,-⟩:=H;have c1:=hB.c1;replace hB:=Hd hB;go_enter Tryz.func251,Tryz.ntmps251;go_wp2;go_ret;exact⟨rfl,Ext.rf _⟩
def Qh : Option (Int×Int)->Value
 | some (r,o)=>.tuple #[.int .i64 r,.int .i64 o,.bool true]
 | none=>.tuple #[.int .i64 0,.int .i64 0,.bool false]
theorem QY {base g:Nat}{cap:Int}{l:List Nat}{ws vs bs:List Int}(P:Option Addr)(c:Nat)(p:List Int)(w:World)(H:KernB w base g cap l ws vs bs)(ok:KOk cap l ws vs bs)(hP:RdI w P p)(lp:p.length<=1000000000) :
  Calls Tryz.prog 253 #[.pointer (some ⟨g,0,none⟩),.slice P p.length c] w fun e w'=>e=.returned (Qh (stP cap 0 ws vs p))/\Ext w w':=by
 obtain⟨PA,pc,WA,wc,VA,vc,HA,hc,hB,-,-,⟨rW,-⟩,⟨rV,-⟩,-⟩:=H;obtain⟨okc,l64,lw,lv,lb,sw,sv⟩:=ok;have c0:=hB.c0;have c1:=hB.c1;have c2:=hB.c2;have c3:=hB.c3;have zg:=hB.lt;replace hB:=Hd hB;replace lw:=Hd lw;replace lv:=Hd lv;replace lb:=Hd lb
 by_cases hlen:l.length<p.length
 ·have HN:Hid (stP cap 0 ws vs p=none):=WK (by rw[lw.out];exact hlen)
  have hgt:decide (l.length<p.length)=true:=by simpa using hlen
  go_enter Tryz.func253,Tryz.ntmps253;go_wp2;go_ret3;exact⟨by rw[HN.out];rfl,Ext.rf _⟩
 ·have hgt:decide (l.length<p.length)=false:=by simpa using hlen
  go_enter Tryz.func253,Tryz.ntmps253;go_wp2_with (fail);go_loopw [4,5,27] (fun r o i wr=>∃ (k:Nat) (room out:Int),i=.int .i64 k/\r=.int .i64 room/\o=.int .i64 out/\k<=p.length/\0<=room/\room<=2147483647/\0<=out/\out<=2147483647*(k:Int)/\Hid (stP cap 0 ws vs p=stP room out (ws.drop k) (vs.drop k) (p.drop k))/\Ext w wr) (fun _ _ i _=>p.length-(intOf i).toNat)
  case atStart=>exact⟨0,cap,0,rfl,rfl,rfl,by omega,okc.1,okc.2,by omega,by omega,by exact rfl,Ext.rf _⟩
  case round =>
   obtain⟨k,room,out,rfl,rfl,rfl,hk,b1,b2,b3,b4,HS,Y⟩:=hrel
   by_cases hlt:k<p.length
   ·obtain⟨pb,po,x,rfl,_,cx,ex,dx⟩:=(hP.ext Y).at hlt
    have hkw:k<ws.length:=by rw[lw.out];omega
    have hkv:k<vs.length:=by rw[lv.out];omega
    obtain⟨wb,wo,u,rfl,_,cu,eu,du⟩:=(rW.ext Y).at hkw;obtain⟨vb,vo,v,rfl,_,cv,ev,dv⟩:=(rV.ext Y).at hkv;have bu:=sw.get eu.out;have bv:=sv.get ev.out;have k0:=Zg Y zg c0;have k2:=Zg Y zg c2;have k3:=Zg Y zg c3;have HT:Hid (stP cap 0 ws vs p=if x=1 then(if room-u<0 then none else stP (room-u) out (ws.drop (k+1)) (vs.drop (k+1)) (p.drop (k+1))) else if x=0 then(if room<0 then none else stP room (out+v) (ws.drop (k+1)) (vs.drop (k+1)) (p.drop (k+1))) else none):=by
     have h:=HS.out;rw[dx.out,du.out,dv.out] at h;exact h
    clear HS ex eu ev dx du dv sw sv
    by_cases x1:x=1
    ·subst x1
     by_cases hneg:room-u<0
     ·have HN:Hid (stP cap 0 ws vs p=none):=by
       have h:=HT.out;rw[if_pos rfl,if_pos hneg] at h;exact h
      go_wp2;go_ret3;exact⟨by rw[HN.out];rfl,Y⟩
     ·have HN:Hid (stP cap 0 ws vs p=stP (room-u) out (ws.drop (k+1)) (vs.drop (k+1)) (p.drop (k+1))):=by
       have h:=HT.out;rw[if_pos rfl,if_neg hneg] at h;exact h
      go_wp2;go_roundw
      case rel=>exact⟨k+1,room-u,out,by go_num,rfl,rfl,by omega,by omega,by omega,by omega,by omega,HN,Y⟩
      case measure=>simp[intOf];omega
    ·have x1':(x==1)=false:=by simpa using x1
     by_cases x0:x=0
     ·subst x0
      have HN:Hid (stP cap 0 ws vs p=stP room (out+v) (ws.drop (k+1)) (vs.drop (k+1)) (p.drop (k+1))):=by
       have h:=HT.out;rw[if_neg x1,if_pos rfl,if_neg (by omega)] at h;exact h
      clear x1;go_wp2;go_roundw
      case rel=>exact⟨k+1,room,out+v,by go_num,rfl,rfl,by omega,by omega,by omega,by omega,by omega,HN,Y⟩
      case measure=>simp[intOf];omega
     ·have x0':(x==0)=false:=by simpa using x0
      have HN:Hid (stP cap 0 ws vs p=none):=by
       have h:=HT.out;rw[if_neg x1,if_neg x0] at h;exact h
      clear x1 x0;go_wp2;go_ret3;exact⟨by rw[HN.out];rfl,Y⟩
   ·have HN:Hid (stP cap 0 ws vs p=some (room,out)):=by
     have h:=HS.out;rw[List.drop_of_length_le (l:=p) (by omega)] at h;rw[h]
     cases ws.drop k<;>cases vs.drop k<;>rfl
    clear HS sw sv;go_wp2;go_ret3;exact⟨by rw[HN.out];rfl,Y⟩
theorem Zcu (x y:Int)(w:World)(hx:0<=x)(hx':x<=4611686014132420609)(hy:1<=y)(hy':y<=2147483647) :
  Calls Tryz.prog 256 #[.int .u64 0,.int .u64 x,.int .u64 y] w fun e w'=>e=.returned (.tuple #[.int .u64 (x / y),.int .u64 (x%y)])/\Ext w w':=by
 have y0:(y==0)=false:=by rw[beq_eq_false_iff_ne];omega
 have y1:decide (y<=0)=false:=by simp;omega
 go_enter Tryz.func256,Tryz.ntmps256;go_wp2_with (go_quiet (fail));go_ret2;exact⟨rfl,by(repeat (first | assumption | exact Ext.rf _ | apply Ext.drew | apply Ext.drewN | apply Ext.alloc))⟩
theorem ZdD (a b c:Int)(w:World)(ha:0<=a/\a<=2147483647)(hb:0<=b/\b<=2147483647)(hc:1<=c/\c<=2147483647) :
  Calls Tryz.prog 255 #[.int .i64 a,.int .i64 b,.int .i64 c] w fun e w'=>e=.returned (.tuple #[.int .i64 (a*b / c),.bool true])/\Ext w w':=by
 obtain⟨ha,ha'⟩:=ha;obtain⟨hb,hb'⟩:=hb;obtain⟨hc,hc'⟩:=hc;have hm:=Qa ha ha' hb hb';have wa:IntKind.u64.wrap a=a:=wraps_u64 _ ha (by omega);have wb:IntKind.u64.wrap b=b:=wraps_u64 _ hb (by omega);have wc:IntKind.u64.wrap c=c:=wraps_u64 _ (by omega) (by omega);have M:=QT a b;have D:=Zcu (a*b) c;have hq:0<=a*b / c/\a*b / c<=4611686014132420609:=by
  refine⟨Int.ediv_nonneg hm.1 (by omega),?_⟩;have:=Int.ediv_le_self c hm.1;omega
 have na:decide (a<0)=false:=by simpa using ha
 have nb:decide (b<0)=false:=by simpa using hb
 have nc:decide (c<=0)=false:=by simp;omega
 generalize a*b=p at *;generalize p / c=q at *;generalize p%c=r at *;obtain⟨hm1,hm2⟩:=hm;obtain⟨hq1,hq2⟩:=hq;have wq:IntKind.i64.wrap q=q:=IntWalk.i64_in _ (by omega);have hcc:decide (c<=0)=false:=nc;have ng:¬(9223372036854775807<q):=by omega
 replace M:=Hd M;replace D:=Hd D;go_enter Tryz.func255,Tryz.ntmps255;go_wp2_with (fail);refine(M.out _ ha ha' hb hb').mono ?_;rintro e w1 ⟨rfl,x1⟩;go_wp2_with (fail);refine(D.out _ hm1 hm2 hc hc').mono ?_;rintro e w2 ⟨rfl,x2⟩;go_wp2;go_ret2;exact⟨rfl,Ext.tr x1 x2⟩
def InstInts (i:InstP) : Prop:=Ints i.weight/\Ints i.value/\∀ r∈i.cost,Ints r
theorem RInst.ints {w:World}{vs:List Value}{i:InstP}(h:RInst w vs i) : InstInts i:=by
 obtain⟨A,a,B,b,C,c,rfl,⟨_,h2,_⟩,⟨_,h4,_⟩,⟨h5,_⟩⟩:=h;refine⟨h2,h4,fun r hr=>?_⟩;obtain⟨k,hk,rfl⟩:=List.mem_iff_getElem.1 hr;obtain⟨_,_,_,row,_,_,_,_,he,_,_,hi,_⟩:=h5.ints hk;have h:=he.out;rw[List.getElem?_eq_getElem hk] at h;rw[Option.some.inj h];exact hi
theorem InstInts.copy {i:InstP}(h:InstInts i) : InstInts (XG i):=by
 refine⟨h.1.take _,h.2.1.take _,fun r hr=>?_⟩;simp only[XG,XE,List.mem_map] at hr;obtain⟨q,hq,rfl⟩:=hr;exact(h.2.2 q (List.mem_of_mem_take hq)).take _
theorem InstO.rinst {w:World}{base:Nat}{vs:List Value}{i:InstP}(h:InstO w base vs i)(hi:InstInts i) : RInst w vs i:=by
 obtain⟨A,a,B,b,C,c,us,rfl,h1,h2,h3,h4⟩:=h;refine⟨A,a,B,b,C,c,rfl,⟨h1.read,hi.1,h1.le.1,h1.le.2⟩,⟨h2.read,hi.2.1,h2.le.1,h2.le.2⟩,?_,h3.le.1,h3.le.2⟩;rcases h3.read with h0 | ⟨b',off,cur,hA,hb,hc⟩
 ·left
  have:=h4.1;rw[h0] at this;exact List.eq_nil_of_length_eq_zero this.symm
 ·refine .inr ⟨b',off,hA,(Array.getElem?_eq_some_iff.1 hb).1,fun k r hr=>?_⟩
  obtain⟨A',c',hu,ho⟩:=h4.2 k r hr;refine⟨[.slice A' r.length c'],⟨A',c',rfl,ho.read,hi.2.2 r (List.mem_of_getElem? hr),ho.le.1,ho.le.2⟩,rfl,fun j v hj=>?_⟩
  cases j with
  | zero =>
   simp at hj;subst hj;rw[cell_of_row w b' _ cur _ (0,0) hb]
   simpa using hc k _ hu
  | succ j=>simp at hj
theorem InstO.ext {w w':World}{base:Nat}{vs:List Value}{i:InstP}(h:InstO w base vs i)(x:Ext w w') : InstO w' base vs i:=by
 obtain⟨A,a,B,b,C,c,us,rfl,h1,h2,h3,h4⟩:=h;exact⟨A,a,B,b,C,c,us,rfl,h1.ext x,h2.ext x,h3.ext x,h4.ext x⟩
theorem InstO.modT {w w':World}{base base':Nat}{ts:List TypeId}{vs:List Value}{i:InstP}(h:InstO w base vs i)(k:ModT base' ts w w')(h1:3∉ts)(h2:22∉ts) : InstO w' base vs i:=by
 obtain⟨A,a,B,b,C,c,us,rfl,g1,g2,g3,g4⟩:=h;exact⟨A,a,B,b,C,c,us,rfl,g1.modT k h1,g2.modT k h1,g3.modT k h2,g4.modT k h1⟩
theorem Qi (i:InstP) : (XG i).weight.length<=70/\(XG i).value.length<=70/\(XG i).cost.length<=30:=by
 refine⟨List.length_take_le _ _,List.length_take_le _ _,?_⟩;simp[XG,XE];omega
theorem ZdE {w w2:World}{a0 a1 a2 a3 a4 a5 u0 u1 u2 u3 u4 u5:Value}{j:InstP}{base:Nat}
  (hB:Blk w2 w.heap.size 25 #[a0,a1,a2,a3,a4,a5]) (x:Ext w w2) (hO:InstO w2 base [u0,u1,u2,u3,u4,u5] j) :
  Ext w ((((((w2.setCell ⟨w.heap.size,0,none⟩ u0).setCell ⟨w.heap.size,1,none⟩ u1).setCell ⟨w.heap.size,2,none⟩ u2).setCell ⟨w.heap.size,3,none⟩ u3).setCell ⟨w.heap.size,4,none⟩ u4).setCell ⟨w.heap.size,5,none⟩ u5) /\
  Blk ((((((w2.setCell ⟨w.heap.size,0,none⟩ u0).setCell ⟨w.heap.size,1,none⟩ u1).setCell ⟨w.heap.size,2,none⟩ u2).setCell ⟨w.heap.size,3,none⟩ u3).setCell ⟨w.heap.size,4,none⟩ u4).setCell ⟨w.heap.size,5,none⟩ u5) w.heap.size 25 #[u0,u1,u2,u3,u4,u5] /\
  InstO ((((((w2.setCell ⟨w.heap.size,0,none⟩ u0).setCell ⟨w.heap.size,1,none⟩ u1).setCell ⟨w.heap.size,2,none⟩ u2).setCell ⟨w.heap.size,3,none⟩ u3).setCell ⟨w.heap.size,4,none⟩ u4).setCell ⟨w.heap.size,5,none⟩ u5) base [u0,u1,u2,u3,u4,u5] j:=by
 obtain⟨h1,h2⟩:=Zer hB (base:=w.heap.size) (Nat.le_refl _) u0 u1 u2 u3 u4 u5;exact⟨x.modT h2 (Nat.le_refl _),h1,hO.modT h2 (by decide) (by decide)⟩
theorem InstO.six {w:World}{base:Nat}{vs:List Value}{i:InstP}(h:InstO w base vs i) : ∃ A3 l3 c3 A4 l4 c4 A5 l5 c5,vs=[.int .i64 i.kind,.int .i64 i.n,.int .i64 i.cap,.slice A3 l3 c3,.slice A4 l4 c4,.slice A5 l5 c5]:=by
 obtain⟨A,a,B,b,C,c,us,rfl,_⟩:=h;exact⟨_,_,_,_,_,_,_,_,_,rfl⟩
def Ze1 (j:InstP)(w:World)(e:Ending)(w':World) : Prop:=∃ vs,e=.returned (.agg (List.toArray vs))/\InstO w' w.heap.size vs j/\Ext w w'
theorem Zet {i j:InstP}(hj:j=XG i)(vs:List Value)(w:World)(H:RInst w vs i) : Calls Tryz.prog 17 #[.agg (List.toArray vs)] w (Ze1 j w):=by subst hj;exact Zdr vs i w H
def Ze (l:List Nat) : List Int:=l.map fun n:Nat=>(n:Int)
theorem Zn (l:List Nat) : (Ze l).length=l.length:=by simp[Ze]
def Zr : List (List Int)->List Int->Int
 | row::rows,c::p=>row.getD c.toNat 0+Zr rows p
 | _,_=>0
theorem Qj {F:Nat->Int} : ∀ {rows:List (List Int)} {off:List Int} {q:List Nat},rows.length=q.length->off.length=q.length->(∀ (k c:Nat) (x:List Int) (o:Int),rows[k]?=some x->off[k]?=some o->q[k]?=some c->o+F c<=x.getD c 0)->Zi off+Zi (q.map F)<=Zr rows (Ze q)
 | [],off,q,h1,h2,_=>by
  have:q=[]:=List.eq_nil_of_length_eq_zero (by simpa using h1.symm);subst this;have:off=[]:=List.eq_nil_of_length_eq_zero (by simpa using h2);subst this;simp[Zi,Zr,Ze]
 | r::rows,[],q,h1,h2,_=>by
  exfalso
  simp at h1 h2;omega
 | r::rows,o::off,[],h1,_,_=>by simp at h1
 | r::rows,o::off,c::q,h1,h2,h=>by
  have h3:=h 0 c r o rfl rfl rfl;have ih:=Qj (F:=F) (rows:=rows) (off:=off) (q:=q) (by simpa using h1) (by simpa using h2) fun k c x o a b d=>h (k+1) c x o a b d
  simp only[Ze,List.map_cons,Zi,Zr] at ih ⊢;rw[Int.toNat_natCast];omega
def Zb (rows:List (List Int))(a b:Nat) : Int:=(rows.getD a []).getD b 0
structure RowsOk (rows:List (List Int)) : Prop where
 n1:1<=rows.length
 n2:rows.length<=24
 row:∀ row∈rows,row.length=rows.length
 num:∀ row∈rows,∀ x∈row,0<=x/\x<=2147483647
theorem RowsOk.get {rows:List (List Int)}(h:RowsOk rows){row:List Int}(hr:row∈rows){c:Nat}(hc:c<rows.length) : 0<=row.getD c 0/\row.getD c 0<=2147483647:=by
 have h1:c<row.length:=by rw[h.row row hr];exact hc
 have h2:row.getD c 0=row[c]:=by simp[List.getD,List.getElem?_eq_getElem h1]
 rw[h2];exact h.num row hr _ (List.getElem_mem _)
theorem YA : ∀ {rows:List (List Int)} {q:List Nat},rows.length=q.length->Zr rows (Ze q)=Zi ((List.range q.length).map fun k=>Zb rows k (q.getD k 0))
 | [],[],_=>rfl
 | [],_::_,h=>by simp at h
 | _::_,[],h=>by simp at h
 | r::rows,c::q,h=>by
  have ih:=YA (rows:=rows) (q:=q) (by simpa using h);have e:(List.range (c::q).length).map (fun k=>Zb (r::rows) k ((c::q).getD k 0))=Zb (r::rows) 0 c::(List.range q.length).map fun k=>Zb rows k (q.getD k 0):=by
   rw[List.length_cons,List.range_succ_eq_map,List.map_cons,List.map_map]
   rfl
  rw[e];simp only[Ze,List.map_cons,Zi,Zr] at ih ⊢;rw[Int.toNat_natCast,ih]
  rfl
theorem XI (a b:List Int) : Zi (a++b)=Zi a+Zi b:=by
 induction a with
 | nil=>simp[Zi]
 | cons x a ih=>simp only[List.cons_append,Zi,ih];omega
end Go.Proofs.YtmojhhlcocjoaaaGreatDoor
namespace Go.Proofs.YtmojhhlcocjoaaaGreatDoor
open Go
def ZK (a b:Nat) : Nat:=(BitVec.ofNat 64 a &&& ~~~ BitVec.ofNat 64 b).toNat
theorem Vv (a b:Nat) : ZK a b<18446744073709551616:=(BitVec.ofNat 64 a &&& ~~~ BitVec.ofNat 64 b).isLt
theorem WC (a b:Nat)(ha:a<18446744073709551616)(hb:b<18446744073709551616) : bits .andNot .u64 (a:Int) (b:Int)=((ZK a b:Nat):Int):=by
 have h1:BitVec.ofInt 64 (a:Int)=BitVec.ofNat 64 a:=BitVec.ofInt_natCast ..;have h2:BitVec.ofInt 64 (b:Int)=BitVec.ofNat 64 b:=BitVec.ofInt_natCast ..;show IntKind.u64.wrap ((BitVec.ofInt 64 (a:Int) &&& ~~~ BitVec.ofInt 64 (b:Int)).toNat:Int)=_;rw[h1,h2,IntKind.wrap_u64];have:=Vv a b;unfold ZK at this ⊢;omega
theorem WN {a b j:Nat}(ha:a<18446744073709551616) : (ZK a b).testBit j=(a.testBit j && !b.testBit j):=by
 unfold ZK;rw[BitVec.testBit_toNat,BitVec.getLsbD_and,BitVec.getLsbD_not,BitVec.getLsbD_ofNat,BitVec.getLsbD_ofNat]
 by_cases hj:j<64
 ·simp[hj]
 ·have:a.testBit j=false:=Nat.testBit_lt_two_pow (Nat.lt_of_lt_of_le ha (by
   have:2^64<=2^j:=Nat.pow_le_pow_right (by omega) (by omega);omega))
  simp[hj,this]
def Zc (m:Nat) : List Nat:=(List.range 64).filter fun j=>m.testBit j
theorem ZX {m j:Nat} : j∈Zc m↔j<64/\m.testBit j=true:=by simp[Zc]
theorem Zw (m:Nat) : (Zc m).Pairwise (· < ·):=List.Pairwise.filter _ List.pairwise_lt_range
theorem Vw : Zc 0=[]:=by simp[Zc]
theorem Y1 (m:Nat) : (Zc m).length<=64:=by
 have:=List.length_filter_le (fun j=>m.testBit j) (List.range 64)
 simpa [Zc] using this
theorem Qk {m:Nat}(h0:m≠0)(h:m<18446744073709551616) : (Zc m).head?=some (Lib.ctz 64 m):=by
 have hc:Lib.ctz 64 m=Lib.ctzFrom 64 m:=by unfold Lib.ctz;rw[if_neg h0]
 obtain⟨q,h1,h2⟩:=Lib.ctzFrom_spec 64 m (by omega) (by omega);rw[hc];generalize Lib.ctzFrom 64 m=k at *;have hbit:∀ j,m.testBit j=(decide (k<=j)&&(2*q+1).testBit (j-k)):=fun j=>by rw[h1,Nat.testBit_two_pow_mul]
 have e:List.range 64=List.range k++(k::(List.range (64-k-1)).map (· + (k+1))):=by
  have:List.range 64=List.range (k+((64-k-1)+1)):=by congr 1;omega
  rw[this,List.range_add,List.range_succ_eq_map];simp only[List.map_cons,List.map_map,Nat.add_zero]
  congr 2
  apply List.map_congr_left;intro a _;simp[Function.comp_def];omega
 have e1:(List.range k).filter (fun j=>m.testBit j)=[]:=by
  rw[List.filter_eq_nil_iff];intro j hj;have:=List.mem_range.1 hj;rw[hbit,decide_eq_false (by omega)];simp
 have e2:m.testBit k=true:=by
  rw[hbit,decide_eq_true (Nat.le_refl _),Nat.sub_self,Nat.testBit_zero];simp
 unfold Zc;rw[e,List.filter_append,e1,List.filter_cons,e2]
 rfl
theorem Za9 {m x:Nat}{pre rest:List Nat}(h:m<18446744073709551616)(hx:Zc m=pre++x::rest) : Zc (ZK m (2^(x+1)-1))=rest:=by
 have hs:=Zw m;rw[hx] at hs;have h1:=List.pairwise_append.1 hs;have h2:=List.pairwise_cons.1 h1.2.1;have e:Zc (ZK m (2^(x+1)-1))=(Zc m).filter fun j=>decide (x<j):=by
  unfold Zc;rw[List.filter_filter];refine List.filter_congr fun j _=>?_
  rw[WN h,Nat.testBit_two_pow_sub_one]
  by_cases hj:j<x+1
  ·have:¬x<j:=by omega
   simp[hj,this]
  ·have:x<j:=by omega
   simp[hj,this]
 rw[e,hx,List.filter_append,List.filter_cons,decide_eq_false (by omega),List.filter_eq_nil_iff.2 (fun j hj=>by
  have:=h1.2.2 j hj x (by simp);simp;omega),List.filter_eq_self.2 (fun j hj=>by
  have:=h2.1 j hj
  simpa using this)]
 rfl
def Zv (m i:Nat) : Nat:=ZK m (2^i)
theorem Zab {m i j:Nat}(h:m<18446744073709551616) : (Zv m i).testBit j=(m.testBit j&&decide (i≠j)):=by
 unfold Zv;rw[WN h,Nat.testBit_two_pow]
 by_cases hij:i=j<;>simp[hij]
theorem YR {m i:Nat}(h:m<18446744073709551616) : Zc (Zv m i)=(Zc m).filter fun j=>decide (i≠j):=by
 unfold Zc;rw[List.filter_filter];refine List.filter_congr fun j _=>?_
 rw[Zab h,Bool.and_comm]
theorem YS {n:Nat}(h:n<=64) : Zc (2^n-1)=List.range n:=by
 have e:List.range 64=List.range n++(List.range (64-n)).map (n + ·):=by
  rw[<-List.range_add]
  congr 1
  omega
 unfold Zc;rw[e,List.filter_append,List.filter_eq_self.2 (fun j hj=>by
  rw[Nat.testBit_two_pow_sub_one];simpa using hj),List.filter_eq_nil_iff.2 (fun j hj=>by
  obtain⟨a,_,rfl⟩:=List.mem_map.1 hj;rw[Nat.testBit_two_pow_sub_one];simp),List.append_nil]
def Ql : List Nat->Int
 | []=>-1
 | x::_=>(x:Int)
theorem ZbR (m i:Nat) : (m / 2^i)%2=if m.testBit i=true then 1 else 0:=by
 rw[Nat.testBit_eq_decide_div_mod_eq];have:m / 2^i%2<2:=Nat.mod_lt _ (by omega)
 by_cases h:m / 2^i%2=1
 ·simp[h]
 ·have h0:m / 2^i%2=0:=by omega
  simp[h0]
end Go.Proofs.YtmojhhlcocjoaaaGreatDoor
namespace Go.Proofs.YtmojhhlcocjoaaaGreatDoor
open Go.RowKit Go.ChangeShapes Go.WideShapes Go.ChangeAt Go.Deep
def setV (m:Nat) : Value:=.agg #[.int .u64 m,.int .u64 0]
def Tab (w:World) : Prop:=TabAt 0 Lib.deBruijn64tab w
theorem Tab.ext {w w':World}(h:Tab w)(x:Ext w w') : Tab w':=fun j hj=>by
 have h1:=h j hj;have h2:(⟨0,j,none⟩:Addr).block<w.heap.size:=World.block_lt_of_cell? w _ h1;rw[x.cell h2];exact h1
theorem Zeu (x k idx:Nat)(w:World)(hx0:((x:Int)==0)=false)
  (key:IntKind.u64.wrap (bits BinOp.and IntKind.u64 (x:Int) (IntKind.u64.wrap (-(x:Int)))*285870213051353865) / 288230376151711744=(idx:Int))
  (hi:idx<64) (hk:k<64) (hcell:w.cell? ⟨0,idx,none⟩=some (.int .u8 k)) :
  Calls Tryz.prog 170 #[.int .u64 x] w fun e w'=>e=.returned (.int .i64 k)/\Ext w w':=by
 go_enter Tryz.func170,Tryz.ntmps170;go_wp2_with (simp only[key]);go_ret;exact⟨rfl,Ext.rf _⟩
theorem Ze2 (x:Nat)(hx:x<18446744073709551616)(hx0:x≠0)(w:World)(hT:Tab w) :
  Calls Tryz.prog 170 #[.int .u64 x] w fun e w'=>e=.returned (.int .i64 (Lib.ctz 64 x))/\Ext w w':=by
 obtain⟨hlow,hk⟩:=Lib.lowest_bit 64 x hx0 hx;obtain⟨hi,htab⟩:=Lib.deBruijn64_at _ hk;have hcell:=hT _ hi;rw[htab] at hcell;exact Zeu x _ _ w (by simp;omega) (tz64_key x _ hx hx0 hlow) hi hk hcell
theorem Xw (i:Int)(w:World) : Calls Tryz.prog 169 #[.int .i64 i] w fun e w'=>e=.returned (.bool (decide (0<=i)&&decide (i<128)))/\Ext w w':=by
 by_cases h0:0<=i
 ·have hb:decide (0<=i)=true:=decide_eq_true h0
  go_enter Tryz.func169,Tryz.ntmps169;go_wp2;go_ret;exact⟨by simp[hb],Ext.rf _⟩
 ·have hb:decide (0<=i)=false:=decide_eq_false h0
  go_enter Tryz.func169,Tryz.ntmps169;go_wp2;go_ret;exact⟨by simp[hb],Ext.rf _⟩
theorem Zcv (a b:Nat)(ha:a<18446744073709551616)(hb:b<18446744073709551616)(w:World) : Calls Tryz.prog 171 #[setV a,setV b] w fun e w'=>e=.returned (setV (ZK a b))/\Ext w w':=by
 have k:=WC a b ha hb;have k0:bits .andNot .u64 0 0=0:=by decide +kernel
 clear ha hb;unfold setV;go_enter Tryz.func171,Tryz.ntmps171;go_wp2;refine bodyPost_ret (v:=.agg #[.int .u64 (ZK a b),.int .u64 0]) (by simp[results,Tryz.results171,go_sem]) rfl ⟨rfl,?_⟩
 repeat (first | exact Ext.rf _ | apply Ext.alloc | (refine Ext.setNew ?_ (by simp<;>omega) _))
theorem Zac (m n:Nat)(hm:m<18446744073709551616) : (bits BinOp.and IntKind.u64 ((m:Int) / 2^n) 1==1)=m.testBit n:=by
 have e:((m:Int) / 2^n)=((m / 2^n:Nat):Int):=by rw[Int.natCast_ediv,Int.natCast_pow];rfl
 have hlt:m / 2^n<18446744073709551616:=Nat.lt_of_le_of_lt (Nat.div_le_self _ _) hm;have h:=bits_and_u64_nat (m / 2^n) 1 hlt (by omega);rw[e,show ((1:Int))=((1:Nat):Int) from rfl,h,Nat.and_one_is_mod,ZbR];split<;>rename_i hb
 ·rw[hb];rfl
 ·simp at hb;rw[hb];rfl
theorem JB (m:Nat)(i:Int)(hm:m<18446744073709551616)(w:World) : Calls Tryz.prog 267 #[setV m,.int .i64 i] w fun e w'=>e=.returned (.bool (decide (0<=i/\i<64)&&m.testBit i.toNat))/\Ext w w':=by
 by_cases h0:0<=i/\i<64
 ·obtain⟨n,rfl⟩:∃ n:Nat,i=(n:Int):=⟨i.toNat,by omega⟩
  have hn:n<64:=by omega
  unfold setV;have B1:Blk (w.alloc (.cells #[.int .u64 m,.int .u64 0] 141)) w.heap.size 141 #[.int .u64 m,.int .u64 0]:=.new rfl;go_enter Tryz.func267,Tryz.ntmps267;go_wp2_with (fail);refine(Xw _ _).mono ?_;rintro e w1 ⟨rfl,x1⟩;have c0:w1.cell? ⟨w.heap.size,0,none⟩=some (.int .u64 m):=(B1.ext x1).cell 0;have X1:=Hd (Ext.tr (a:=w) (by(repeat (first | assumption | exact Ext.rf _ | apply Ext.drew | apply Ext.drewN | apply Ext.alloc))) x1);clear x1 B1;have e1:(decide (0<=(n:Int))&&decide ((n:Int)<128))=true:=by simp;omega
  rw[e1];have F:=Zac m n hm;have q1:(n:Int) / 64=0:=by omega
  have q2:(n:Int)%64=(n:Int):=by omega
  go_wp2_with (fail);go_ret;exact⟨QR (by rw[decide_eq_true (p:=0<=(n:Int)/\(n:Int)<64) (by omega)];simp),X1.out⟩
 ·unfold setV
  have eF:(decide (0<=i/\i<64)&&m.testBit i.toNat)=false:=by rw[decide_eq_false h0];rfl
  rw[eF];have B1:Blk (w.alloc (.cells #[.int .u64 m,.int .u64 0] 141)) w.heap.size 141 #[.int .u64 m,.int .u64 0]:=.new rfl
  by_cases h1:0<=i/\i<128
  ·obtain⟨n,rfl⟩:∃ n:Nat,i=(n:Int):=⟨i.toNat,by omega⟩
   have hn:64<=n:=by omega
   have hn2:n<128:=by omega
   go_enter Tryz.func267,Tryz.ntmps267;go_wp2_with (fail);refine(Xw _ _).mono ?_;rintro e w1 ⟨rfl,x1⟩;have c1:w1.cell? ⟨w.heap.size,1,none⟩=some (.int .u64 0):=(B1.ext x1).cell 1;have X1:=Hd (Ext.tr (a:=w) (by(repeat (first | assumption | exact Ext.rf _ | apply Ext.drew | apply Ext.drewN | apply Ext.alloc))) x1);clear x1 B1;have e1:(decide (0<=(n:Int))&&decide ((n:Int)<128))=true:=by simp;omega
   rw[e1];have q1:(n:Int) / 64=1:=by omega
   have F:bits BinOp.and IntKind.u64 0 1=0:=by decide +kernel
   clear h0 h1 eF;go_wp2_with (fail);go_ret;exact⟨rfl,X1.out⟩
  ·have e1:(decide (0<=i)&&decide (i<128))=false:=by
    by_cases h2:0<=i
    ·rw[decide_eq_false (p:=i<128) (by omega)];simp
    ·rw[decide_eq_false h2];rfl
   clear h0 h1 eF;go_enter Tryz.func267,Tryz.ntmps267;go_wp2_with (fail);refine(Xw _ _).mono ?_;rintro e w1 ⟨rfl,x1⟩;have X1:=Hd (Ext.tr (a:=w) (by(repeat (first | assumption | exact Ext.rf _ | apply Ext.drew | apply Ext.drewN | apply Ext.alloc))) x1);clear x1 B1;rw[e1];go_wp2_with (fail);go_ret;exact⟨rfl,X1.out⟩
theorem Zad (i:Nat)(hi:i<64) : IntKind.u64.wrap ((2:Int)^i)=((2^i:Nat):Int):=by
 have h1:2^i<2^64:=Nat.pow_lt_pow_right (by omega) hi;have e2:((2:Int)^i)=((2^i:Nat):Int):=by rw[Int.natCast_pow];rfl
 rw[IntKind.wrap_u64,e2];generalize 2^i=p at *;omega
theorem QZ (m:Nat)(hm:m<18446744073709551616)(w:World)(hT:Tab w) : Calls Tryz.prog 141 #[setV m] w fun e w'=>e=.returned (.int .i64 (Ql (Zc m)))/\Ext w w':=by
 unfold setV
 by_cases h0:m=0
 ·subst h0
  rw[Vw];clear hT hm;have i0:∀ W,(Instr.index 141 (.agg #[.int .u64 0,.int .u64 0]) (.int .i64 0)).run Tryz.prog W=.ok (.int .u64 0) W:=fun _=>by kernel_rfl
  have i1:∀ W,(Instr.index 141 (.agg #[.int .u64 0,.int .u64 0]) (.int .i64 1)).run Tryz.prog W=.ok (.int .u64 0) W:=fun _=>by kernel_rfl
  go_enter Tryz.func141,Tryz.ntmps141;go_wp2_with (fail);go_loopw [6] (fun v wr=>(v=.int .i64 0\/v=.int .i64 1\/v=.int .i64 2)/\Ext w wr) (fun v _=>2-(intOf v).toNat)
  case atStart=>exact⟨.inl rfl,by(repeat (first | assumption | exact Ext.rf _ | apply Ext.drew | apply Ext.drewN | apply Ext.alloc))⟩
  case round =>
   obtain⟨h3,Y⟩:=hrel;rcases h3 with rfl | rfl | rfl
   ·go_wp2_with (fail)
    go_roundw
    case rel=>exact⟨.inr (.inl rfl),Y⟩
    case measure=>simp[intOf]
   ·go_wp2_with (fail)
    go_roundw
    case rel=>exact⟨.inr (.inr rfl),Y⟩
    case measure=>simp[intOf]
   ·go_wp2_with (fail)
    go_ret;exact⟨rfl,Y⟩
 ·have hh:=Qk h0 hm
  have eh:Ql (Zc m)=(Lib.ctz 64 m:Int):=by
   cases hl:Zc m with
   | nil=>rw[hl] at hh;cases hh
   | cons a l=>rw[hl] at hh;simp at hh;rw[<-hh];rfl
  rw[eh];have TZ:=Hd (fun(W:World) (x:Ext w W)=>Ze2 m hm h0 W (hT.ext x));have hk:=(Lib.lowest_bit 64 m h0 hm).2;have hne:((m:Int) != 0)=true:=by simp;omega
  have i0:∀ W,(Instr.index 141 (.agg #[.int .u64 m,.int .u64 0]) (.int .i64 0)).run Tryz.prog W=.ok (.int .u64 m) W:=fun _=>by kernel_rfl
  have hwp:IntKind.i64.wrap (0+(Lib.ctz 64 m:Int))=(Lib.ctz 64 m:Int):=by rw[Int.zero_add];exact IntWalk.i64_in _ (by omega)
  generalize Lib.ctz 64 m=z at *;clear hh eh h0 hT;go_enter Tryz.func141,Tryz.ntmps141;go_wp2_with (fail);go_loopw [6] (fun v wr=>v=.int .i64 0/\Ext w wr) (fun _ _=>0)
  case atStart=>exact⟨rfl,by(repeat (first | assumption | exact Ext.rf _ | apply Ext.drew | apply Ext.drewN | apply Ext.alloc))⟩
  case round =>
   obtain⟨rfl,Y⟩:=hrel;go_wp2_with (fail);refine(TZ.out _ Y).mono ?_;rintro e w2 ⟨rfl,x2⟩;go_wp2_with (fail);go_ret;exact⟨rfl,Y.tr x2⟩
theorem Zfe (n:Nat)(h:n<64) : IntKind.u64.wrap (IntKind.u64.wrap (2^n)-1)=((2^n-1:Nat):Int):=by
 have h1:2^n<2^64:=Nat.pow_lt_pow_right (by omega) h;have h2:0<2^n:=Nat.pow_pos (by omega);have e:((2:Int)^n)=((2^n:Nat):Int):=by rw[Int.natCast_pow];rfl
 rw[IntKind.wrap_u64,IntKind.wrap_u64,e];omega
theorem VT (n:Nat)(hn:n<64)(w:World) : Calls Tryz.prog 134 #[.int .i64 n] w fun e w'=>e=.returned (setV (2^n-1))/\Ext w w':=by
 unfold setV;have FW:=Zfe n hn;have F0:n=0->2^n-1=0:=fun h=>by subst h;rfl
 generalize 2^n-1=fm at *;replace F0:=Hd F0;have B2:Blk ((w.alloc (.cells #[.int .u64 0,.int .u64 0] 141)).alloc (.cells #[.int .u64 0,.int .u64 0] 141)) (w.heap.size+1) 141 #[.int .u64 0,.int .u64 0]:=.new (by simp);have B1:Blk ((w.alloc (.cells #[.int .u64 0,.int .u64 0] 141)).alloc (.cells #[.int .u64 0,.int .u64 0] 141)) w.heap.size 141 #[.int .u64 0,.int .u64 0]:=.alloc (.new rfl) _;have X0:Ext w ((w.alloc (.cells #[.int .u64 0,.int .u64 0] 141)).alloc (.cells #[.int .u64 0,.int .u64 0] 141)):=((Ext.rf w).alloc _).alloc _;go_enter Tryz.func134,Tryz.ntmps134;go_wp2_with (fail);go_loopw [6] (fun v wr=>∃ k:Nat,v=.int .i64 k/\k<=2/\Hid (Ext w wr)/\Hid (Blk wr w.heap.size 141 #[.int .u64 0,.int .u64 0])/\Hid (Blk wr (w.heap.size+1) 141 #[.int .u64 (if k=0 then 0 else(fm:Int)),.int .u64 0])) (fun v _=>2-(intOf v).toNat)
 case atStart=>exact⟨0,rfl,by omega,X0,B1,B2⟩
 case round =>
  obtain⟨k,rfl,hk,Y,C1,C2⟩:=hrel;have h3:k=0\/k=1\/k=2:=by omega
  rcases h3 with rfl | rfl | rfl
  ·have c0:wr.cell? ⟨w.heap.size+1,0,none⟩=some (.int .u64 0):=C2.out.cell 0
   have f0:=C2.out.free 0
   by_cases hn0:n=0
   ·obtain rfl:fm=0:=F0.out hn0
    subst hn0;go_wp2_with (fail);go_roundw
    case rel=>exact⟨1,rfl,by omega,Y,C1,C2⟩
    case measure=>simp[intOf]
   ·have hn1:0<n:=by omega
    have C3:=Hd (C2.out.set 0 (.int .u64 (fm:Int)));have C4:=Hd (C1.out.far (p:=⟨w.heap.size+1,0,none⟩) (by simp) (.int .u64 (fm:Int)));have Y4:=Hd (Y.out.setNew (p:=⟨w.heap.size+1,0,none⟩) (by simp) (.int .u64 (fm:Int)));go_wp2_with (fail);go_roundw
    case rel=>exact⟨1,rfl,by omega,Y4,C4,C3⟩
    case measure=>simp[intOf]
  ·go_wp2_with (fail)
   go_roundw
   case rel=>exact⟨2,rfl,by omega,Y,C1,C2⟩
   case measure=>simp[intOf]
  ·have c0:wr.cell? ⟨w.heap.size+1,0,none⟩=some (.int .u64 (fm:Int)):=C2.out.cell 0
   have c1:=C2.out.c1;have r0:=C1.out.c0;have r1:=C1.out.c1;have f0:=C1.out.free 0;have f1:=C1.out.free 1;go_wp2_with (fail);refine bodyPost_ret (v:=.agg #[.int .u64 (fm:Int),.int .u64 0]) (by simp[results,Tryz.results134,go_sem, *]) rfl ⟨rfl,?_⟩;exact(Y.out.setNew (p:=⟨w.heap.size,0,none⟩) (by simp) _).setNew (p:=⟨w.heap.size,1,none⟩) (by simp) _
open Go.RowKit Go.ChangeShapes Go.WideShapes Go.ChangeAt Go.Deep Go.Shelf
attribute [local go_sem] Oper.semAt_some
theorem ZdF (m x:Nat)(hm:m<18446744073709551616)(hx:x<63)(w:World)(hT:Tab w) :
  Calls Tryz.prog 142 #[setV m,.int .i64 x] w fun e w'=>e=.returned (.int .i64 (Ql (Zc (ZK m (2^(x+1)-1)))))/\Ext w w':=by
 have FU:Hid (∀ W:World,Calls Tryz.prog 134 #[.int .i64 ((x:Int)+1)] W fun e w'=>e=.returned (setV (2^(x+1)-1))/\Ext W w'):=fun W=>by
  have h:=VT (x+1) (by omega) W;have e:((x+1:Nat):Int)=(x:Int)+1:=by omega
  rw[e] at h;exact h
 have hf:2^(x+1)-1<18446744073709551616:=by
  have:2^(x+1)<2^64:=Nat.pow_lt_pow_right (by omega) (by omega);omega
 have MI:=Hd (fun(W:World)=>Zcv m (2^(x+1)-1) hm hf W);have FI:=Hd (fun(W:World) (y:Ext w W)=>QZ (ZK m (2^(x+1)-1)) (Vv _ _) W (hT.ext y));clear hT hf hm;generalize Ql (Zc (ZK m (2^(x+1)-1)))=r at *;generalize ZK m (2^(x+1)-1)=z at *;generalize 2^(x+1)-1=f at *;unfold setV at *;have hq1:(if (x:Int) < -1 then(-1:Int) else(x:Int))=(x:Int):=if_neg (by omega);have hq2:IntKind.i64.wrap ((x:Int)+1)=(x:Int)+1:=IntWalk.i64_in _ (by omega);have B1:Blk (w.alloc (.cells #[.int .u64 m,.int .u64 0] 141)) w.heap.size 141 #[.int .u64 m,.int .u64 0]:=.new rfl;have X0:Ext w (w.alloc (.cells #[.int .u64 m,.int .u64 0] 141)):=(Ext.rf w).alloc _;go_enter Tryz.func142,Tryz.ntmps142;go_upto_region 3 with(fail);generalize w.alloc (.cells #[.int .u64 m,.int .u64 0] 141)=w1 at *;refine wp_region_any (by kernel_rfl) ?_
 change wpAny _ _ _ _ _ _ _ (World.drew _)
 refine Za (i:=1) (op:=Op.move (Operand.tmp 1)) (t:=3) (d:=some 8) (v:=?_) rfl (by decide +kernel) (by decide +kernel) (by decide +kernel) (fun _ _ _ h=>h) ?_ ?_
 case refine_2=>(intro _;unfold Zd;go_simp;try with_reducible rfl)
 try simp only[lay]
 refine Za (i:=2) (op:=Op.call { callee:=Callee.builtin Builtin.max,args:=#[Operand.tmp 8,Operand.const (Value.int IntKind.i64 (-1))],argTypes:=#[3,3] }) (t:=3) (d:=some 9) (v:=?_) rfl (by decide +kernel) (by decide +kernel) (by decide +kernel) (fun _ _ _ h=>h) ?_ ?_
 case refine_2=>(intro _;unfold Zd;go_simp;try with_reducible rfl)
 try simp only[lay]
 refine Za (i:=3) (op:=Op.binOp BinOp.add 3 (Operand.tmp 9) (Operand.const (Value.int IntKind.i64 1)) 3) (t:=3) (d:=some 10) (v:=?_) rfl (by decide +kernel) (by decide +kernel) (by decide +kernel) (fun _ _ _ h=>h) ?_ ?_
 case refine_2=>(intro _;unfold Zd;go_simp;try with_reducible rfl)
 try simp only[lay]
 refine ZM (n:=3) [(0,some 7),(4,some 11)] (Ext w1)
  (VF (fun | 0=>some (.agg #[.int .u64 m,.int .u64 0]) | 4=>some (.agg #[.int .u64 f,.int .u64 0]) | _=>none) (fun _ _ _=>True))
  Ext #[true,true,true,true,true,false,false,false] (by kernel_rfl) (VF.stab ?_) ?_ ?_ ((Ext.rf _).drew)
 ·intro j v W W' _ h _
  exact h
 ·intro pq hpm u W hRW hD K hK
  have c0:W.cell? ⟨w.heap.size,0,none⟩=some (.int .u64 m):=(B1.ext hRW).cell 0;have c1:W.cell? ⟨w.heap.size,1,none⟩=some (.int .u64 0):=(B1.ext hRW).cell 1;simp only[List.mem_cons,List.not_mem_nil,or_false] at hpm;rcases hpm with rfl | rfl
  ·exact Zo (T:=141) rfl (.pointer (some ⟨w.heap.size,0,none⟩)) (by kernel_rfl) (.agg #[.int .u64 m,.int .u64 0]) (by go_simp) (hK _ _ (VF.mk rfl) hRW (Ext.rf _))
  ·refine Z7 rfl #[.int .i64 ((x:Int)+1)] (by go_simp) (by kernel_rfl) _ (FU.out W) ?_
   rintro e w3 ⟨rfl,x3⟩;exact⟨_,rfl,hK _ _ (VF.mk rfl) (hRW.tr x3) x3⟩
 ·intro u W hRW hV
  have h0:=(hV (0,some 7) (by simp)).k rfl;have h4:=(hV (4,some 11) (by simp)).k rfl;simp only[Zj,h0,h4];have XW:=X0.tr hRW
  try simp only[lay]
  refine Zh 5 (by decide +kernel) (Z7 (f:=171) (xs:=#[Operand.tmp 7,Operand.tmp 11]) (ts:=#[141,141]) (t:=141) (d:=some 12) rfl #[.agg #[.int .u64 m,.int .u64 0],.agg #[.int .u64 f,.int .u64 0]] (by go_simp) (by kernel_rfl) _ (MI.out W) ?_);rintro e w3 ⟨rfl,x3⟩;refine⟨_,rfl,?_⟩
  try simp only[lay]
  refine Zh 6 (by decide +kernel) (Z7 (f:=141) (xs:=#[Operand.tmp 12]) (ts:=#[141]) (t:=3) (d:=some 13) rfl #[.agg #[.int .u64 z,.int .u64 0]] (by go_simp) (by kernel_rfl) _ (FI.out w3 (XW.tr x3)) ?_);rintro e w4 ⟨rfl,x4⟩;refine⟨_,rfl,?_⟩
  try simp only[lay]
  refine Za (i:=7) (op:=Op.assign (Operand.tmp 13)) (t:=3) (d:=some 4) (v:=?_) rfl (by decide +kernel) (by decide +kernel) (by decide +kernel) (fun _ _ _ h=>h) ?_ ?_
  case refine_2=>(intro _;unfold Zd;go_simp;try with_reducible rfl)
  try simp only[lay]
  refine wpAny_done (by kernel_rfl) ?_ _;have X4:=Hd ((XW.tr x3).tr x4);clear XW x3 x4 hRW hV h0 h4;go_simp;go_wp2_with (fail);go_ret;exact⟨rfl,X4.out⟩
theorem XJ (m:Nat)(w:World) : Calls Tryz.prog 88 #[setV m] w fun e w'=>e=.returned (.func (.func 140) #[] #[.pointer (some ⟨w.heap.size,0,none⟩)])/\w'=w.alloc (.cells #[.int .u64 m,.int .u64 0] 141):=by
 unfold setV;go_enter Tryz.func88,Tryz.ntmps88;go_wp2_with (fail);go_ret;exact⟨rfl,rfl⟩
abbrev In (m:Nat) : Type:={ x:Nat // x∈Zc m }
theorem In.lt {m:Nat}(x:In m) : x.1<64:=(ZX.1 x.2).1
def SetKp (n₀ Bn:Nat)(W W':World) : Prop:=Below n₀ W W'/\W'.heap[Bn]?=W.heap[Bn]?
theorem SetKp.tr {n₀ Bn:Nat}{A B C:World}(h:SetKp n₀ Bn A B)(k:SetKp n₀ Bn B C) : SetKp n₀ Bn A C:=⟨h.1.trans k.1,k.2.trans h.2⟩
theorem VU {W W':World}(x:Ext W W') : W.grownBy W' none:=⟨x.os,x.tape,x.output,x.size,fun k hk _=>x.block k hk⟩
theorem Qm (x:Nat)(l:List Nat) : Ql (x::l)=(x:Int):=rfl
theorem Zev (n:Nat)(m:Nat)(hm:m<18446744073709551616)(l Bn n₀:Nat)(J Jx:List (In m)->World->Prop)(W:World)(hJ:AbidesFrom W.heap.size J)
  (hY:∀ pre x W1,J pre W1->pre.length<(Zc m).length->YieldAt Fence.wide (n-1) Tryz.prog l #[.int .i64 ((x:In m).1:Nat)] W1 fun e W' =>
   (e=.returned (.bool true)/\J (pre++[x]) W'/\SetKp n₀ Bn W1 W')\/(e=.returned (.bool false)/\Jx (pre++[x]) W'))
  (hB:Blk W Bn 141 #[.int .u64 m,.int .u64 0]) (hT:Tab W) (hT0:∀ j,j<Lib.deBruijn64tab.length->0<n₀) (hn₀:n₀<=W.heap.size) (h0:J [] W) (h63:∀ x∈Zc m,x<63) :
  CallsIn Fence.wide n Tryz.prog 140 #[.func (.yield l) #[] #[],.pointer (some ⟨Bn,0,none⟩)] W fun e W'=>(∃ v,e=.returned v) /\
   ((∃ ys,ys=(Zc m).attach/\J ys W')\/(∃ pre,pre <+: (Zc m).attach/\Jx pre W')):=by
 have key:∀ (W1:World),Below n₀ W W1->Tab W1:=fun W1 hb j hj=>by
  rw[hb.cell (p:=⟨0,j,none⟩) (hT0 j hj)];exact hT j hj
 refine callsIn_of_wp Tryz.func140 rfl trivial ?_ rfl;simp only[Tryz.ntmps140,List.size_toArray,List.length_cons,List.length_nil,Nat.reduceAdd,Nat.reduceSub,Array.replicate_succ,Array.replicate_zero,List.push_toArray,List.append_toArray,List.nil_append,List.cons_append];have c0:=hB.c0;have c1:=hB.c1;have FI:=Hd (QZ m hm W hT);unfold setV at FI
 gi_wp2
 refine⟨trivial,fun h=>(by cases h),?_⟩;refine(callsIn_wide.2 FI.out).mono ?_;rintro e w1 ⟨rfl,x1⟩;have h1:J [] w1:=hJ [] W w1 none h0 (VU x1) (fun r h=>by cases h);have b1:=hB.ext x1;have k1:Below n₀ W w1:=x1.mono hn₀
 gi_wp2
 gi_loopw [3] (fun p wr=>∃ (pre rest:List (In m)),p=.int .i64 (Ql (rest.map (·.1)))/\Hid ((Zc m).attach=pre++rest)/\Hid (J pre wr)/\Hid (Blk wr Bn 141 #[.int .u64 m,.int .u64 0])/\Hid (Below n₀ W wr)/\Hid (W.heap.size<=wr.heap.size)) (fun p _=>((65-intOf p)%66).toNat)
 case atStart=>exact⟨[],(Zc m).attach,by rw[List.attach_map_subtype_val],rfl,h1,b1,k1,x1.size⟩
 case round =>
  obtain⟨pre,rest,rfl,hx,hJ1,hB1,hk,hz⟩:=hrel;have hval:Zc m=(pre++rest).map (·.1):=by rw[<-hx.out,List.attach_map_subtype_val]
  cases rest with
  | nil =>
   gi_wp2
   go_end0;exact⟨⟨_,rfl⟩,.inl ⟨pre,by rw[hx.out,List.append_nil],hJ1.out⟩⟩
  | cons x rest =>
   have hlen:pre.length<(Zc m).length:=by rw[hval];simp
   obtain⟨fn,tmps,assign,body,hy,hR⟩:=hY pre x wr hJ1.out hlen;have hx64:=h63 x.1 x.2;have hnx:Zc m=pre.map (·.1)++x.1::rest.map (·.1):=hval.trans (by simp);have NX:=fun(V:World) (hT':Tab V)=>ZdF m x.1 hm hx64 V hT'
   rw[Za9 hm hnx] at NX;have hpre:pre++[x] <+: (Zc m).attach:=⟨rest,by rw[hx.out];simp⟩;have hx2:Hid ((Zc m).attach=(pre++[x])++rest):=Hd (by rw[hx.out];simp);have hsort:=Zw m;rw[hnx] at hsort;have hlt:∀ y∈rest.map (·.1),x.1<y:=(List.pairwise_cons.1 (List.pairwise_append.1 hsort).2.1).1;obtain⟨nx,hnxt⟩:∃ nx,Hid (Ql (rest.map (·.1))=nx):=⟨_,rfl⟩;have hms:nx=-1\/((x.1:Int)<nx/\nx<=63):=by
    rw[<-hnxt.out]
    cases rest with
    | nil=>left;rfl
    | cons y l=>right;have h1:=hlt y.1 (by simp);have h2:=y.lt;simp only[List.map_cons,Qm];omega
   rw[hnxt.out] at NX;replace NX:=Hd NX;unfold setV at NX;simp only[List.map_cons,Qm];replace hpre:=Hd hpre;clear hval hnx hsort hlt hlen;have B1':=hB1.out
   gi_wp2
   refine⟨fun h=>(by cases h),?_⟩;refine hR.mono ?_;rintro e W3 (⟨rfl,hJ3,hk3⟩ | ⟨rfl,hJx3⟩)
   ·have b3:Blk W3 Bn 141 #[.int .u64 m,.int .u64 0]:=hk3.2.trans B1'
    have kb3:=hk.out.trans hk3.1;have c0':=b3.c0;have c1':=b3.c1;have NX3:=Hd (NX.out W3 (key W3 kb3))
    gi_wp2
    refine⟨trivial,fun h=>(by cases h),?_⟩;refine(callsIn_wide.2 NX3.out).mono ?_;rintro e w4 ⟨rfl,x4⟩;have z3:=hk3.1.size;have hJ4:=hJ (pre++[x]) W3 w4 none hJ3 (VU x4) (fun r h=>by cases h)
    gi_wp2
    go_roundw
    case rel=>exact⟨pre++[x],rest,by rw[hnxt.out],hx2,hJ4,b3.ext x4,kb3.trans (x4.mono (by have:=hz.out;omega)),by have:=hz.out;have:=x4.size;exact(by omega:W.heap.size<=w4.heap.size)⟩
    case measure =>
     simp only[intOf];have q1:=hms;have q2:=hx64;omega
   ·gi_wp2
    refine bodyPost_ret (results_none rfl _ _ _) rfl ?_;exact⟨⟨_,rfl⟩,.inr ⟨pre++[x],hpre.out,hJx3⟩⟩
theorem Vh {w:World}(h:Tab w) : 0<w.heap.size:=World.block_lt_of_cell? w _ (h 0 (by decide))
theorem YC (n:Nat)(m:Nat)(hm:m<18446744073709551616)(h63:∀ x∈Zc m,x<63)(Bn n₀:Nat)(w:World)(hB:Blk w Bn 141 #[.int .u64 m,.int .u64 0])(hT:Tab w)(hn₀:n₀<=w.heap.size)(hg:0<n₀) :
  SeqStopsK Fence.wide n Tryz.prog 140 #[.pointer (some ⟨Bn,0,none⟩)] (fun x:In m=>#[Value.int .i64 ((x.1:Nat):Int)]) (SetKp n₀ Bn) (fun ys=>ys=(Zc m).attach) (fun pre=>pre <+: (Zc m).attach) (Zc m).length w:=fun l J Jx W hW hJ _ hY h0 =>
 Zev n m hm l Bn n₀ J Jx W hJ hY (hB.ext hW) (hT.ext hW) (fun _ _=>hg) (Nat.le_trans hn₀ hW.size) h0 h63
theorem XL {n₀ Bn:Nat}{w:World}{cs:Array Value}(hn:n₀<=w.heap.size)(hB:Blk w Bn 141 cs)(W:World)(l:Nat)(o o':Obj)(hl:w.heap.size<=l)(h:W.heap[l]?=some o)(h1:o.isCells=false)(h2:o.isWalk=false) : SetKp n₀ Bn W (W.putObj l o') :=
 ⟨belowK_b hn W l o o' hl h h1 h2,World.putObj_heap_other (by have:=hB.lt;omega)⟩
end Go.Proofs.YtmojhhlcocjoaaaGreatDoor
namespace Go.Proofs.YtmojhhlcocjoaaaGreatDoor
open Go.RowKit Go.ChangeShapes Go.WideShapes Go.ChangeAt Go.Deep Go.Shelf
attribute [local go_sem] Oper.semAt_some
def inL {m:Nat}(pre:List (In m)) : List Nat:=pre.map (·.1)
theorem Y5 {m:Nat}(pre:List (In m))(x:In m) : inL (pre++[x])=inL pre++[x.1]:=by simp[inL]
theorem Yg (m:Nat) : inL (Zc m).attach=Zc m:=List.attach_map_subtype_val _
theorem Blk.not_row {W:World}{g n₀ k size:Nat}{t e:TypeId}{cs:Array Value}{v:Value}{xs:List Value}(h:Blk W g t cs)(hne:t≠e)(hrow:W.ownsRow n₀ e size v k xs) : v.ownBlock≠some g:=by
 rcases hrow.2 with⟨rfl,_⟩ | ⟨g',cap,cur,rfl,_,hg,_⟩
 ·simp[Value.ownBlock]
 ·intro e'
  obtain rfl:g'=g:=by simpa [Value.ownBlock] using e'
  unfold Blk at h;rw[h] at hg
  injection hg with hg
  injection hg with _ ht
  exact hne ht
theorem Zew (m:Nat)(hm:m<18446744073709551616)(h63:∀ x∈Zc m,x<63)(w:World)(hT:Tab w) :
  CallsIn Fence.wide 3 Tryz.prog 264 #[setV m] w fun e W'=>∃ v,e=.returned v/\W'.ownsRow w.heap.size 3 1 v (Zc m).length ((Ze (Zc m)).map (Value.int .i64))/\Ext w W':=by
 obtain⟨i0,hi,hz0,hz1,hz2⟩:=info_parts Yp;have hg:=Vh hT;have hml:=Y1 m;unfold setV;refine callsIn_of_wp_marks Tryz.func264 rfl trivial ?_ rfl;simp only[Tryz.ntmps264,List.size_toArray,List.length_cons,List.length_nil,Nat.reduceAdd,Nat.reduceSub,Array.replicate_succ,Array.replicate_zero,List.push_toArray,List.append_toArray,List.nil_append,List.cons_append]
 gi_wp2
 refine⟨trivial,?_⟩;refine(callsIn_wide.2 (XJ m _)).mono ?_;rintro e w' ⟨rfl,rfl⟩
 gi_wp2
 have bS:=Boxed.new w 141 (.int .u64 m);have bO0:=Boxed.new (w.alloc (.cells #[.int .u64 m,.int .u64 0] 141)) 22 (.slice none 0 0);rw[World.size_alloc] at bO0;have bB:Blk (((w.alloc (.cells #[.int .u64 m,.int .u64 0] 141)).alloc (.cells #[.slice none 0 0] 22)).alloc (.cells #[.int .u64 m,.int .u64 0] 141)) (w.heap.size+1+1) 141 #[.int .u64 m,.int .u64 0]:=.new (by simp);have hB0:Ext w (((w.alloc (.cells #[.int .u64 m,.int .u64 0] 141)).alloc (.cells #[.slice none 0 0] 22)).alloc (.cells #[.int .u64 m,.int .u64 0] 141)):=(((Ext.rf w).alloc _).alloc _).alloc _;clear bS;refine wpIn_rangeFunc_ownG rfl (by omega) (gf:=140) (lb:=#[.pointer (some ⟨w.heap.size+1+1,0,none⟩)]) rfl trivial (enters_of Tryz.func140 (by kernel_rfl) rfl)
  (YC 2 m hm h63 (w.heap.size+1+1) w.heap.size _ bB (hT.ext hB0) hB0.size hg) SetKp.tr (XL (cs:=#[.int .u64 m,.int .u64 0]) hB0.size bB) (Below.refl _ _) (fun _=>rfl)
  (fun pre W=>(∃ v,Boxed W (w.heap.size+1) 22 v/\W.ownsRow w.heap.size 3 1 v (inL pre).length ((Ze (inL pre)).map (Value.int .i64))/\True)/\(Below w.heap.size w W/\Blk W (w.heap.size+1+1) 141 #[.int .u64 m,.int .u64 0]))
  (fun _ _ _=>False)
  ?own
  (fun _ _ _ _ _ hs _ _=>hs)
  ⟨⟨_,bO0.alloc _,World.ownsRow_nil _ _ _ _,trivial⟩,hB0,bB⟩
  (fun x=>{ tmps:=#[.agg #[.int .u64 m,.int .u64 0],.pointer (some ⟨w.heap.size,0,none⟩),.slice none 0 0,.pointer (some ⟨w.heap.size+1,0,none⟩),.int .i64 ((x.1:Nat):Int),.agg #[.int .u64 m,.int .u64 0],.func (.func 140) #[] #[.pointer (some ⟨w.heap.size+1+1,0,none⟩)],.int .i64 ((x.1:Nat):Int),undef,undef,undef,undef,undef],defers:=[] }) ?assign ?body ?done ?stop
 case own=>exact OwnFrom.and (Own.from (holdsRow_own w.heap.size (w.heap.size+1) 22 3 1 (fun pre:List (In m)=>(inL pre).length) (fun pre=>(Ze (inL pre)).map (Value.int .i64)) (fun _ _=>True)) _) (OwnFrom.and (ownFrom_below (Nat.le_refl _) (by simp;omega)) (fun s A B row hs hg hr=>(hg.block (w.heap.size+1+1) hs.lt (fun e=>by obtain⟨h1,_⟩:=hr _ e.symm;simp at h1;omega)).trans hs))
 case assign =>
  intro l x W K hK
  gi_wp2
  exact hK
 case body =>
  rintro l pre x W ⟨⟨v,hv,hrow,_⟩,hB,hBn⟩ hlt;have hc:=hv.cell;have hpl:(inL pre).length<64:=by
   have h:(inL pre).length=pre.length:=by simp[inL]
   omega
  gi_wp2_with (gi_at_builtin;refine wpListIn_append_own _ rfl _ _ 22 rfl w.heap.size 3 i0 (.int .i64 0) 1 8 Tryz.underlying22 hi hz0 hz1 hz2 rfl (by decide) _ _ _ rfl (hrow.alloc _) ⟨W.heap.size,0,none⟩ 1 1 [.int .i64 ((x.1:Nat):Int)] rfl rfl (cell_one_new _ _ _) (by simp[Value.oneCell']) (by simp only[maxLen];omega) (by omega) (by have:=hB.size;simp;omega) ?_;intro v' w1 hown' hgrow _;obtain⟨g',cap',rfl⟩:=ownsRow_succ hown';obtain⟨hv1,hv2,hr2,hk2,hb2⟩:=hv.appended (by decide) hrow hB.size (Nat.le_succ _) hown' hgrow;have hc1:=hv1.cell;have hf1:=hv1.frozen)
  have hBn2:Blk (w1.setCell ⟨w.heap.size+1,0,none⟩ (.slice (some ⟨g',0,none⟩) ((inL pre).length+1) cap')) (w.heap.size+1+1) 141 #[.int .u64 m,.int .u64 0] :=
   Blk.far ((hBn.alloc _).grown hgrow (hBn.not_row (by decide) hrow)) (by simp) _
  exact⟨hk2.from _,⟨hb2,hBn2.trans hBn.symm⟩,⟨_,hv2,by rw[Y5];simpa [Ze] using hr2,trivial⟩,hB.trans hb2,hBn2⟩
 case done =>
  rintro D ys W hD rfl ⟨⟨v,hv,hrow,_⟩,hB,_⟩ hK;have hc:=hv.cell;rw[Yg] at hrow
  gi_wp2
  refine⟨by simp,.inl ⟨_,_,rfl,run_takeDeferred hK,?_⟩⟩;exact⟨_,results_tmp rfl _ _ _,v,rfl,ownsRow_putObj hrow _ hK rfl,hB.trans (belowK_b (w:=w) (Nat.le_refl _) W D _ _ (by simp at hD;omega) hK rfl rfl)⟩
 case stop =>
  rintro D c pre W _ _ h _;exact h.elim
theorem Qn (m:Nat)(hm:m<18446744073709551616)(h63:∀ x∈Zc m,x<63)(w:World)(hT:Tab w) :
  Calls Tryz.prog 264 #[setV m] w fun e w'=>∃ A c,e=.returned (.slice A (Ze (Zc m)).length c)/\OwI w' w.heap.size A c (Ze (Zc m))/\Ext w w':=by
 refine(callsIn_wide.1 (Zew m hm h63 w hT)).mono ?_;rintro e w' ⟨v,rfl,ho,hx⟩;have hv:∃ A c,v=.slice A (Ze (Zc m)).length c:=by
  rcases ho.2 with⟨rfl,h0⟩ | ⟨g,cap,cur,rfl,_⟩
  ·exact⟨none,0,by rw[Zn,h0]⟩
  ·exact⟨some ⟨g,0,none⟩,cap,by rw[Zn]⟩
 obtain⟨A,c,rfl⟩:=hv;refine⟨A,c,rfl,?_,hx⟩;have h:=ho;rw[<-Zn (Zc m)] at h;exact h
end Go.Proofs.YtmojhhlcocjoaaaGreatDoor
namespace Go.Proofs.YtmojhhlcocjoaaaGreatDoor
structure SquareOk (i:InstP) : Prop where
 n1:1<=i.n
 n2:i.n<=24
 len:(i.cost.length:Int)=i.n
 row:∀ r∈i.cost,(r.length:Int)=i.n
 num:∀ r∈i.cost,∀ x∈r,0<=x/\x<=2147483647
 w:i.weight=[]
 v:i.value=[]
theorem Zcw {n:Int}(h:Xs n=0) : 0<=n/\n<=2147483647:=by
 unfold Xs at h;split at h
 ·cases h
 ·split at h
  ·cases h
  ·omega
theorem Q0 : ∀ {l:List Int} {k:Int} {r c:Nat},Wm k r c l=0->∀ x∈l,0<=x/\x<=2147483647
 | [],_,_,_,_,x,hx=>by cases hx
 | n::l,k,r,c,h,x,hx=>by
  unfold Wm at h;split at h
  ·rename_i hn
   split at h
   ·cases h
   ·rcases List.mem_cons.1 hx with rfl | hx
    ·exact Zcw hn
    ·exact Q0 h x hx
  ·rename_i hn
   exact absurd h hn
theorem Qo : ∀ {l:List (List Int)} {k:Int} {r:Nat},YF k r l=0->∀ q∈l,∀ x∈q,0<=x/\x<=2147483647
 | [],_,_,_,q,hq=>by cases hq
 | row::l,k,r,h,q,hq=>by
  unfold YF at h;split at h
  ·rename_i hr
   rcases List.mem_cons.1 hq with rfl | hq
   ·exact Q0 hr
   ·exact Qo h q hq
  ·rename_i hr
   exact absurd h hr
theorem Zt {i:InstP}(h:Zl i=0)(hk:i.kind≠1) : SquareOk i:=by
 unfold Zl at h
 by_cases hs:Xt i.kind i.n=0
 ·rw[if_pos hs] at h
  by_cases hsh:WG i=true
  ·rw[if_pos hsh,if_neg hk] at h
   unfold WG at hsh;rw[if_neg hk] at hsh;simp only[Bool.and_eq_true,beq_iff_eq,decide_eq_true_eq,Bool.not_eq_true',List.any_eq_false,bne_iff_ne,ne_eq,Decidable.not_not] at hsh;obtain⟨⟨⟨h1,h2⟩,h3⟩,h4⟩:=hsh;unfold Xt at hs;rw[if_neg hk] at hs;have hn:1<=i.n/\i.n<=24:=by
    split at hs
    ·split at hs
     ·cases hs
     ·split at hs
      ·cases hs
      ·omega
    ·split at hs
     ·split at hs
      ·cases hs
      ·split at hs
       ·cases hs
       ·omega
     ·cases hs
   exact⟨hn.1,hn.2,h1,h4,Qo h,List.eq_nil_of_length_eq_zero (by omega),List.eq_nil_of_length_eq_zero (by omega)⟩
  ·rw[if_neg hsh] at h
   cases h
 ·rw[if_neg hs] at h
  exact absurd h hs
def ZS (m:Nat) : List Int->Option Nat
 | []=>some m
 | c::p=>if 0<=c/\c<64/\m.testBit c.toNat=true then ZS (Zv m c.toNat) p else none
def ZO (n:Nat)(p:List Int) : Option Nat:=if n<p.length then none else ZS (2^n-1) p
theorem UW (m i:Nat) : Zv m i<18446744073709551616:=Vv _ _
def SubN (n m:Nat) : Prop:=m<18446744073709551616/\∀ x∈Zc m,x<n
theorem Yk {n:Nat}(h:n<=24) : SubN n (2^n-1):=by
 refine⟨?_,fun x hx=>?_⟩
 ·have:2^n<=2^24:=Nat.pow_le_pow_right (by omega) h
  omega
 ·rw[YS (by omega)] at hx
  exact List.mem_range.1 hx
theorem SubN.clr {n m:Nat}(h:SubN n m)(i:Nat) : SubN n (Zv m i):=by
 refine⟨UW _ _,fun x hx=>h.2 x ?_⟩;rw[YR h.1] at hx;exact(List.mem_filter.1 hx).1
theorem Un {n:Nat} : ∀ {p:List Int} {m q:Nat},SubN n m->ZS m p=some q->SubN n q
 | [],m,q,h,e=>by
  simp only[ZS,Option.some.injEq] at e;subst e;exact h
 | c::p,m,q,h,e=>by
  unfold ZS at e;split at e
  ·exact Un (h.clr _) e
  ·cases e
theorem ZZ {i:InstP}(h:SquareOk i) : RowsOk i.cost:=by
 have h1:=h.n1;have h2:=h.n2;have h3:=h.len;refine⟨by omega,by omega,fun r hr=>?_,h.num⟩;have:=h.row r hr;omega
end Go.Proofs.YtmojhhlcocjoaaaGreatDoor
