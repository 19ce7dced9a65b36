/- packed and squeezed by programs (see wip/) -/
import Derived.Test.YtmojhhlcocjoaaaGreatDoorCheckBentP1
import Derived.Lib.Hide
import Derived.Laws.Bits64b
import Derived.Lib.TrailingZeros
import Derived.Deep.DeepCutAuto
import Derived.Shelf.Spec.TrailingZeros
import Derived.RangeFuncNested
import Derived.RangeFuncBound
import Derived.RangeFuncCalls
import Derived.RangeFuncLeaves
import Derived.RangeFuncBox
import Derived.Maps.AppendAt
import Derived.Shelf.Abstract
import Derived.Shelf.RegionOpen
import Derived.OwnWalkIn
import Derived.TacticsInMore
import Derived.LoopNIn
import Derived.LoopIn
import Derived.Sort.BigQuietIn
import Derived.Deep.QuietTactic
import Derived.BigQuiet
set_option maxRecDepth 100000
set_option maxHeartbeats 16000000
set_option linter.unusedVariables false
set_option linter.unusedSimpArgs false
namespace Go.Proofs.YtmojhhlcocjoaaaGreatDoor
def UM (lt:Nat->Nat->Bool) : Nat->List Nat->List Nat
 | 0,p=>p
 | f+1,p=>if p.length<2 then p else List.merge (UM lt f (p.take (p.length / 2))) (UM lt f (p.drop (p.length / 2))) (fun x y => !lt y x)
theorem YU (lt:Nat->Nat->Bool) : ∀ (f:Nat) (p:List Nat),(UM lt f p).Perm p
 | 0,p=>List.Perm.refl p
 | f+1,p=>by
  unfold UM;split
  ·exact List.Perm.refl p
  ·refine(List.merge_perm_append _).trans ?_
   have h:=(YU lt f (p.take (p.length / 2))).append (YU lt f (p.drop (p.length / 2)))
   rwa [List.take_append_drop] at h
def strictly (lt:Nat->Nat->Bool)(a b:Nat) : Prop:=lt a b=true\/(lt b a=false/\a<b)
structure Weak (lt:Nat->Nat->Bool) : Prop where
 asym:∀ a b,lt a b=true->lt b a=false
 neg:∀ a b c,lt a c=true->lt a b=true\/lt b c=true
theorem Weak.trans {lt:Nat->Nat->Bool}(h:Weak lt){a b c:Nat}(h1:strictly lt a b)(h2:strictly lt b c) : strictly lt a c:=by
 rcases h1 with h1 | ⟨h1,l1⟩<;>rcases h2 with h2 | ⟨h2,l2⟩
 ·rcases h.neg a c b h1 with h3 | h3
  ·exact .inl h3
  ·rw[h.asym b c h2] at h3;cases h3
 ·rcases h.neg a c b h1 with h3 | h3
  ·exact .inl h3
  ·rw[h2] at h3;cases h3
 ·rcases h.neg b a c h2 with h3 | h3
  ·rw[h1] at h3;cases h3
  ·exact .inl h3
 ·refine .inr ⟨?_,by omega⟩
  cases h3:lt c a with
  | false=>rfl
  | true =>
   rcases h.neg c b a h3 with h4 | h4
   ·rw[h2] at h4;cases h4
   ·rw[h1] at h4;cases h4
theorem Weak.irrefl {lt:Nat->Nat->Bool}(h:Weak lt)(a:Nat) : ¬strictly lt a a:=by
 rintro (h1 | ⟨_,h1⟩)
 ·have:=h.asym a a h1;rw[h1] at this;cases this
 ·omega
theorem Weak.asymm {lt:Nat->Nat->Bool}(h:Weak lt){a b:Nat}(h1:strictly lt a b) : ¬strictly lt b a:=fun h2=>h.irrefl a (h.trans h1 h2)
theorem Ug {lt:Nat->Nat->Bool}(h:Weak lt) : ∀ (n:Nat) (l r:List Nat),l.length+r.length<=n->l.Pairwise (strictly lt)->r.Pairwise (strictly lt)->(∀ a∈l,∀ b∈r,a<b)->(List.merge l r (fun x y => !lt y x)).Pairwise (strictly lt)
 | n,[],r,_,_,hr,_=>by rw[List.nil_merge];exact hr
 | n,a::l,[],_,hl,_,_=>by rw[List.merge_right];exact hl
 | 0,a::l,b::r,hn,_,_,_=>by simp at hn
 | n+1,a::l,b::r,hn,hl,hr,hlt=>by
  rw[List.cons_merge_cons];have hl':=List.pairwise_cons.1 hl;have hr':=List.pairwise_cons.1 hr;split
  ·rename_i hab
   have hab':lt b a=false:=by simpa using hab
   have R:strictly lt a b:=.inr ⟨hab',hlt a (by simp) b (by simp)⟩;refine List.pairwise_cons.2 ⟨fun x hx=>?_,Ug h n l (b::r) (by simp at hn ⊢;omega) hl'.2 hr (fun x hx y hy=>hlt x (by simp[hx]) y hy)⟩;rcases List.mem_merge.1 hx with hx | hx
   ·exact hl'.1 x hx
   ·rcases List.mem_cons.1 hx with rfl | hx
    ·exact R
    ·exact h.trans R (hr'.1 x hx)
  ·rename_i hab
   have hab':lt b a=true:=by simpa using hab
   have R:strictly lt b a:=.inl hab';refine List.pairwise_cons.2 ⟨fun x hx=>?_,Ug h n (a::l) r (by simp at hn ⊢;omega) hl hr'.2 (fun x hx y hy=>hlt x hx y (by simp[hy]))⟩;rcases List.mem_merge.1 hx with hx | hx
   ·rcases List.mem_cons.1 hx with rfl | hx
    ·exact R
    ·exact h.trans R (hl'.1 x hx)
   ·exact hr'.1 x hx
theorem WK {lt:Nat->Nat->Bool}(h:Weak lt) : ∀ (f:Nat) (p:List Nat),p.length<=f+1->p.Pairwise (· < ·)->(UM lt f p).Pairwise (strictly lt)
 | 0,p,hf,_=>by
  match p,hf with
  | [],_=>exact List.Pairwise.nil
  | [a],_=>exact List.pairwise_singleton _ _
 | f+1,p,hf,hp=>by
  unfold UM;split
  ·rename_i h2
   match p,h2 with
   | [],_=>exact List.Pairwise.nil
   | [a],_=>exact List.pairwise_singleton _ _
  ·rename_i h2
   refine Ug h _ _ _ (Nat.le_refl _) (WK h f _ (by simp;omega) (hp.sublist (List.take_sublist _ _))) (WK h f _ (by simp;omega) (hp.sublist (List.drop_sublist _ _))) ?_;intro a ha b hb;rw[(YU lt f _).mem_iff] at ha hb;have:=List.pairwise_append.1 (by rw[List.take_append_drop (p.length / 2) p];exact hp);exact this.2.2 a ha b hb
def Z7 (v w:List Int)(a b:Nat) : Bool :=
 if w.getD b 0=0 then false else if w.getD a 0=0 then true else decide (v.getD b 0*w.getD a 0<v.getD a 0*w.getD b 0)
theorem VI {w:List Int}(hw:∀ x∈w,0<=x)(a:Nat) : 0<=w.getD a 0:=by
 rw[List.getD_eq_getElem?_getD]
 cases h:w[a]? with
 | none=>simp
 | some x=>exact hw x (List.mem_of_getElem? h)
theorem WP {v w:List Int}(hw:∀ x∈w,0<=x) : Weak (Z7 v w):=by
 have nn:=VI hw
 constructor
 ·intro a b hab
  unfold Z7 at hab ⊢;have na:=nn a;have nb:=nn b
  by_cases b0:w.getD b 0=0
  ·rw[if_pos b0] at hab;cases hab
  ·rw[if_neg b0] at hab
   by_cases a0:w.getD a 0=0
   ·rw[if_pos a0]
   ·rw[if_neg a0] at hab
    rw[if_neg a0,if_neg b0];have:=of_decide_eq_true hab;exact decide_eq_false (by omega)
 ·intro a b c hac
  unfold Z7 at hac ⊢;have na:=nn a;have nb:=nn b;have nc:=nn c
  by_cases c0:w.getD c 0=0
  ·rw[if_pos c0] at hac;cases hac
  ·rw[if_neg c0] at hac
   rw[if_neg c0]
   by_cases b0:w.getD b 0=0
   ·right;rw[if_pos b0]
   ·rw[if_neg b0,if_neg b0]
    by_cases a0:w.getD a 0=0
    ·left;rw[if_pos a0]
    ·rw[if_neg a0] at hac ⊢
     have h1:=of_decide_eq_true hac;generalize v.getD a 0=va at *;generalize v.getD b 0=vb at *;generalize v.getD c 0=vc at *;generalize w.getD a 0=wa at *;generalize w.getD b 0=wb at *;generalize w.getD c 0=wc at *
     by_cases h2:vb*wa<va*wb
     ·left;exact decide_eq_true h2
     ·right
      refine decide_eq_true ?_;have h3:va*wb<=vb*wa:=by omega
      have h4:wb*(vc*wa)<wb*(va*wc):=Int.mul_lt_mul_of_pos_left h1 (by omega);have h5:wc*(va*wb)<=wc*(vb*wa):=Int.mul_le_mul_of_nonneg_left h3 nc;have e1:wb*(vc*wa)=wa*(vc*wb):=by rw[Int.mul_comm vc wa,<-Int.mul_assoc,Int.mul_comm wb wa,Int.mul_assoc,Int.mul_comm wb vc]
      have e2:wb*(va*wc)=wc*(va*wb):=by rw[Int.mul_comm va wc,<-Int.mul_assoc,Int.mul_comm wb wc,Int.mul_assoc,Int.mul_comm wb va]
      have e3:wc*(vb*wa)=wa*(vb*wc):=by rw[Int.mul_comm vb wa,<-Int.mul_assoc,Int.mul_comm wc wa,Int.mul_assoc,Int.mul_comm wc vb]
      rw[e1,e2] at h4;rw[e3] at h5;exact Int.lt_of_mul_lt_mul_left (Int.lt_of_lt_of_le h4 h5) na
def XC (v w:List Int) : List Nat:=UM (Z7 v w) v.length (List.range v.length)
theorem WQ (v w:List Int) : (XC v w).Perm (List.range v.length):=YU _ _ _
theorem Wx (v w:List Int) : (XC v w).length=v.length:=by rw[(WQ v w).length_eq,List.length_range]
theorem VO {v w:List Int}(hw:∀ x∈w,0<=x) : (XC v w).Pairwise (strictly (Z7 v w)) :=
 WK (WP hw) _ _ (by simp) List.pairwise_lt_range
theorem Qw {v w:List Int}{a:Nat} : a∈XC v w↔a<v.length:=by rw[(WQ v w).mem_iff,List.mem_range]
theorem Qc {v w:List Int}{k a:Nat}(h:(XC v w)[k]?=some a) : a<v.length:=Qw.1 (List.mem_of_getElem? h)
def WM (v w:List Int)(a b:Nat) : Bool :=
 if w.getD a 0=0\/w.getD b 0=0 then decide (w.getD a 0=0)&&(decide (w.getD b 0≠0) || decide (a<b))
 else decide (v.getD b 0*w.getD a 0<v.getD a 0*w.getD b 0) || (decide (v.getD a 0*w.getD b 0=v.getD b 0*w.getD a 0)&&decide (a<b))
theorem ZcU (v w:List Int)(a b:Nat) : WM v w a b=true↔strictly (Z7 v w) a b:=by
 unfold WM strictly Z7;generalize v.getD a 0=va;generalize v.getD b 0=vb;generalize w.getD a 0=wa;generalize w.getD b 0=wb
 by_cases a0:wa=0
 ·subst a0
  by_cases b0:wb=0
  ·subst b0;simp
  ·simp[b0]
 ·by_cases b0:wb=0
  ·subst b0;simp[a0]
  ·rw[if_neg (by simp[a0,b0]),if_neg b0,if_neg a0,if_neg a0,if_neg b0]
   simp only[Bool.or_eq_true,Bool.and_eq_true,decide_eq_true_eq,decide_eq_false_iff_not];generalize vb*wa=x;generalize va*wb=y;omega
def YN (v w:List Int)(a m:Nat) : Nat:=(List.range m).countP (fun b=>decide (b≠a)&&WM v w b a)
theorem ZcV (v w:List Int)(a m:Nat) : YN v w a (m+1)=YN v w a m+if (decide (m≠a)&&WM v w m a)=true then 1 else 0:=by
 unfold YN;rw[List.range_succ,List.countP_append];simp[List.countP_cons]
theorem ZfR (v w:List Int)(a m:Nat) : YN v w a m<=m:=by
 have:=List.countP_le_length (p:=fun b=>decide (b≠a)&&WM v w b a) (l:=List.range m)
 rwa [List.length_range] at this
theorem Zas {R:Nat->Nat->Prop}{p:Nat->Bool} : ∀ {l:List Nat} {k a:Nat},(∀ x y,R x y->¬R y x)->(∀ x,¬R x x)->l.Pairwise R->l[k]?=some a->(∀ b,p b=true↔R b a)->l.countP p=k
 | [],k,a,_,_,_,h,_=>by simp at h
 | x::l,0,a,ha,hi,hp,h,hr=>by
  simp at h;subst h;have hp':=List.pairwise_cons.1 hp;rw[List.countP_cons,if_neg (fun h=>hi _ ((hr _).1 h)),Nat.add_zero,List.countP_eq_zero];intro b hb h;exact ha _ _ (hp'.1 b hb) ((hr b).1 h)
 | x::l,k+1,a,ha,hi,hp,h,hr=>by
  have hp':=List.pairwise_cons.1 hp;rw[List.getElem?_cons_succ] at h;rw[List.countP_cons,if_pos ((hr _).2 (hp'.1 a (List.mem_of_getElem? h))),Zas ha hi hp'.2 h hr]
theorem Jq {v w:List Int}(hw:∀ x∈w,0<=x){k a:Nat}(h:(XC v w)[k]?=some a) : YN v w a v.length=k:=by
 have W:=WP (v:=v) hw;unfold YN;rw[<-(WQ v w).countP_eq];refine Zas (R:=strictly (Z7 v w)) (fun x y h1 h2=>W.asymm h1 h2) W.irrefl (VO hw) h fun b=>?_
 rw[Bool.and_eq_true,ZcU]
 constructor
 ·exact fun h=>h.2
 ·intro h
  refine⟨decide_eq_true ?_,h⟩;rintro rfl;exact W.irrefl _ h
def VP (f:Nat->Nat)(n:Nat) : Nat->List Int
 | 0=>List.replicate n 0
 | m+1=>(VP f n m).set (f m) (m:Int)
theorem Uh (f:Nat->Nat)(n:Nat) : ∀ m,(VP f n m).length=n
 | 0=>by simp[VP]
 | m+1=>by simp[VP,Uh f n m]
theorem Zbj {f:Nat->Nat}{n:Nat}(hf:∀ a b,a<n->b<n->f a=f b->a=b)(hn:∀ a,a<n->f a<n) : ∀ m,m<=n->∀ a,a<m->(VP f n m)[f a]?=some (a:Int)
 | 0,_,a,h=>by omega
 | m+1,hm,a,h=>by
  unfold VP
  by_cases ham:a=m
  ·subst ham
   rw[List.getElem?_set_self (by rw[Uh];exact hn a (by omega))]
  ·rw[List.getElem?_set_ne (fun h'=>ham (hf a m (by omega) (by omega) h'.symm)),Zbj hf hn m (by omega) a (by omega)]
theorem ZcW {v w:List Int}(hw:∀ x∈w,0<=x) : VP (fun a=>YN v w a v.length) v.length v.length=(XC v w).map (fun n:Nat=>(n:Int)):=by
 have at':∀ a,a<v.length->∃ k,(XC v w)[k]?=some a/\YN v w a v.length=k/\k<v.length:=fun a ha=>by
  obtain⟨k,hk,e⟩:=List.mem_iff_getElem.1 (Qw (v:=v) (w:=w) |>.2 ha);have e':(XC v w)[k]?=some a:=by rw[List.getElem?_eq_getElem hk,e]
  exact⟨k,e',Jq hw e',by rwa [Wx] at hk⟩
 have inj:∀ a b,a<v.length->b<v.length->YN v w a v.length=YN v w b v.length->a=b:=fun a b ha hb h=>by
  obtain⟨k,h1,h2,_⟩:=at' a ha;obtain⟨j,h3,h4,_⟩:=at' b hb;have:k=j:=by omega
  subst this;rw[h1] at h3;exact Option.some.inj h3
 refine List.ext_getElem? fun k=>?_
 by_cases hk:k<v.length
 ·have hk':k<(XC v w).length:=by rw[Wx];exact hk
  have e:(XC v w)[k]?=some (XC v w)[k]:=List.getElem?_eq_getElem hk';have h1:=Jq hw e;have h2:=Zbj (f:=fun a=>YN v w a v.length) inj (fun a ha=>by obtain⟨_,_,_,_⟩:=at' a ha;omega) v.length (Nat.le_refl _) _ (Qc e);simp only[h1] at h2;rw[h2,List.getElem?_map,e]
  rfl
 ·rw[List.getElem?_eq_none (by rw[Uh];omega),List.getElem?_eq_none (by rw[List.length_map,Wx];omega)]
def stP (room out:Int) : List Int->List Int->List Int->Option (Int×Int)
 | _,_,[]=>some (room,out)
 | w::ws,v::vs,x::p=>if x=1 then(if room-w<0 then none else stP (room-w) out ws vs p) else if x=0 then(if room<0 then none else stP room (out+v) ws vs p) else none
 | _,_,_::_=>none
def Zz (room:Int) : List Int->List Int->Int
 | w::ws,v::vs=>if room<w then v*room / w else v+Zz (room-w) ws vs
 | _,_=>0
def Zj : List Int->Int
 | []=>0
 | x::l=>x+Zj l
def VJ (cap:Int)(ws vs p:List Int) : List Int×Int :=
 match stP cap 0 ws vs p with
 | none=>([],1)
 | some (room,_)=>match ws.drop p.length with
  | []=>([],0)
  | w::_=>if w<=room then([1,0],0) else([0],0)
def YO (cap:Int)(ws vs p:List Int) : Int×Int :=
 match stP cap 0 ws vs p with
 | none=>(0,1)
 | some (room,out)=>(out+Zj (vs.drop p.length)-Zz room (ws.drop p.length) (vs.drop p.length),0)
theorem QT {ws vs:List Int} : ∀ {p:List Int} {room out:Int},ws.length<p.length->stP room out ws vs p=none:=by
 induction ws generalizing vs with
 | nil =>
  intro p room out h
  cases p with
  | nil=>simp at h
  | cons x p=>rfl
 | cons w ws ih =>
  intro p room out h
  cases p with
  | nil=>simp at h
  | cons x p =>
   cases vs with
   | nil=>rfl
   | cons v vs =>
    have h':ws.length<p.length:=by simpa using h
    unfold stP;rw[ih h',ih h'];split<;>(try split)<;>(try split)<;>rfl
theorem UN {ws vs:List Int} : ∀ {p:List Int} {room out r o:Int},(∀ x∈ws,0<=x)->0<=room->stP room out ws vs p=some (r,o)->0<=r/\r<=room:=by
 induction ws generalizing vs with
 | nil =>
  intro p room out r o _ h0 h
  cases p with
  | nil=>simp[stP] at h;omega
  | cons x p=>simp[stP] at h
 | cons w ws ih =>
  intro p room out r o hw h0 h
  cases p with
  | nil=>simp[stP] at h;omega
  | cons x p =>
   cases vs with
   | nil=>simp[stP] at h
   | cons v vs =>
    unfold stP at h;have hw0:0<=w:=hw w (by simp);have hw':∀ x∈ws,0<=x:=fun x hx=>hw x (by simp[hx])
    split at h
    ·split at h
     ·cases h
     ·have:=ih hw' (by omega) h;omega
    ·split at h
     ·split at h
      ·cases h
      ·exact ih hw' h0 h
     ·cases h
theorem Zak {ws vs:List Int} : ∀ {p:List Int} {room out r o:Int},(∀ x∈vs,0<=x/\x<=2147483647)->stP room out ws vs p=some (r,o)->out<=o/\o<=out+2147483647*p.length:=by
 induction ws generalizing vs with
 | nil =>
  intro p room out r o _ h
  cases p with
  | nil=>simp[stP] at h;simp;omega
  | cons x p=>simp[stP] at h
 | cons w ws ih =>
  intro p room out r o hv h
  cases p with
  | nil=>simp[stP] at h;simp;omega
  | cons x p =>
   cases vs with
   | nil=>simp[stP] at h
   | cons v vs =>
    unfold stP at h;have hv0:=hv v (by simp);have hv':∀ x∈vs,0<=x/\x<=2147483647:=fun x hx=>hv x (by simp[hx])
    simp only[List.length_cons,Int.natCast_add,Int.natCast_one];split at h
    ·split at h
     ·cases h
     ·have:=ih hv' h;omega
    ·split at h
     ·split at h
      ·cases h
      ·have:=ih hv' h;omega
     ·cases h
theorem Zfj {ws vs:List Int} : ∀ {p q:List Int} {room out:Int},stP room out ws vs (p++q)=(stP room out ws vs p).bind fun(r,o)=>stP r o (ws.drop p.length) (vs.drop p.length) q:=by
 induction ws generalizing vs with
 | nil =>
  intro p q room out
  cases p with
  | nil=>simp[stP]
  | cons x p=>simp[stP]
 | cons w ws ih =>
  intro p q room out
  cases p with
  | nil=>simp[stP]
  | cons x p =>
   cases vs with
   | nil=>simp[stP]
   | cons v vs =>
    simp only[List.cons_append,stP,List.length_cons,List.drop_succ_cons];rw[ih,ih];split<;>(try split)<;>(try split)<;>rfl
theorem UO : ∀ {ws vs:List Int} {room:Int},0<=room->(∀ x∈ws,0<=x)->(∀ x∈vs,0<=x)->0<=Zz room ws vs
 | [],vs,room,_,_,_=>by cases vs<;>simp[Zz]
 | w::ws,[],room,_,_,_=>by simp[Zz]
 | w::ws,v::vs,room,h0,hw,hv=>by
  unfold Zz;have hv0:=hv v (by simp);have hw0:=hw w (by simp);split
  ·exact Int.ediv_nonneg (Int.mul_nonneg hv0 h0) hw0
  ·have:=UO (ws:=ws) (vs:=vs) (room:=room-w) (by omega) (fun x hx=>hw x (by simp[hx])) (fun x hx=>hv x (by simp[hx]))
   omega
theorem XU : ∀ {vs:List Int},(∀ x∈vs,0<=x)->0<=Zj vs
 | [],_=>by simp[Zj]
 | v::vs,hv=>by
  have:=hv v (by simp);have:=XU (vs:=vs) fun x hx=>hv x (by simp[hx])
  simp only[Zj];omega
theorem Qx : ∀ {ws vs:List Int} {room:Int},0<=room->(∀ x∈ws,0<=x)->(∀ x∈vs,0<=x)->Zz room ws vs<=Zj vs
 | [],vs,room,_,_,hv=>by
  have:0<=Zj vs:=XU hv
  cases vs<;>simpa [Zz] using this
 | w::ws,[],room,_,_,_=>by simp[Zz,Zj]
 | w::ws,v::vs,room,h0,hw,hv=>by
  unfold Zz Zj;have hv0:=hv v (by simp);have hw0:=hw w (by simp);have hs:0<=Zj vs:=XU fun x hx=>hv x (by simp[hx])
  split
  ·rename_i h
   have h1:v*room<=v*w:=Int.mul_le_mul_of_nonneg_left (by omega) hv0;have h2:v*room / w<=v*w / w:=Int.ediv_le_ediv (by omega) h1;rw[Int.mul_ediv_cancel _ (by omega)] at h2;omega
  ·have:=Qx (ws:=ws) (vs:=vs) (room:=room-w) (by omega) (fun x hx=>hw x (by simp[hx])) (fun x hx=>hv x (by simp[hx]))
   omega
def ZcX (w0 v0:Int) : List Int->List Int->Prop
 | w::ws,v::vs=>v*w0<=v0*w/\ZcX w0 v0 ws vs
 | _,_=>True
def Falls : List Int->List Int->Prop
 | w::ws,v::vs=>ZcX w v ws vs/\Falls ws vs
 | _,_=>True
theorem Ui {w0 v0:Int}(h0:0<=w0) : ∀ {ws vs:List Int} {room:Int},0<=room->0<=v0->(∀ x∈ws,0<=x)->(∀ x∈vs,0<=x)->ZcX w0 v0 ws vs->w0*Zz room ws vs<=v0*room
 | [],vs,room,hr,hv0,_,_,_=>by
  have:0<=v0*room:=Int.mul_nonneg hv0 hr
  cases vs<;>simpa [Zz] using this
 | w::ws,[],room,hr,hv0,_,_,_=>by
  have:0<=v0*room:=Int.mul_nonneg hv0 hr
  simpa [Zz] using this
 | w::ws,v::vs,room,hr,hv0,hw,hv,hu=>by
  unfold Zz;have hw0:=hw w (by simp);have hvv:=hv v (by simp);obtain⟨hu1,hu2⟩:=hu;split
  ·rename_i hlt
   have hpos:0<w:=by omega
   have h1:v*room / w*w<=v*room:=Int.ediv_mul_le _ (by omega);have h2:w0*(v*room / w*w)<=w0*(v*room):=Int.mul_le_mul_of_nonneg_left h1 h0;have h3:room*(v*w0)<=room*(v0*w):=Int.mul_le_mul_of_nonneg_left hu1 hr;have e1:w0*(v*room / w*w)=w*(w0*(v*room / w)):=by rw[Int.mul_comm (v*room / w) w,<-Int.mul_assoc,Int.mul_comm w0 w,Int.mul_assoc]
   have e2:w0*(v*room)=room*(v*w0):=by rw[<-Int.mul_assoc,Int.mul_comm (w0*v) room,Int.mul_comm w0 v]
   have e3:room*(v0*w)=w*(v0*room):=by rw[<-Int.mul_assoc,Int.mul_comm (room*v0) w,Int.mul_comm room v0]
   rw[e1,e2] at h2;rw[e3] at h3;exact Int.le_of_mul_le_mul_left (Int.le_trans h2 h3) hpos
  ·have ih:=Ui h0 (ws:=ws) (vs:=vs) (room:=room-w) (by omega) hv0 (fun x hx=>hw x (by simp[hx])) (fun x hx=>hv x (by simp[hx])) hu2
   rw[Int.mul_add,Int.mul_comm w0 v];rw[Int.mul_sub] at ih;omega
theorem JY {w0 v0:Int}(h0:0<=w0) : ∀ {ws vs:List Int} {room:Int},w0<=room->0<=v0->(∀ x∈ws,0<=x)->(∀ x∈vs,0<=x)->ZcX w0 v0 ws vs->Falls ws vs->Zz room ws vs<=v0+Zz (room-w0) ws vs
 | [],vs,room,hr,hv0,_,_,_,_=>by cases vs<;>simpa [Zz] using hv0
 | w::ws,[],room,hr,hv0,_,_,_,_=>by simpa [Zz] using hv0
 | w::ws,v::vs,room,hr,hv0,hw,hv,hu,hf=>by
  have hw0:=hw w (by simp);have hvv:=hv v (by simp);obtain⟨hu1,hu2⟩:=hu;obtain⟨hf1,hf2⟩:=hf;have hw':∀ x∈ws,0<=x:=fun x hx=>hw x (by simp[hx])
  have hv':∀ x∈vs,0<=x:=fun x hx=>hv x (by simp[hx])
  simp only[Zz]
  by_cases a1:room<w
  ·rw[if_pos a1,if_pos (by omega)]
   have hpos:0<w:=by omega
   have e:v*room<=v*(room-w0)+v0*w:=by rw[Int.mul_sub];omega
   have h1:v*room / w<=(v*(room-w0)+v0*w) / w:=Int.ediv_le_ediv hpos e;rw[Int.add_mul_ediv_right _ _ (by omega)] at h1;omega
  ·rw[if_neg a1]
   by_cases a2:room-w0<w
   ·rw[if_pos a2]
    have hpos:0<w:=by omega
    have h1:=Ui hw0 (ws:=ws) (vs:=vs) (room:=room-w) (by omega) hvv hw' hv' hf1;have h2:v+Zz (room-w) ws vs-v0<=v*(room-w0) / w:=by
     rw[Int.le_ediv_iff_mul_le hpos];rw[Int.mul_comm,Int.mul_sub,Int.mul_add,Int.mul_sub];rw[Int.mul_sub] at h1;rw[Int.mul_comm w v,Int.mul_comm w v0];omega
    omega
   ·rw[if_neg a2]
    have ih:=JY h0 (ws:=ws) (vs:=vs) (room:=room-w) (by omega) hv0 hw' hv' hu2 hf2;have e:room-w-w0=room-w0-w:=by omega
    rw[e] at ih;omega
theorem Zck {w v:Int}{ws vs:List Int}{room:Int}(hr:0<=room)(hw:∀ x∈w::ws,0<=x)(hv:∀ x∈v::vs,0<=x)(hf:Falls (w::ws) (v::vs)) : Zz room ws vs<=Zz room (w::ws) (v::vs):=by
 have hw0:=hw w (by simp);have hv0:=hv v (by simp);have hw':∀ x∈ws,0<=x:=fun x hx=>hw x (by simp[hx])
 have hv':∀ x∈vs,0<=x:=fun x hx=>hv x (by simp[hx])
 obtain⟨hu,hf'⟩:=hf
 conv=>rhs;unfold Zz
 split
 ·rename_i h
  have hpos:0<w:=by omega
  have h1:=Ui hw0 hr hv0 hw' hv' hu;rw[Int.le_ediv_iff_mul_le hpos,Int.mul_comm];exact h1
 ·exact JY hw0 (by omega) hv0 hw' hv' hu hf'
def Zx (l:List Nat)(v:List Int) : List Int:=l.map fun n=>v.getD n 0
theorem ZcY {v w:List Int}{a:Nat}(hv:∀ x∈v,0<=x)(hw:∀ x∈w,0<=x) : ∀ {l:List Nat},(∀ b∈l,strictly (Z7 v w) a b)->ZcX (w.getD a 0) (v.getD a 0) (Zx l w) (Zx l v)
 | [],_=>trivial
 | b::l,h=>by
  refine⟨?_,ZcY hv hw (l:=l) fun c hc=>h c (by simp[hc])⟩;have hb:=h b (by simp);have h2:Z7 v w b a=false:=by
   rcases hb with hb | ⟨hb,_⟩
   ·exact(WP hw).asym _ _ hb
   ·exact hb
  unfold Z7 at h2;have va:=VI hv a;have wa:=VI hw a;have wb:=VI hw b
  by_cases a0:w.getD a 0=0
  ·rw[a0,Int.mul_zero];exact Int.mul_nonneg va wb
  ·rw[if_neg a0] at h2
   by_cases b0:w.getD b 0=0
   ·rw[if_pos b0] at h2;cases h2
   ·rw[if_neg b0] at h2
    have:=of_decide_eq_false h2;show v.getD b 0*w.getD a 0<=v.getD a 0*w.getD b 0;omega
theorem ZcZ {v w:List Int}(hv:∀ x∈v,0<=x)(hw:∀ x∈w,0<=x) : ∀ {l:List Nat},l.Pairwise (strictly (Z7 v w))->Falls (Zx l w) (Zx l v)
 | [],_=>trivial
 | a::l,h=>by
  have h':=List.pairwise_cons.1 h;exact⟨ZcY hv hw h'.1,ZcZ hv hw h'.2⟩
theorem Falls.drop : ∀ {k:Nat} {ws vs:List Int},Falls ws vs->Falls (ws.drop k) (vs.drop k)
 | 0,ws,vs,h=>h
 | k+1,[],vs,h=>by simp[Falls]
 | k+1,w::ws,[],h=>by simp[Falls]
 | k+1,w::ws,v::vs,h=>by rw[List.drop_succ_cons,List.drop_succ_cons];exact Falls.drop h.2
def Yq (room out:Int) : List Int->List Int->Int
 | w::ws,v::vs=>if w<=room then(if Yq room (out+v) ws vs<Yq (room-w) out ws vs then Yq room (out+v) ws vs else Yq (room-w) out ws vs) else Yq room (out+v) ws vs
 | _,_=>out
theorem Zat : ∀ {ws vs:List Int} {room out:Int},0<=room->(∀ x∈ws,0<=x)->(∀ x∈vs,0<=x)->ws.length=vs.length->Falls ws vs->out+Zj vs-Zz room ws vs<=Yq room out ws vs
 | [],[],room,out,_,_,_,_,_=>by simp[Zj,Zz,Yq]
 | [],_::_,_,_,_,_,_,h,_=>by simp at h
 | _::_,[],_,_,_,_,_,h,_=>by simp at h
 | w::ws,v::vs,room,out,h0,hw,hv,hl,hf=>by
  have hfr:=Zck h0 hw hv hf;have hw':∀ x∈ws,0<=x:=fun x hx=>hw x (by simp[hx])
  have hv':∀ x∈vs,0<=x:=fun x hx=>hv x (by simp[hx])
  have hl':ws.length=vs.length:=by simpa using hl
  have h1:=Zat (out:=out+v) h0 hw' hv' hl' hf.2;unfold Yq;simp only[Zj];split
  ·rename_i hle
   have h2:=Zat (room:=room-w) (out:=out) (by omega) hw' hv' hl' hf.2;have e:Zz room (w::ws) (v::vs)=v+Zz (room-w) ws vs:=by rw[Zz,if_neg (by omega)]
   rw[e] at hfr ⊢;split<;>omega
  ·omega
theorem Xn : ∀ {ws vs:List Int} {room out:Int},0<=out->(∀ x∈vs,0<=x)->0<=Yq room out ws vs
 | [],vs,room,out,h,_=>by cases vs<;>simpa [Yq] using h
 | w::ws,[],room,out,h,_=>by simpa [Yq] using h
 | w::ws,v::vs,room,out,h,hv=>by
  have hv0:=hv v (by simp);have hv':∀ x∈vs,0<=x:=fun x hx=>hv x (by simp[hx])
  have h1:=Xn (ws:=ws) (vs:=vs) (room:=room) (out:=out+v) (by omega) hv';have h2:=Xn (ws:=ws) (vs:=vs) (room:=room-w) (out:=out) h hv';unfold Yq;split
  ·split<;>assumption
  ·assumption
theorem Xp {a b:List Int}(h:a.Perm b) : Zj a=Zj b:=by
 induction h with
 | nil=>rfl
 | cons x _ ih=>simp[Zj,ih]
 | swap x y l=>simp[Zj];omega
 | trans _ _ h1 h2=>rw[h1,h2]
theorem Zc0 (a b:List Int) : Zj (a++b)=Zj a+Zj b:=by
 induction a with
 | nil=>simp[Zj]
 | cons x a ih=>simp[Zj,ih];omega
def Jr (l:List Nat)(p:List Int) : Nat->List Int
 | 0=>List.replicate l.length 0
 | k+1=>(Jr l p k).set (l.getD k 0) (p.getD k 0)
theorem QU (l:List Nat)(p:List Int) : ∀ k,(Jr l p k).length=l.length
 | 0=>by simp[Jr]
 | k+1=>by simp[Jr,QU l p k]
theorem Zfk {l:List Nat}{p:List Int}(hn:l.Nodup)(hl:∀ a∈l,a<l.length) : ∀ k,k<=l.length->∀ j,j<k->(Jr l p k)[l.getD j 0]?=some (p.getD j 0)
 | 0,_,j,h=>by omega
 | k+1,hk,j,h=>by
  unfold Jr;have ek:l.getD k 0=l[k]:=by simp[List.getD,List.getElem?_eq_getElem (show k<l.length by omega)]
  have ej:l.getD j 0=l[j]:=by simp[List.getD,List.getElem?_eq_getElem (show j<l.length by omega)]
  by_cases hj:j=k
  ·subst hj
   rw[List.getElem?_set_self (by rw[QU,ek];exact hl _ (List.getElem_mem _))]
  ·have hne:l.getD k 0≠l.getD j 0:=fun h'=>hj (((List.getElem?_inj (i:=j) (j:=k) (by omega) hn).1 (by
    rw[List.getElem?_eq_getElem (show k<l.length by omega),List.getElem?_eq_getElem (show j<l.length by omega),<-ek,<-ej,h'])))
   rw[List.getElem?_set_ne hne,Zfk hn hl k (by omega) j (by omega)]
def Zr (x ws:List Int) : Int:=Zj (List.zipWith (fun x w=>if x=1 then w else 0) x ws)
def ZE (x vs:List Int) : Int:=Zj (List.zipWith (fun x v=>if x=1 then 0 else v) x vs)
theorem YV (f:Int->Int->Int) : ∀ (k:Nat) (x ws:List Int) {v u:Int},x[k]?=some v->ws[k]?=some u->Zj (List.zipWith f (x.take (k+1)) ws)=Zj (List.zipWith f (x.take k) ws)+f v u
 | 0,_::_,_::_,_,_,h1,h2=>by
  simp only[List.getElem?_cons_zero,Option.some.injEq] at h1 h2;subst h1 h2;simp[Zj]
 | k+1,_::x,_::ws,v,u,h1,h2=>by
  have h:=YV f k x ws (v:=v) (u:=u) (by simpa using h1) (by simpa using h2);simp only[List.take_succ_cons,List.zipWith_cons_cons,Zj] at h ⊢;omega
 | _,[],_,_,_,h1,_=>by simp at h1
 | _,_::_,[],_,_,_,h2=>by simp at h2
def QV (cap:Int)(ws vs x:List Int) : Int×Int:=if cap<Zr x ws then(0,9) else(ZE x vs,0)
theorem Wl (f:Int->Int->Int)(x w:List Int)(h:x.length=w.length) : List.zipWith f x w=(List.range x.length).map fun j=>f (x.getD j 0) (w.getD j 0):=by
 apply List.ext_getElem
 ·simp[h]
 ·intro k h1 h2
  have k1:k<x.length:=by simp at h2;omega
  have k2:k<w.length:=by omega
  simp[List.getD,List.getElem?_eq_getElem k1,List.getElem?_eq_getElem k2]
theorem QW (f:Int->Int->Int){l:List Nat}{n:Nat}(hp:l.Perm (List.range n)){p w:List Int}(lp:p.length=n)(lw:w.length=n) :
  Zj (List.zipWith f (Jr l p n) w)=Zj (List.zipWith f p (Zx l w)):=by
 have hl:l.length=n:=by rw[hp.length_eq,List.length_range]
 have hnd:l.Nodup:=hp.nodup_iff.2 List.nodup_range;have hlt:∀ a∈l,a<l.length:=fun a ha=>by rw[hl];exact List.mem_range.1 (hp.mem_iff.1 ha)
 have la:(Jr l p n).length=n:=by rw[QU,hl]
 rw[Wl f _ w (by rw[la,lw]),la,<-Xp (hp.map _),Wl f p (Zx l w) (by simp[Zx,lp,hl]),lp]
 congr 1
 apply List.ext_getElem
 ·simp[hl]
 ·intro k h1 h2
  have hk:k<l.length:=by simpa using h1
  have hk':k<n:=by omega
  simp only[List.getElem_map,List.getElem_range];have e1:(Jr l p n).getD (l[k]) 0=p.getD k 0:=by
   have h:=Zfk (p:=p) hnd hlt n (by omega) k hk';have ek:l.getD k 0=l[k]:=by simp[List.getD,List.getElem?_eq_getElem hk]
   rw[ek] at h;simp[List.getD,h]
  have e2:(Zx l w).getD k 0=w.getD (l[k]) 0:=by
   unfold Zx;simp[List.getD,List.getElem?_map,List.getElem?_eq_getElem hk]
  rw[e1,e2]
theorem Zfl {l:List Nat}{p:List Int}(h:∀ x∈p,x=0\/x=1) : ∀ k,∀ x∈Jr l p k,x=0\/x=1
 | 0,x,hx=>.inl (List.eq_of_mem_replicate hx)
 | k+1,x,hx=>by
  rcases List.mem_or_eq_of_mem_set hx with h1 | h1
  ·exact Zfl h k x h1
  ·subst h1
   cases hv:p[k]? with
   | none=>simp[List.getD,hv]
   | some y=>simpa [List.getD,hv] using h y (List.mem_of_getElem? hv)
def W6 (cap:Int)(ws vs p:List Int) : Int:=match stP cap 0 ws vs p with
 | none=>-1
 | some (r,o)=>Yq r o (ws.drop p.length) (vs.drop p.length)
section
variable {cap:Int} {ws vs p ws' vs':List Int} {r o w v:Int}
theorem Qd {l l' p:List Int}{x y:Int}(h:l.drop p.length=x::l') : l.drop (p++[y]).length=l':=by
 have h1:=congrArg List.tail h;rw[List.tail_drop] at h1
 simpa using h1
theorem VV (h:stP cap 0 ws vs p=some (r,o)) : W6 cap ws vs p=Yq r o (ws.drop p.length) (vs.drop p.length):=by unfold W6;rw[h]
theorem Zbk (h:stP cap 0 ws vs p=some (r,o))(hw:ws.drop p.length=w::ws')(hv:vs.drop p.length=v::vs')(hle:w<=r) : stP cap 0 ws vs (p++[1])=some (r-w,o):=by
 rw[Zfj,h];simp only[Option.bind_some,hw,hv,stP,if_true];rw[if_neg (by omega)]
theorem Js (h:stP cap 0 ws vs p=some (r,o))(hw:ws.drop p.length=w::ws')(hv:vs.drop p.length=v::vs')(h0:0<=r) : stP cap 0 ws vs (p++[0])=some (r,o+v):=by
 rw[Zfj,h];simp only[Option.bind_some,hw,hv,stP,if_true];rw[if_neg (by decide),if_neg (by omega)]
theorem Zc1 (h:stP cap 0 ws vs p=some (r,o))(hw:ws.drop p.length=w::ws')(hv:vs.drop p.length=v::vs')(hle:w<=r) : W6 cap ws vs (p++[1])=Yq (r-w) o ws' vs':=by
 rw[VV (Zbk h hw hv hle),Qd hw,Qd hv]
theorem Zau (h:stP cap 0 ws vs p=some (r,o))(hw:ws.drop p.length=w::ws')(hv:vs.drop p.length=v::vs')(h0:0<=r) : W6 cap ws vs (p++[0])=Yq r (o+v) ws' vs':=by
 rw[VV (Js h hw hv h0),Qd hw,Qd hv]
end
def ZH (f:Int->Int) : Int->List Int->Int
 | b,[]=>b
 | b,x::l=>ZH f (if b<0 then f x else if f x<b then f x else b) l
theorem Zc2 {cap:Int}{ws vs p:List Int}{r o:Int}(h:stP cap 0 ws vs p=some (r,o))(h0:0<=r)(hl:p.length<ws.length)(hlv:ws.length=vs.length)(hv0:∀ x∈vs,0<=x)(ho:0<=o) :
  ZH (fun x=>W6 cap ws vs (p++[x])) (-1) (VJ cap ws vs p).1=W6 cap ws vs p:=by
 obtain⟨w,ws',hw⟩:∃ w ws',ws.drop p.length=w::ws':=⟨_,_,List.drop_eq_getElem_cons hl⟩;obtain⟨v,vs',hv⟩:∃ v vs',vs.drop p.length=v::vs':=⟨_,_,List.drop_eq_getElem_cons (by omega)⟩;have hvs:∀ x∈v::vs',0<=x:=fun x hx=>hv0 x (List.mem_of_mem_drop (hv ▸ hx))
 have e:=VV h;rw[hw,hv] at e;unfold VJ;rw[h,e];simp only[hw];have h2:=Zau h hw hv h0;unfold Yq;split
 ·rename_i hle
  have h1:=Zc1 h hw hv hle;have n1:0<=Yq (r-w) o ws' vs':=Xn ho fun x hx=>hvs x (by simp[hx])
  simp only[ZH,h1,h2];rw[if_pos (show (-1:Int)<0 by decide),if_neg (show ¬Yq (r-w) o ws' vs'<0 by omega)]
 ·simp only[ZH,h2]
  rw[if_pos (show (-1:Int)<0 by decide)]
theorem Zc3 {cap:Int}{ws vs p:List Int}(h0:0<=cap)(hw:∀ x∈ws,0<=x)(hv:∀ x∈vs,0<=x/\x<=2147483647)(hl:ws.length=vs.length)(hf:Falls ws vs)(he:(YO cap ws vs p).2=0) :
  0<=(YO cap ws vs p).1/\(YO cap ws vs p).1<=W6 cap ws vs p:=by
 unfold YO at he ⊢
 cases hs:stP cap 0 ws vs p with
 | none=>rw[hs] at he;simp at he
 | some q =>
  obtain⟨r,o⟩:=q;have h1:=(UN hw h0 hs).1;have h2:=(Zak hv hs).1;have hw':∀ x∈ws.drop p.length,0<=x:=fun x hx=>hw x (List.mem_of_mem_drop hx)
  have hv':∀ x∈vs.drop p.length,0<=x:=fun x hx=>(hv x (List.mem_of_mem_drop hx)).1
  rw[VV hs];simp only;have h3:=Qx h1 hw' hv';have h4:=Zat (out:=o) h1 hw' hv' (by simp[hl]) hf.drop;exact⟨by omega,h4⟩
theorem ZfS (cap:Int)(ws vs p:List Int) : (YO cap ws vs p).2=0\/((YO cap ws vs p).2=1/\stP cap 0 ws vs p=none):=by
 unfold YO
 cases hs:stP cap 0 ws vs p with
 | none=>exact .inr ⟨rfl,rfl⟩
 | some q=>exact .inl rfl
theorem Zg4 {cap:Int}{ws vs p:List Int}{r o:Int}(h:stP cap 0 ws vs p=some (r,o))(hl:p.length=ws.length)(hlv:ws.length=vs.length) : YO cap ws vs p=(o,0)/\W6 cap ws vs p=o:=by
 have d1:ws.drop p.length=[]:=List.drop_of_length_le (by omega);have d2:vs.drop p.length=[]:=List.drop_of_length_le (by omega);rw[VV h];unfold YO;rw[h];simp[d1,d2,Zj,Zz,Yq]
end Go.Proofs.YtmojhhlcocjoaaaGreatDoor
namespace Go.Proofs.YtmojhhlcocjoaaaGreatDoor
def Zd (l:List Nat) : List Int:=l.map fun n:Nat=>(n:Int)
theorem Zg (l:List Nat) : (Zd l).length=l.length:=by simp[Zd]
def Zv : List (List Int)->List Int->Int
 | row::rows,c::p=>row.getD c.toNat 0+Zv rows p
 | _,_=>0
theorem Zav {F:Nat->Int} : ∀ {rows:List (List Int)} {off:List Int} {q:List Nat},rows.length=q.length->off.length=q.length->(∀ (k c:Nat) (x:List Int) (o:Int),rows[k]?=some x->off[k]?=some o->q[k]?=some c->o+F c<=x.getD c 0)->Zj off+Zj (q.map F)<=Zv rows (Zd q)
 | [],off,q,h1,h2,_=>by
  have:q=[]:=List.eq_nil_of_length_eq_zero (by simpa using h1.symm);subst this;have:off=[]:=List.eq_nil_of_length_eq_zero (by simpa using h2);subst this;simp[Zj,Zv,Zd]
 | r::rows,[],q,h1,h2,_=>by
  exfalso
  simp at h1 h2;omega
 | r::rows,o::off,[],h1,_,_=>by simp at h1
 | r::rows,o::off,c::q,h1,h2,h=>by
  have h3:=h 0 c r o rfl rfl rfl;have ih:=Zav (F:=F) (rows:=rows) (off:=off) (q:=q) (by simpa using h1) (by simpa using h2) fun k c x o a b d=>h (k+1) c x o a b d
  simp only[Zd,List.map_cons,Zj,Zv] at ih ⊢;rw[Int.toNat_natCast];omega
def Za (rows:List (List Int))(a b:Nat) : Int:=(rows.getD a []).getD b 0
structure RowsOk (rows:List (List Int)) : Prop where
 n1:1<=rows.length
 n2:rows.length<=24
 row:∀ row∈rows,row.length=rows.length
 num:∀ row∈rows,∀ x∈row,0<=x/\x<=2147483647
theorem RowsOk.get {rows:List (List Int)}(h:RowsOk rows){row:List Int}(hr:row∈rows){c:Nat}(hc:c<rows.length) : 0<=row.getD c 0/\row.getD c 0<=2147483647:=by
 have h1:c<row.length:=by rw[h.row row hr];exact hc
 have h2:row.getD c 0=row[c]:=by simp[List.getD,List.getElem?_eq_getElem h1]
 rw[h2];exact h.num row hr _ (List.getElem_mem _)
theorem XV : ∀ {rows:List (List Int)} {q:List Nat},rows.length=q.length->Zv rows (Zd q)=Zj ((List.range q.length).map fun k=>Za rows k (q.getD k 0))
 | [],[],_=>rfl
 | [],_::_,h=>by simp at h
 | _::_,[],h=>by simp at h
 | r::rows,c::q,h=>by
  have ih:=XV (rows:=rows) (q:=q) (by simpa using h);have e:(List.range (c::q).length).map (fun k=>Za (r::rows) k ((c::q).getD k 0))=Za (r::rows) 0 c::(List.range q.length).map fun k=>Za rows k (q.getD k 0):=by
   rw[List.length_cons,List.range_succ_eq_map,List.map_cons,List.map_map]
   rfl
  rw[e];simp only[Zd,List.map_cons,Zj,Zv] at ih ⊢;rw[Int.toNat_natCast,ih]
  rfl
theorem WR (a b:List Int) : Zj (a++b)=Zj a+Zj b:=by
 induction a with
 | nil=>simp[Zj]
 | cons x a ih=>simp only[List.cons_append,Zj,ih];omega
abbrev Ld := Int×Int×Nat
def ZI : List Ld->List Value
 | []=>[]
 | d::l=>.int .i64 d.1::.int .i64 d.2.1::.int .u64 (d.2.2:Int)::.int .u64 0::ZI l
theorem Xq : ∀ l:List Ld,(ZI l).length=l.length*4
 | []=>rfl
 | d::l=>by simp only[ZI,List.length_cons,Xq l];omega
theorem Zbl : ∀ l:List Ld,∀ u∈ZI l,u.oneCell'=true
 | [],u,h=>by cases h
 | d::l,u,h=>by
  simp only[ZI,List.mem_cons] at h;rcases h with rfl | rfl | rfl | rfl | h
  ·rfl
  ·rfl
  ·rfl
  ·rfl
  ·exact Zbl l u h
theorem Wm : ∀ l m:List Ld,ZI (l++m)=ZI l++ZI m
 | [],m=>rfl
 | d::l,m=>by simp only[List.cons_append,ZI,Wm l m]
theorem Wy : ∀ {l:List Ld} {k:Nat} {d:Ld},l[k]?=some d->(ZI l)[k*4]?=some (.int .i64 d.1)/\(ZI l)[k*4+1]?=some (.int .i64 d.2.1)/\(ZI l)[k*4+2]?=some (.int .u64 (d.2.2:Int))/\(ZI l)[k*4+3]?=some (.int .u64 0)
 | [],k,d,h=>by simp at h
 | e::l,0,d,h=>by
  obtain rfl:e=d:=by simpa using h
  exact⟨rfl,rfl,rfl,rfl⟩
 | e::l,k+1,d,h=>by
  have ih:=Wy (l:=l) (k:=k) (d:=d) (by simpa using h);have e1:∀ j,(ZI (e::l))[(k+1)*4+j]?=(ZI l)[k*4+j]?:=fun j=>by
   rw[show (k+1)*4+j=k*4+j+1+1+1+1 by omega]
   rfl
  have e0:=e1 0;simp only[Nat.add_zero] at e0;rw[e0,e1 1,e1 2,e1 3];exact ih
def YQ (l:List Ld)(k:Nat)(wt vl room:Int) : List Ld:=(l.filter fun d=>decide (d.1+wt<=room)).map fun d=>(d.1+wt,d.2.1+vl,d.2.2 ||| 2^k)
theorem Zer (l:List Ld)(d:Ld)(k:Nat)(wt vl room:Int) : YQ (l++[d]) k wt vl room=YQ l k wt vl room++(if d.1+wt<=room then [(d.1+wt,d.2.1+vl,d.2.2 ||| 2^k)] else []):=by
 unfold YQ;rw[List.filter_append,List.map_append]
 congr 1
 by_cases h:d.1+wt<=room
 ·simp[h]
 ·simp[h]
theorem Zbm (l:List Ld)(k:Nat)(wt vl room:Int) : (YQ l k wt vl room).length<=l.length:=by
 unfold YQ;rw[List.length_map];exact List.length_filter_le _ _
def Jt (d m:Ld) : Bool:=decide (m.1<=d.1)&&decide (d.2.1<=m.2.1)
def Wa : List Ld->List Ld->List Ld
 | acc,[]=>acc
 | acc,d::r=>Wa (match acc.getLast? with
  | none=>[d]
  | some m=>if Jt d m=true then acc else acc++[d]) r
theorem Zbn : ∀ {r acc:List Ld} {d:Ld},d∈Wa acc r->d∈acc\/d∈r
 | [],acc,d,h=>.inl h
 | e::r,acc,d,h=>by
  unfold Wa at h;rcases Zbn h with h | h
  ·split at h
   ·exact .inr (by simpa using .inl (List.mem_singleton.1 h))
   ·split at h
    ·exact .inl h
    ·rcases List.mem_append.1 h with h | h
     ·exact .inl h
     ·exact .inr (by simpa using .inl (List.mem_singleton.1 h))
  ·exact .inr (List.mem_cons_of_mem _ h)
def Dom (l:List Ld)(d:Ld) : Prop:=∃ m∈l,m.1<=d.1/\d.2.1<=m.2.1
theorem Zbo : ∀ {r acc:List Ld} {d:Ld},Dom acc d\/d∈r->Dom (Wa acc r) d
 | [],acc,d,h=>by
  rcases h with h | h
  ·exact h
  ·cases h
 | e::r,acc,d,h=>by
  unfold Wa;refine Zbo ?_;rcases h with⟨m,h1,h2⟩ | h
  ·left
   split
   ·rename_i hn
    rw[List.getLast?_eq_none_iff.1 hn] at h1
    cases h1
   ·split
    ·exact⟨m,h1,h2⟩
    ·exact⟨m,List.mem_append_left _ h1,h2⟩
  ·rcases List.mem_cons.1 h with rfl | h
   ·left
    split
    ·exact⟨d,by simp,Int.le_refl _,Int.le_refl _⟩
    ·rename_i m hm
     split
     ·rename_i hw
      simp only[Jt,Bool.and_eq_true,decide_eq_true_eq] at hw;exact⟨m,List.mem_of_getLast? hm,hw.1,hw.2⟩
     ·exact⟨d,by simp,Int.le_refl _,Int.le_refl _⟩
   ·exact .inr h
theorem Zbp : ∀ {r acc:List Ld},(Wa acc r).length<=acc.length+r.length
 | [],acc=>by simp[Wa]
 | e::r,acc=>by
  unfold Wa;refine Nat.le_trans Zbp ?_;split
  ·rename_i hn
   rw[List.getLast?_eq_none_iff.1 hn];simp;omega
  ·split<;>simp<;>omega
def Yn (f:Nat->Int)(k s:Nat) : Int:=Zj ((List.range k).map fun j=>if s.testBit j=true then f j else 0)
theorem Yf (f:Nat->Int)(k s:Nat) : Yn f (k+1) s=Yn f k s+(if s.testBit k=true then f k else 0):=by
 unfold Yn;rw[List.range_succ,List.map_append,WR];simp[Zj]
theorem Uj {f:Nat->Int}{k s t:Nat}(h:∀ j,j<k->s.testBit j=t.testBit j) : Yn f k s=Yn f k t:=by
 unfold Yn
 congr 1
 exact List.map_congr_left fun j hj=>by rw[h j (List.mem_range.1 hj)]
structure Good (k:Nat)(wf vf:Nat->Int)(cap:Int)(l:List Ld) : Prop where
 each:∀ d∈l,d.2.2<2^k/\d.1=Yn wf k d.2.2/\d.2.1=Yn vf k d.2.2/\d.1<=cap
 dom:∀ s,s<2^k->Yn wf k s<=cap->∃ d∈l,d.1<=Yn wf k s/\Yn vf k s<=d.2.1
 len:l.length<=2^k
theorem Good.start {wf vf:Nat->Int}{cap:Int}(h:0<=cap) : Good 0 wf vf cap [(0,0,0)] where
 each:=fun d hd=>by
  obtain rfl:=List.mem_singleton.1 hd;exact⟨by simp,rfl,rfl,h⟩
 dom:=fun s hs _=>⟨(0,0,0),by simp,by simp[Yn,Zj],by simp[Yn,Zj]⟩
 len:=by simp
theorem Zh3 {s k:Nat}(h:s<2^k) : s.testBit k=false:=Nat.testBit_lt_two_pow h
theorem Good.step {k:Nat}{wf vf:Nat->Int}{cap:Int}{l l2:List Ld}(h:Good k wf vf cap l)(hw:0<=wf k)(hp:l2.Perm (l++YQ l k (wf k) (vf k) cap)) : Good (k+1) wf vf cap (Wa [] l2):=by
 have e2:2^(k+1)=2^k+2^k:=by rw[Nat.pow_succ];omega
 have hl:∀ d∈l,d.2.2<2^(k+1)/\d.1=Yn wf (k+1) d.2.2/\d.2.1=Yn vf (k+1) d.2.2/\d.1<=cap:=fun d hd=>by
  obtain⟨h1,h2,h3,h4⟩:=h.each d hd;rw[Yf,Yf,Zh3 h1];exact⟨by omega,by simpa using h2,by simpa using h3,h4⟩
 have hb:∀ s:Nat,s<2^k->(∀ j,j<k->(s ||| 2^k).testBit j=s.testBit j)/\(s ||| 2^k).testBit k=true:=fun s _=>by
  refine⟨fun j hj=>?_,?_⟩
  ·rw[Nat.testBit_or,Nat.testBit_two_pow_of_ne (by omega),Bool.or_false]
  ·rw[Nat.testBit_or,Nat.testBit_two_pow_self,Bool.or_true]
 have hm:∀ d∈Wa [] l2,d∈l\/d∈YQ l k (wf k) (vf k) cap:=fun d hd=>by
  rcases Zbn hd with h1 | h1
  ·cases h1
  ·exact List.mem_append.1 (hp.mem_iff.1 h1)
 refine⟨fun d hd=>?_,fun s hs hc=>?_,?_⟩
 ·rcases hm d hd with h1 | h1
  ·exact hl d h1
  ·obtain⟨q,hq,rfl⟩:=List.mem_map.1 h1
   obtain⟨hq,hf⟩:=List.mem_filter.1 hq;obtain⟨h1,h2,h3,_⟩:=h.each q hq;obtain⟨b1,b2⟩:=hb q.2.2 h1;have hlt:q.2.2 ||| 2^k<2^(k+1):=Nat.or_lt_two_pow (by omega) (by omega)
   refine⟨hlt,?_,?_,by simpa using hf⟩
   ·show q.1+wf k=Yn wf (k+1) (q.2.2 ||| 2^k)
    rw[Yf,b2,Uj b1,if_pos rfl,h2]
   ·show q.2.1+vf k=Yn vf (k+1) (q.2.2 ||| 2^k)
    rw[Yf,b2,Uj b1,if_pos rfl,h3]
 ·have fin:∀ d:Ld,d∈l++YQ l k (wf k) (vf k) cap->d.1<=Yn wf (k+1) s->Yn vf (k+1) s<=d.2.1->∃ d∈Wa [] l2,d.1<=Yn wf (k+1) s/\Yn vf (k+1) s<=d.2.1:=fun d hd h1 h2=>by
   obtain⟨m,m1,m2,m3⟩:=Zbo (acc:=[]) (.inr (hp.mem_iff.2 hd));exact⟨m,m1,by omega,by omega⟩
  rw[Yf] at hc
  by_cases hk:s.testBit k=true
  ·rw[if_pos hk] at hc
   have hs':s%2^k<2^k:=Nat.mod_lt _ (Nat.two_pow_pos k);have hbits:∀ j,j<k->(s%2^k).testBit j=s.testBit j:=fun j hj=>by rw[Nat.testBit_mod_two_pow];simp[hj]
   have e3:=Uj (f:=wf) hbits;have e4:=Uj (f:=vf) hbits;obtain⟨d,d1,d2,d3⟩:=h.dom (s%2^k) hs' (by omega);refine fin (d.1+wf k,d.2.1+vf k,d.2.2 ||| 2^k) (List.mem_append_right _ (List.mem_map.2 ⟨d,List.mem_filter.2 ⟨d1,by simp;omega⟩,rfl⟩)) ?_ ?_
   ·show d.1+wf k<=_
    rw[Yf,if_pos hk];omega
   ·show _<=d.2.1+vf k
    rw[Yf,if_pos hk];omega
  ·rw[if_neg hk] at hc
   have hs2:s<2^k:=by
    refine Nat.lt_pow_two_of_testBit (n:=k) _ fun i hi=>?_
    by_cases e:i=k
    ·rw[e];simpa using hk
    ·exact Nat.testBit_lt_two_pow (Nat.lt_of_lt_of_le hs (Nat.pow_le_pow_right (by omega) (by omega)))
   obtain⟨d,d1,d2,d3⟩:=h.dom s hs2 (by omega);refine fin d (List.mem_append_left _ d1) ?_ ?_
   ·rw[Yf,if_neg hk];omega
   ·rw[Yf,if_neg hk];omega
 ·refine Nat.le_trans Zbp ?_
  rw[hp.length_eq,List.length_append];have:=Zbm l k (wf k) (vf k) cap;have:=h.len;simp;omega
def Zcl : Ld->List Ld->Ld
 | t,[]=>t
 | t,d::l=>Zcl (if t.2.1<d.2.1 then d else t) l
theorem Zfm : ∀ {l:List Ld} {t:Ld},t.2.1<=(Zcl t l).2.1/\(∀ d∈l,d.2.1<=(Zcl t l).2.1)/\(Zcl t l=t\/Zcl t l∈l)
 | [],t=>⟨Int.le_refl _,(fun d h=>by cases h),Or.inl rfl⟩
 | e::l,t=>by
  have ih:=Zfm (l:=l) (t:=if t.2.1<e.2.1 then e else t);unfold Zcl
  by_cases h:t.2.1<e.2.1
  ·rw[if_pos h] at ih ⊢
   refine⟨by have:=ih.1;omega,fun d hd=>?_,?_⟩
   ·rcases List.mem_cons.1 hd with rfl | hd
    ·exact ih.1
    ·exact ih.2.1 d hd
   ·rcases ih.2.2 with h2 | h2
    ·right
     rw[h2];simp
    ·exact .inr (List.mem_cons_of_mem _ h2)
  ·rw[if_neg h] at ih ⊢
   refine⟨ih.1,fun d hd=>?_,?_⟩
   ·rcases List.mem_cons.1 hd with rfl | hd
    ·have:=ih.1
     omega
    ·exact ih.2.1 d hd
   ·rcases ih.2.2 with h2 | h2
    ·exact .inl h2
    ·exact .inr (List.mem_cons_of_mem _ h2)
end Go.Proofs.YtmojhhlcocjoaaaGreatDoor
namespace Go.Proofs.YtmojhhlcocjoaaaGreatDoor
open Go.RowKit Go.ChangeShapes Go.WideShapes Go.ChangeAt Go.Deep
def xB (m n:Nat) : List Int:=(List.range n).map fun j=>if m.testBit j=true then 1 else 0
theorem VQ (m n:Nat) : (xB m n).length=n:=by simp[xB]
theorem Zes {m n j:Nat}(h:j<n) : (xB m n)[j]?=some (if m.testBit j=true then 1 else 0):=by
 rw[xB,List.getElem?_map,List.getElem?_range h]
 rfl
def Wn (f:Nat->Int)(k s:Nat) : Int:=Zj ((List.range k).map fun j=>if s.testBit j=true then 0 else f j)
theorem Ju (f:Nat->Int)(k s:Nat) : Wn f (k+1) s=Wn f k s+(if s.testBit k=true then 0 else f k):=by
 unfold Wn;rw[List.range_succ,List.map_append,WR];simp[Zj]
theorem QX {f:Nat->Int}{n:Nat}(hf:∀ j,j<n->0<=f j/\f j<=2147483647)(s:Nat) : ∀ k,k<=n->(0<=Yn f k s/\Yn f k s<=k*2147483647)/\(0<=Wn f k s/\Wn f k s<=k*2147483647)
 | 0,_=>by simp[Yn,Wn,Zj]
 | k+1,h=>by
  have ih:=QX hf s k (by omega);have h1:=hf k (by omega);rw[Yf,Ju];split<;>omega
theorem Zaw (f:Nat->Int)(s:Nat) : ∀ k,Yn f k s+Wn f k s=Zj ((List.range k).map f)
 | 0=>rfl
 | k+1=>by
  have ih:=Zaw f s k;rw[Yf,Ju,List.range_succ,List.map_append,WR];simp only[List.map_cons,List.map_nil,Zj];split<;>omega
def atF (xs:List Int)(j:Nat) : Int:=xs.getD j 0
theorem Jv {xs:List Int}(h:Small31 xs)(j:Nat) : 0<=atF xs j/\atF xs j<=2147483647:=by
 unfold atF
 cases e:xs[j]? with
 | none=>simp[List.getD,e]
 | some x =>
  rw[getD_some e];exact h.get e
theorem ZfT (i:InstP)(us:List Value)(P:Option Addr)(c m n:Nat)(w:World)(H:RInst w us i)(hc:Zh i=0)(hk:i.kind=1)(hn:i.n=n)(hP:RdI w P (xB m n))(hcap:Yn (atF i.weight) n m<=i.cap) :
  Calls Tryz.prog 78 #[.agg (List.toArray us),.slice P n c] w fun e w'=>e=.returned (.tuple #[.int .i64 (Wn (atF i.value) n m),.int .i64 0])/\Ext w w':=by
 have ok:=ZR hc hk;have okw:=ok.w;have okv:=ok.v;have okn:=ok.n2;have okc:=ok.cap;have BW:=QX (f:=atF i.weight) (n:=n) (fun j _=>Jv ok.sw j) m;have BV:=QX (f:=atF i.value) (n:=n) (fun j _=>Jv ok.sv j) m;obtain⟨kind,nn,cap,xw,xv,co⟩:=i;obtain⟨A,a,B,b,D,d,rfl,⟨rA,-⟩,⟨rB,-⟩,-⟩:=H;simp only at *;subst hk hn;have lw:xw.length=n:=by omega
 have lv:xv.length=n:=by omega
 rw[lw,lv];have GW:∀ j,j<n->∃ b' o',A=some ⟨b',o',none⟩/\b'<w.heap.size/\w.cell? ⟨b',o'+j,none⟩=some (.int .i64 (atF xw j)):=fun j hj=>by
  obtain⟨b',o',x,h1,h2,h3,h4,_⟩:=rA.at (k:=j) (by omega);exact⟨b',o',h1,h2,by rw[h3];unfold atF;rw[getD_some h4.out]⟩
 have GV:∀ j,j<n->∃ b' o',B=some ⟨b',o',none⟩/\b'<w.heap.size/\w.cell? ⟨b',o'+j,none⟩=some (.int .i64 (atF xv j)):=fun j hj=>by
  obtain⟨b',o',x,h1,h2,h3,h4,_⟩:=rB.at (k:=j) (by omega);exact⟨b',o',h1,h2,by rw[h3];unfold atF;rw[getD_some h4.out]⟩
 have B1:Hid (Blk (w.alloc (.cells #[.int .i64 1,.int .i64 n,.int .i64 cap,.slice A n a,.slice B n b,.slice D co.length d] 25)) w.heap.size 25 #[.int .i64 1,.int .i64 n,.int .i64 cap,.slice A n a,.slice B n b,.slice D co.length d]):=.new rfl;have X0:Hid (Ext w (w.alloc (.cells #[.int .i64 1,.int .i64 n,.int .i64 cap,.slice A n a,.slice B n b,.slice D co.length d] 25))):=(Ext.rf _).alloc _;replace GW:=Hd GW;replace GV:=Hd GV;replace BW:=Hd BW;replace BV:=Hd BV;replace hP:=Hd hP;replace hcap:=Hd hcap;have nn0:((n:Int) != (n:Int))=false:=by simp
 clear hc ok rA rB okw okv lw lv;go_enter Tryz.func78,Tryz.ntmps78;go_wp2_with (fail);go_loopw [6,7,17] (fun v6 v7 v17 wr=>∃ k:Nat,v6=.int .i64 (Yn (atF xw) k m)/\v7=.int .i64 (Wn (atF xv) k m)/\v17=.int .i64 k/\k<=n/\Hid (Ext (w.alloc (.cells #[.int .i64 1,.int .i64 n,.int .i64 cap,.slice A n a,.slice B n b,.slice D co.length d] 25)) wr)) (fun _ _ v17 _=>n-(intOf v17).toNat)
 case atStart=>exact⟨0,rfl,rfl,rfl,by omega,Ext.rf _⟩
 case round =>
  obtain⟨wo,rfl⟩:∃ wo:World,wo=wr:=⟨_,rfl⟩;obtain⟨k,rfl,rfl,rfl,hk,X⟩:=hrel;have XW:=X0.out.tr X.out;have b1:=B1.out.ext X.out;have bw:=BW.out k hk;have bv:=BV.out k hk
  by_cases hlt:k<n
  ·obtain⟨b1',o1,rfl,z1,c1⟩:=GW.out k hlt
   obtain⟨b2',o2,rfl,z2,c2⟩:=GV.out k hlt;have k1:=Zc XW z1 c1;have k2:=Zc XW z2 c2;obtain⟨pb,po,x,rfl,_,cp,ex,_⟩:=(hP.out.ext XW).at (k:=k) (by rw[VQ];exact hlt);have t3:=b1.c3;have t4:=b1.c4;have e1:=Yf (atF xw) k m;have e2:=Ju (atF xv) k m;have ex':=ex.out;rw[Zes hlt] at ex';have q1:(k:Int)<(n:Int):=by omega
   have b3:=BW.out (k+1) (by omega);have b4:=BV.out (k+1) (by omega)
   cases hb:m.testBit k
   ·rw[hb] at ex' e1 e2
    simp only[Bool.false_eq_true,if_false,Int.add_zero] at ex' e1 e2;obtain rfl:x=0:=(Option.some.inj ex').symm;have HB:Hid (Yn (atF xw) (k+1) m=Yn (atF xw) k m/\Wn (atF xv) (k+1) m=Wn (atF xv) k m+atF xv k):=⟨e1,e2⟩;rw[e2] at b4;clear e1 e2 ex ex' b1 XW b3;generalize Yn (atF xw) k m=sw at *;generalize Wn (atF xv) k m=sv at *;generalize atF xv k=fv at *;have wv:IntKind.i64.wrap (sv+fv)=sv+fv:=IntWalk.i64_in _ (by omega);go_wp2_with (fail);go_roundw
    case rel=>exact⟨k+1,by rw[HB.out.1],by rw[HB.out.2],by go_num,by omega,X.out.tr (by(repeat (first | assumption | exact Ext.rf _ | apply Ext.drew | apply Ext.drewN | apply Ext.alloc)))⟩
    case measure=>simp[intOf];omega
   ·rw[hb] at ex' e1 e2
    simp only[if_true,Int.add_zero] at ex' e1 e2;obtain rfl:x=1:=(Option.some.inj ex').symm;have HB:Hid (Yn (atF xw) (k+1) m=Yn (atF xw) k m+atF xw k/\Wn (atF xv) (k+1) m=Wn (atF xv) k m):=⟨e1,e2⟩;rw[e1] at b3;clear e1 e2 ex ex' b1 XW b4;generalize Yn (atF xw) k m=sw at *;generalize Wn (atF xv) k m=sv at *;generalize atF xw k=fv at *;have wv:IntKind.i64.wrap (sw+fv)=sw+fv:=IntWalk.i64_in _ (by omega);go_wp2_with (fail);go_roundw
    case rel=>exact⟨k+1,by rw[HB.out.1],by rw[HB.out.2],by go_num,by omega,X.out.tr (by(repeat (first | assumption | exact Ext.rf _ | apply Ext.drew | apply Ext.drewN | apply Ext.alloc)))⟩
    case measure=>simp[intOf];omega
  ·obtain rfl:n=k:=by omega
   have t2:=b1.c2;have hq:¬cap<Yn (atF xw) n m:=by have:=hcap.out;omega
   replace XW:=Hd XW;clear b1 bw bv;go_wp2_with (fail);go_ret2;exact⟨rfl,XW.out.tr (by(repeat (first | assumption | exact Ext.rf _ | apply Ext.drew | apply Ext.drewN | apply Ext.alloc)))⟩
theorem Zet (i:InstP)(us:List Value)(P:Option Addr)(c m n:Nat)(w:World)(H:RInst w us i)(hc:Zh i=0)(hk:i.kind=1)(hn:i.n=n)(hP:RdI w P (xB m n))(hcap:Yn (atF i.weight) n m<=i.cap) :
  Calls Tryz.prog 41 #[.agg (List.toArray us),.slice P n c] w fun e w'=>e=.returned (.tuple #[.int .i64 (Wn (atF i.value) n m),.int .i64 0])/\Ext w w':=by
 have ok:=ZR hc hk;have CH:=fun(W:World) (x:Ext w W)=>YM i us W (H.ext x) (by have:=ok.w;have:=ok.n2;omega) (by have:=ok.v;have:=ok.n2;omega)
 have VK:=fun(W:World) (x:Ext w W)=>ZfT i us P c m n W (H.ext x) hc hk hn (hP.ext x) hcap
 rw[hc] at CH;clear ok hcap hP hc;obtain⟨kind,nn,cap,xw,xv,co⟩:=i;obtain⟨A,a,B,b,D,d,rfl,-,-,-⟩:=H;simp only at *;subst hk hn;generalize Wn (atF xv) n m=sv at *;have B1:Hid (Blk (w.alloc (.cells #[.int .i64 1,.int .i64 n,.int .i64 cap,.slice A xw.length a,.slice B xv.length b,.slice D co.length d] 25)) w.heap.size 25 #[.int .i64 1,.int .i64 n,.int .i64 cap,.slice A xw.length a,.slice B xv.length b,.slice D co.length d]):=.new rfl;replace CH:=Hd CH;replace VK:=Hd VK;go_enter Tryz.func41,Tryz.ntmps41;go_wp2_with (fail);refine(CH.out _ (by(repeat (first | assumption | exact Ext.rf _ | apply Ext.drew | apply Ext.drewN | apply Ext.alloc)))).mono ?_;rintro e w1 ⟨rfl,x1⟩;have X1:=Hd (Ext.tr (a:=w) (by(repeat (first | assumption | exact Ext.rf _ | apply Ext.drew | apply Ext.drewN | apply Ext.alloc))) x1);have b1:=B1.out.ext x1;have t0:=b1.c0;have t1:=b1.c1;have t2:=b1.c2;have t3:=b1.c3;have t4:=b1.c4;have t5:=b1.c5;clear x1 B1 b1;go_wp2_with (fail);refine(VK.out _ X1.out).mono ?_;rintro e w2 ⟨rfl,x2⟩;have X2:=Hd (X1.out.tr x2);clear x2 t0 t1 t2 t3 t4 t5;go_wp2_with (fail);go_ret2;exact⟨rfl,X2.out.tr (by(repeat (first | assumption | exact Ext.rf _ | apply Ext.drew | apply Ext.drewN | apply Ext.alloc)))⟩
theorem Zeu (i:InstP)(us:List Value)(w:World)(H:RInst w us i)(hc:Zh i=0)(hk:i.kind=1)(hn:i.n<=18) :
  Calls Tryz.prog 80 #[.agg (List.toArray us),.int .i64 1] w fun e w'=>e=.returned (.int .i64 0)/\Ext w w':=by
 have ok:=ZR hc hk;have CH:=fun(W:World) (x:Ext w W)=>YM i us W (H.ext x) (by have:=ok.w;have:=ok.n2;omega) (by have:=ok.v;have:=ok.n2;omega)
 rw[hc] at CH;clear ok hc;obtain⟨kind,nn,cap,xw,xv,co⟩:=i;obtain⟨A,a,B,b,D,d,rfl,-,-,-⟩:=H;simp only at *;subst hk;have B1:Hid (Blk (w.alloc (.cells #[.int .i64 1,.int .i64 nn,.int .i64 cap,.slice A xw.length a,.slice B xv.length b,.slice D co.length d] 25)) w.heap.size 25 #[.int .i64 1,.int .i64 nn,.int .i64 cap,.slice A xw.length a,.slice B xv.length b,.slice D co.length d]):=.new rfl;replace CH:=Hd CH;have hq:¬18<nn:=by omega
 go_enter Tryz.func80,Tryz.ntmps80;go_wp2_with (fail);refine(CH.out _ (by(repeat (first | assumption | exact Ext.rf _ | apply Ext.drew | apply Ext.drewN | apply Ext.alloc)))).mono ?_;rintro e w1 ⟨rfl,x1⟩;have X1:=Hd (Ext.tr (a:=w) (by(repeat (first | assumption | exact Ext.rf _ | apply Ext.drew | apply Ext.drewN | apply Ext.alloc))) x1);have b1:=Hd (B1.out.ext x1);have t0:=b1.out.c0;have t1:=b1.out.c1;clear x1 B1;go_wp2_with (fail);go_ret;exact⟨rfl,X1.out.tr (by(repeat (first | assumption | exact Ext.rf _ | apply Ext.drew | apply Ext.drewN | apply Ext.alloc)))⟩
theorem ZfU (i:InstP)(us:List Value)(P:Option Addr)(c m n:Nat)(w:World)(H:RInst w us i)(hc:Zh i=0)(hk:i.kind=1)(hn:i.n=n)(hP:RdI w P (xB m n))(hcap:Yn (atF i.weight) n m<=i.cap) :
  Calls Tryz.prog 83 #[.agg (List.toArray us),.slice P n c] w fun e w'=>e=.returned (.tuple #[.slice P n c,.int .i64 (Wn (atF i.value) n m),.int .i64 0])/\Ext w w':=by
 have VC:=fun(W:World) (x:Ext w W)=>Zet i us P c m n W (H.ext x) hc hk hn (hP.ext x) hcap
 obtain⟨kind,nn,cap,xw,xv,co⟩:=i;obtain⟨A,a,B,b,D,d,rfl,-,-,-⟩:=H;simp only at *;subst hn;generalize Wn (atF xv) n m=cc at *;replace VC:=Hd VC;clear hc hk hP hcap;go_enter Tryz.func83,Tryz.ntmps83;go_wp2_with (fail);refine(VC.out _ (by(repeat (first | assumption | exact Ext.rf _ | apply Ext.drew | apply Ext.drewN | apply Ext.alloc)))).mono ?_;rintro e w1 ⟨rfl,x1⟩;have X1:=Hd (Ext.tr (a:=w) (by(repeat (first | assumption | exact Ext.rf _ | apply Ext.drew | apply Ext.drewN | apply Ext.alloc))) x1);clear x1;go_wp2_with (fail);go_ret3;exact⟨rfl,X1.out.tr (by(repeat (first | assumption | exact Ext.rf _ | apply Ext.drew | apply Ext.drewN | apply Ext.alloc)))⟩
end Go.Proofs.YtmojhhlcocjoaaaGreatDoor
namespace Go.Proofs.YtmojhhlcocjoaaaGreatDoor
open Go
def Ya (a b:Nat) : Nat:=(BitVec.ofNat 64 a &&& ~~~ BitVec.ofNat 64 b).toNat
theorem Qy (a b:Nat) : Ya a b<18446744073709551616:=(BitVec.ofNat 64 a &&& ~~~ BitVec.ofNat 64 b).isLt
theorem Zag (a b:Nat)(ha:a<18446744073709551616)(hb:b<18446744073709551616) : bits .andNot .u64 (a:Int) (b:Int)=((Ya a b:Nat):Int):=by
 have h1:BitVec.ofInt 64 (a:Int)=BitVec.ofNat 64 a:=BitVec.ofInt_natCast ..;have h2:BitVec.ofInt 64 (b:Int)=BitVec.ofNat 64 b:=BitVec.ofInt_natCast ..;show IntKind.u64.wrap ((BitVec.ofInt 64 (a:Int) &&& ~~~ BitVec.ofInt 64 (b:Int)).toNat:Int)=_;rw[h1,h2,IntKind.wrap_u64];have:=Qy a b;unfold Ya at this ⊢;omega
theorem UQ {a b j:Nat}(ha:a<18446744073709551616) : (Ya a b).testBit j=(a.testBit j && !b.testBit j):=by
 unfold Ya;rw[BitVec.testBit_toNat,BitVec.getLsbD_and,BitVec.getLsbD_not,BitVec.getLsbD_ofNat,BitVec.getLsbD_ofNat]
 by_cases hj:j<64
 ·simp[hj]
 ·have:a.testBit j=false:=Nat.testBit_lt_two_pow (Nat.lt_of_lt_of_le ha (by
   have:2^64<=2^j:=Nat.pow_le_pow_right (by omega) (by omega);omega))
  simp[hj,this]
def Zf (m:Nat) : List Nat:=(List.range 64).filter fun j=>m.testBit j
theorem Z4 {m j:Nat} : j∈Zf m↔j<64/\m.testBit j=true:=by simp[Zf]
theorem Zw (m:Nat) : (Zf m).Pairwise (· < ·):=List.Pairwise.filter _ List.pairwise_lt_range
theorem Zev : Zf 0=[]:=by simp[Zf]
theorem Zg5 (m:Nat) : (Zf m).length<=64:=by
 have:=List.length_filter_le (fun j=>m.testBit j) (List.range 64)
 simpa [Zf] using this
theorem Zew {m:Nat}(h0:m≠0)(h:m<18446744073709551616) : (Zf m).head?=some (Lib.ctz 64 m):=by
 have hc:Lib.ctz 64 m=Lib.ctzFrom 64 m:=by unfold Lib.ctz;rw[if_neg h0]
 obtain⟨q,h1,h2⟩:=Lib.ctzFrom_spec 64 m (by omega) (by omega);rw[hc];generalize Lib.ctzFrom 64 m=k at *;have hbit:∀ j,m.testBit j=(decide (k<=j)&&(2*q+1).testBit (j-k)):=fun j=>by rw[h1,Nat.testBit_two_pow_mul]
 have e:List.range 64=List.range k++(k::(List.range (64-k-1)).map (· + (k+1))):=by
  have:List.range 64=List.range (k+((64-k-1)+1)):=by congr 1;omega
  rw[this,List.range_add,List.range_succ_eq_map];simp only[List.map_cons,List.map_map,Nat.add_zero]
  congr 2
  apply List.map_congr_left;intro a _;simp[Function.comp_def];omega
 have e1:(List.range k).filter (fun j=>m.testBit j)=[]:=by
  rw[List.filter_eq_nil_iff];intro j hj;have:=List.mem_range.1 hj;rw[hbit,decide_eq_false (by omega)];simp
 have e2:m.testBit k=true:=by
  rw[hbit,decide_eq_true (Nat.le_refl _),Nat.sub_self,Nat.testBit_zero];simp
 unfold Zf;rw[e,List.filter_append,e1,List.filter_cons,e2]
 rfl
theorem Zex {m x:Nat}{pre rest:List Nat}(h:m<18446744073709551616)(hx:Zf m=pre++x::rest) : Zf (Ya m (2^(x+1)-1))=rest:=by
 have hs:=Zw m;rw[hx] at hs;have h1:=List.pairwise_append.1 hs;have h2:=List.pairwise_cons.1 h1.2.1;have e:Zf (Ya m (2^(x+1)-1))=(Zf m).filter fun j=>decide (x<j):=by
  unfold Zf;rw[List.filter_filter];refine List.filter_congr fun j _=>?_
  rw[UQ h,Nat.testBit_two_pow_sub_one]
  by_cases hj:j<x+1
  ·have:¬x<j:=by omega
   simp[hj,this]
  ·have:x<j:=by omega
   simp[hj,this]
 rw[e,hx,List.filter_append,List.filter_cons,decide_eq_false (by omega),List.filter_eq_nil_iff.2 (fun j hj=>by
  have:=h1.2.2 j hj x (by simp);simp;omega),List.filter_eq_self.2 (fun j hj=>by
  have:=h2.1 j hj
  simpa using this)]
 rfl
def ZL (m i:Nat) : Nat:=Ya m (2^i)
theorem QY {m i j:Nat}(h:m<18446744073709551616) : (ZL m i).testBit j=(m.testBit j&&decide (i≠j)):=by
 unfold ZL;rw[UQ h,Nat.testBit_two_pow]
 by_cases hij:i=j<;>simp[hij]
theorem Qe {m i:Nat}(h:m<18446744073709551616) : Zf (ZL m i)=(Zf m).filter fun j=>decide (i≠j):=by
 unfold Zf;rw[List.filter_filter];refine List.filter_congr fun j _=>?_
 rw[QY h,Bool.and_comm]
theorem XR {n:Nat}(h:n<=64) : Zf (2^n-1)=List.range n:=by
 have e:List.range 64=List.range n++(List.range (64-n)).map (n + ·):=by
  rw[<-List.range_add]
  congr 1
  omega
 unfold Zf;rw[e,List.filter_append,List.filter_eq_self.2 (fun j hj=>by
  rw[Nat.testBit_two_pow_sub_one];simpa using hj),List.filter_eq_nil_iff.2 (fun j hj=>by
  obtain⟨a,_,rfl⟩:=List.mem_map.1 hj;rw[Nat.testBit_two_pow_sub_one];simp),List.append_nil]
def Zax : List Nat->Int
 | []=>-1
 | x::_=>(x:Int)
theorem Zh4 (m i:Nat) : (m / 2^i)%2=if m.testBit i=true then 1 else 0:=by
 rw[Nat.testBit_eq_decide_div_mod_eq];have:m / 2^i%2<2:=Nat.mod_lt _ (by omega)
 by_cases h:m / 2^i%2=1
 ·simp[h]
 ·have h0:m / 2^i%2=0:=by omega
  simp[h0]
end Go.Proofs.YtmojhhlcocjoaaaGreatDoor
namespace Go.Proofs.YtmojhhlcocjoaaaGreatDoor
open Go.RowKit Go.ChangeShapes Go.WideShapes Go.ChangeAt Go.Deep
def setV (m:Nat) : Value:=.agg #[.int .u64 m,.int .u64 0]
def Tab (w:World) : Prop:=TabAt 0 Lib.deBruijn64tab w
theorem Tab.ext {w w':World}(h:Tab w)(x:Ext w w') : Tab w':=fun j hj=>by
 have h1:=h j hj;have h2:(⟨0,j,none⟩:Addr).block<w.heap.size:=World.block_lt_of_cell? w _ h1;rw[x.cell h2];exact h1
theorem Zh5 (x k idx:Nat)(w:World)(hx0:((x:Int)==0)=false)
  (key:IntKind.u64.wrap (bits BinOp.and IntKind.u64 (x:Int) (IntKind.u64.wrap (-(x:Int)))*285870213051353865) / 288230376151711744=(idx:Int))
  (hi:idx<64) (hk:k<64) (hcell:w.cell? ⟨0,idx,none⟩=some (.int .u8 k)) :
  Calls Tryz.prog 170 #[.int .u64 x] w fun e w'=>e=.returned (.int .i64 k)/\Ext w w':=by
 go_enter Tryz.func170,Tryz.ntmps170;go_wp2_with (simp only[key]);go_ret;exact⟨rfl,Ext.rf _⟩
theorem ZiU (x:Nat)(hx:x<18446744073709551616)(hx0:x≠0)(w:World)(hT:Tab w) :
  Calls Tryz.prog 170 #[.int .u64 x] w fun e w'=>e=.returned (.int .i64 (Lib.ctz 64 x))/\Ext w w':=by
 obtain⟨hlow,hk⟩:=Lib.lowest_bit 64 x hx0 hx;obtain⟨hi,htab⟩:=Lib.deBruijn64_at _ hk;have hcell:=hT _ hi;rw[htab] at hcell;exact Zh5 x _ _ w (by simp;omega) (tz64_key x _ hx hx0 hlow) hi hk hcell
theorem Zey (i:Int)(w:World) : Calls Tryz.prog 169 #[.int .i64 i] w fun e w'=>e=.returned (.bool (decide (0<=i)&&decide (i<128)))/\Ext w w':=by
 by_cases h0:0<=i
 ·have hb:decide (0<=i)=true:=decide_eq_true h0
  go_enter Tryz.func169,Tryz.ntmps169;go_wp2;go_ret;exact⟨by simp[hb],Ext.rf _⟩
 ·have hb:decide (0<=i)=false:=decide_eq_false h0
  go_enter Tryz.func169,Tryz.ntmps169;go_wp2;go_ret;exact⟨by simp[hb],Ext.rf _⟩
theorem ZfV (a b:Nat)(ha:a<18446744073709551616)(hb:b<18446744073709551616)(w:World) : Calls Tryz.prog 171 #[setV a,setV b] w fun e w'=>e=.returned (setV (Ya a b))/\Ext w w':=by
 have k:=Zag a b ha hb;have k0:bits .andNot .u64 0 0=0:=by decide +kernel
 clear ha hb;unfold setV;go_enter Tryz.func171,Tryz.ntmps171;go_wp2;refine bodyPost_ret (v:=.agg #[.int .u64 (Ya a b),.int .u64 0]) (by simp[results,Tryz.results171,go_sem]) rfl ⟨rfl,?_⟩
 repeat (first | exact Ext.rf _ | apply Ext.alloc | (refine Ext.setNew ?_ (by simp<;>omega) _))
theorem Zg6 (i:Nat)(hi:i<64) : IntKind.u64.wrap ((2:Int)^i)=((2^i:Nat):Int):=by
 have h1:2^i<2^64:=Nat.pow_lt_pow_right (by omega) hi;have e2:((2:Int)^i)=((2^i:Nat):Int):=by rw[Int.natCast_pow];rfl
 rw[IntKind.wrap_u64,e2];generalize 2^i=p at *;omega
theorem Zbq (m:Nat)(hm:m<18446744073709551616)(w:World)(hT:Tab w) : Calls Tryz.prog 141 #[setV m] w fun e w'=>e=.returned (.int .i64 (Zax (Zf m)))/\Ext w w':=by
 unfold setV
 by_cases h0:m=0
 ·subst h0
  rw[Zev];clear hT hm;have i0:∀ W,(Instr.index 141 (.agg #[.int .u64 0,.int .u64 0]) (.int .i64 0)).run Tryz.prog W=.ok (.int .u64 0) W:=fun _=>by kernel_rfl
  have i1:∀ W,(Instr.index 141 (.agg #[.int .u64 0,.int .u64 0]) (.int .i64 1)).run Tryz.prog W=.ok (.int .u64 0) W:=fun _=>by kernel_rfl
  go_enter Tryz.func141,Tryz.ntmps141;go_wp2_with (fail);go_loopw [6] (fun v wr=>(v=.int .i64 0\/v=.int .i64 1\/v=.int .i64 2)/\Ext w wr) (fun v _=>2-(intOf v).toNat)
  case atStart=>exact⟨.inl rfl,by(repeat (first | assumption | exact Ext.rf _ | apply Ext.drew | apply Ext.drewN | apply Ext.alloc))⟩
  case round =>
   obtain⟨h3,Y⟩:=hrel;rcases h3 with rfl | rfl | rfl
   ·go_wp2_with (fail)
    go_roundw
    case rel=>exact⟨.inr (.inl rfl),Y⟩
    case measure=>simp[intOf]
   ·go_wp2_with (fail)
    go_roundw
    case rel=>exact⟨.inr (.inr rfl),Y⟩
    case measure=>simp[intOf]
   ·go_wp2_with (fail)
    go_ret;exact⟨rfl,Y⟩
 ·have hh:=Zew h0 hm
  have eh:Zax (Zf m)=(Lib.ctz 64 m:Int):=by
   cases hl:Zf m with
   | nil=>rw[hl] at hh;cases hh
   | cons a l=>rw[hl] at hh;simp at hh;rw[<-hh];rfl
  rw[eh];have TZ:=Hd (fun(W:World) (x:Ext w W)=>ZiU m hm h0 W (hT.ext x));have hk:=(Lib.lowest_bit 64 m h0 hm).2;have hne:((m:Int) != 0)=true:=by simp;omega
  have i0:∀ W,(Instr.index 141 (.agg #[.int .u64 m,.int .u64 0]) (.int .i64 0)).run Tryz.prog W=.ok (.int .u64 m) W:=fun _=>by kernel_rfl
  have hwp:IntKind.i64.wrap (0+(Lib.ctz 64 m:Int))=(Lib.ctz 64 m:Int):=by rw[Int.zero_add];exact IntWalk.i64_in _ (by omega)
  generalize Lib.ctz 64 m=z at *;clear hh eh h0 hT;go_enter Tryz.func141,Tryz.ntmps141;go_wp2_with (fail);go_loopw [6] (fun v wr=>v=.int .i64 0/\Ext w wr) (fun _ _=>0)
  case atStart=>exact⟨rfl,by(repeat (first | assumption | exact Ext.rf _ | apply Ext.drew | apply Ext.drewN | apply Ext.alloc))⟩
  case round =>
   obtain⟨rfl,Y⟩:=hrel;go_wp2_with (fail);refine(TZ.out _ Y).mono ?_;rintro e w2 ⟨rfl,x2⟩;go_wp2_with (fail);go_ret;exact⟨rfl,Y.tr x2⟩
theorem Zi8 (n:Nat)(h:n<64) : IntKind.u64.wrap (IntKind.u64.wrap (2^n)-1)=((2^n-1:Nat):Int):=by
 have h1:2^n<2^64:=Nat.pow_lt_pow_right (by omega) h;have h2:0<2^n:=Nat.pow_pos (by omega);have e:((2:Int)^n)=((2^n:Nat):Int):=by rw[Int.natCast_pow];rfl
 rw[IntKind.wrap_u64,IntKind.wrap_u64,e];omega
theorem Zc4 (n:Nat)(hn:n<64)(w:World) : Calls Tryz.prog 134 #[.int .i64 n] w fun e w'=>e=.returned (setV (2^n-1))/\Ext w w':=by
 unfold setV;have FW:=Zi8 n hn;have F0:n=0->2^n-1=0:=fun h=>by subst h;rfl
 generalize 2^n-1=fm at *;replace F0:=Hd F0;have B2:Blk ((w.alloc (.cells #[.int .u64 0,.int .u64 0] 141)).alloc (.cells #[.int .u64 0,.int .u64 0] 141)) (w.heap.size+1) 141 #[.int .u64 0,.int .u64 0]:=.new (by simp);have B1:Blk ((w.alloc (.cells #[.int .u64 0,.int .u64 0] 141)).alloc (.cells #[.int .u64 0,.int .u64 0] 141)) w.heap.size 141 #[.int .u64 0,.int .u64 0]:=.alloc (.new rfl) _;have X0:Ext w ((w.alloc (.cells #[.int .u64 0,.int .u64 0] 141)).alloc (.cells #[.int .u64 0,.int .u64 0] 141)):=((Ext.rf w).alloc _).alloc _;go_enter Tryz.func134,Tryz.ntmps134;go_wp2_with (fail);go_loopw [6] (fun v wr=>∃ k:Nat,v=.int .i64 k/\k<=2/\Hid (Ext w wr)/\Hid (Blk wr w.heap.size 141 #[.int .u64 0,.int .u64 0])/\Hid (Blk wr (w.heap.size+1) 141 #[.int .u64 (if k=0 then 0 else(fm:Int)),.int .u64 0])) (fun v _=>2-(intOf v).toNat)
 case atStart=>exact⟨0,rfl,by omega,X0,B1,B2⟩
 case round =>
  obtain⟨k,rfl,hk,Y,C1,C2⟩:=hrel;have h3:k=0\/k=1\/k=2:=by omega
  rcases h3 with rfl | rfl | rfl
  ·have c0:wr.cell? ⟨w.heap.size+1,0,none⟩=some (.int .u64 0):=C2.out.cell 0
   have f0:=C2.out.free 0
   by_cases hn0:n=0
   ·obtain rfl:fm=0:=F0.out hn0
    subst hn0;go_wp2_with (fail);go_roundw
    case rel=>exact⟨1,rfl,by omega,Y,C1,C2⟩
    case measure=>simp[intOf]
   ·have hn1:0<n:=by omega
    have C3:=Hd (C2.out.set 0 (.int .u64 (fm:Int)));have C4:=Hd (C1.out.far (p:=⟨w.heap.size+1,0,none⟩) (by simp) (.int .u64 (fm:Int)));have Y4:=Hd (Y.out.setNew (p:=⟨w.heap.size+1,0,none⟩) (by simp) (.int .u64 (fm:Int)));go_wp2_with (fail);go_roundw
    case rel=>exact⟨1,rfl,by omega,Y4,C4,C3⟩
    case measure=>simp[intOf]
  ·go_wp2_with (fail)
   go_roundw
   case rel=>exact⟨2,rfl,by omega,Y,C1,C2⟩
   case measure=>simp[intOf]
  ·have c0:wr.cell? ⟨w.heap.size+1,0,none⟩=some (.int .u64 (fm:Int)):=C2.out.cell 0
   have c1:=C2.out.c1;have r0:=C1.out.c0;have r1:=C1.out.c1;have f0:=C1.out.free 0;have f1:=C1.out.free 1;go_wp2_with (fail);refine bodyPost_ret (v:=.agg #[.int .u64 (fm:Int),.int .u64 0]) (by simp[results,Tryz.results134,go_sem, *]) rfl ⟨rfl,?_⟩;exact(Y.out.setNew (p:=⟨w.heap.size,0,none⟩) (by simp) _).setNew (p:=⟨w.heap.size,1,none⟩) (by simp) _
open Go.RowKit Go.ChangeShapes Go.WideShapes Go.ChangeAt Go.Deep Go.Shelf
attribute [local go_sem] Oper.semAt_some
theorem Zg7 (m x:Nat)(hm:m<18446744073709551616)(hx:x<63)(w:World)(hT:Tab w) :
  Calls Tryz.prog 142 #[setV m,.int .i64 x] w fun e w'=>e=.returned (.int .i64 (Zax (Zf (Ya m (2^(x+1)-1)))))/\Ext w w':=by
 have FU:Hid (∀ W:World,Calls Tryz.prog 134 #[.int .i64 ((x:Int)+1)] W fun e w'=>e=.returned (setV (2^(x+1)-1))/\Ext W w'):=fun W=>by
  have h:=Zc4 (x+1) (by omega) W;have e:((x+1:Nat):Int)=(x:Int)+1:=by omega
  rw[e] at h;exact h
 have hf:2^(x+1)-1<18446744073709551616:=by
  have:2^(x+1)<2^64:=Nat.pow_lt_pow_right (by omega) (by omega);omega
 have MI:=Hd (fun(W:World)=>ZfV m (2^(x+1)-1) hm hf W);have FI:=Hd (fun(W:World) (y:Ext w W)=>Zbq (Ya m (2^(x+1)-1)) (Qy _ _) W (hT.ext y));clear hT hf hm;generalize Zax (Zf (Ya m (2^(x+1)-1)))=r at *;generalize Ya m (2^(x+1)-1)=z at *;generalize 2^(x+1)-1=f at *;unfold setV at *;have hq1:(if (x:Int) < -1 then(-1:Int) else(x:Int))=(x:Int):=if_neg (by omega);have hq2:IntKind.i64.wrap ((x:Int)+1)=(x:Int)+1:=IntWalk.i64_in _ (by omega);have B1:Blk (w.alloc (.cells #[.int .u64 m,.int .u64 0] 141)) w.heap.size 141 #[.int .u64 m,.int .u64 0]:=.new rfl;have X0:Ext w (w.alloc (.cells #[.int .u64 m,.int .u64 0] 141)):=(Ext.rf w).alloc _;go_enter Tryz.func142,Tryz.ntmps142;go_upto_region 3 with(fail);generalize w.alloc (.cells #[.int .u64 m,.int .u64 0] 141)=w1 at *;refine wp_region_any (by kernel_rfl) ?_
 change wpAny _ _ _ _ _ _ _ (World.drew _)
 refine Zb (i:=1) (op:=Op.move (Operand.tmp 1)) (t:=3) (d:=some 8) (v:=?_) rfl (by decide +kernel) (by decide +kernel) (by decide +kernel) (fun _ _ _ h=>h) ?_ ?_
 case refine_2=>(intro _;unfold Ze;go_simp;try with_reducible rfl)
 try simp only[lay]
 refine Zb (i:=2) (op:=Op.call { callee:=Callee.builtin Builtin.max,args:=#[Operand.tmp 8,Operand.const (Value.int IntKind.i64 (-1))],argTypes:=#[3,3] }) (t:=3) (d:=some 9) (v:=?_) rfl (by decide +kernel) (by decide +kernel) (by decide +kernel) (fun _ _ _ h=>h) ?_ ?_
 case refine_2=>(intro _;unfold Ze;go_simp;try with_reducible rfl)
 try simp only[lay]
 refine Zb (i:=3) (op:=Op.binOp BinOp.add 3 (Operand.tmp 9) (Operand.const (Value.int IntKind.i64 1)) 3) (t:=3) (d:=some 10) (v:=?_) rfl (by decide +kernel) (by decide +kernel) (by decide +kernel) (fun _ _ _ h=>h) ?_ ?_
 case refine_2=>(intro _;unfold Ze;go_simp;try with_reducible rfl)
 try simp only[lay]
 refine Yu (n:=3) [(0,some 7),(4,some 11)] (Ext w1)
  (VF (fun | 0=>some (.agg #[.int .u64 m,.int .u64 0]) | 4=>some (.agg #[.int .u64 f,.int .u64 0]) | _=>none) (fun _ _ _=>True))
  Ext #[true,true,true,true,true,false,false,false] (by kernel_rfl) (VF.stab ?_) ?_ ?_ ((Ext.rf _).drew)
 ·intro j v W W' _ h _
  exact h
 ·intro pq hpm u W hRW hD K hK
  have c0:W.cell? ⟨w.heap.size,0,none⟩=some (.int .u64 m):=(B1.ext hRW).cell 0;have c1:W.cell? ⟨w.heap.size,1,none⟩=some (.int .u64 0):=(B1.ext hRW).cell 1;simp only[List.mem_cons,List.not_mem_nil,or_false] at hpm;rcases hpm with rfl | rfl
  ·exact Zy (T:=141) rfl (.pointer (some ⟨w.heap.size,0,none⟩)) (by kernel_rfl) (.agg #[.int .u64 m,.int .u64 0]) (by go_simp) (hK _ _ (VF.mk rfl) hRW (Ext.rf _))
  ·refine Ym rfl #[.int .i64 ((x:Int)+1)] (by go_simp) (by kernel_rfl) _ (FU.out W) ?_
   rintro e w3 ⟨rfl,x3⟩;exact⟨_,rfl,hK _ _ (VF.mk rfl) (hRW.tr x3) x3⟩
 ·intro u W hRW hV
  have h0:=(hV (0,some 7) (by simp)).k rfl;have h4:=(hV (4,some 11) (by simp)).k rfl;simp only[Zn,h0,h4];have XW:=X0.tr hRW
  try simp only[lay]
  refine Zm 5 (by decide +kernel) (Ym (f:=171) (xs:=#[Operand.tmp 7,Operand.tmp 11]) (ts:=#[141,141]) (t:=141) (d:=some 12) rfl #[.agg #[.int .u64 m,.int .u64 0],.agg #[.int .u64 f,.int .u64 0]] (by go_simp) (by kernel_rfl) _ (MI.out W) ?_);rintro e w3 ⟨rfl,x3⟩;refine⟨_,rfl,?_⟩
  try simp only[lay]
  refine Zm 6 (by decide +kernel) (Ym (f:=141) (xs:=#[Operand.tmp 12]) (ts:=#[141]) (t:=3) (d:=some 13) rfl #[.agg #[.int .u64 z,.int .u64 0]] (by go_simp) (by kernel_rfl) _ (FI.out w3 (XW.tr x3)) ?_);rintro e w4 ⟨rfl,x4⟩;refine⟨_,rfl,?_⟩
  try simp only[lay]
  refine Zb (i:=7) (op:=Op.assign (Operand.tmp 13)) (t:=3) (d:=some 4) (v:=?_) rfl (by decide +kernel) (by decide +kernel) (by decide +kernel) (fun _ _ _ h=>h) ?_ ?_
  case refine_2=>(intro _;unfold Ze;go_simp;try with_reducible rfl)
  try simp only[lay]
  refine wpAny_done (by kernel_rfl) ?_ _;have X4:=Hd ((XW.tr x3).tr x4);clear XW x3 x4 hRW hV h0 h4;go_simp;go_wp2_with (fail);go_ret;exact⟨rfl,X4.out⟩
theorem Zh6 (m:Nat)(w:World) : Calls Tryz.prog 88 #[setV m] w fun e w'=>e=.returned (.func (.func 140) #[] #[.pointer (some ⟨w.heap.size,0,none⟩)])/\w'=w.alloc (.cells #[.int .u64 m,.int .u64 0] 141):=by
 unfold setV;go_enter Tryz.func88,Tryz.ntmps88;go_wp2_with (fail);go_ret;exact⟨rfl,rfl⟩
abbrev In (m:Nat) : Type:={ x:Nat // x∈Zf m }
theorem In.lt {m:Nat}(x:In m) : x.1<64:=(Z4.1 x.2).1
def SetKp (n₀ Bn:Nat)(W W':World) : Prop:=Below n₀ W W'/\W'.heap[Bn]?=W.heap[Bn]?
theorem SetKp.tr {n₀ Bn:Nat}{A B C:World}(h:SetKp n₀ Bn A B)(k:SetKp n₀ Bn B C) : SetKp n₀ Bn A C:=⟨h.1.trans k.1,k.2.trans h.2⟩
theorem QZ {W W':World}(x:Ext W W') : W.grownBy W' none:=⟨x.os,x.tape,x.output,x.size,fun k hk _=>x.block k hk⟩
theorem Zay (x:Nat)(l:List Nat) : Zax (x::l)=(x:Int):=rfl
theorem Zh7 (n:Nat)(m:Nat)(hm:m<18446744073709551616)(l Bn n₀:Nat)(J Jx:List (In m)->World->Prop)(W:World)(hJ:AbidesFrom W.heap.size J)
  (hY:∀ pre x W1,J pre W1->pre.length<(Zf m).length->YieldAt Fence.wide (n-1) Tryz.prog l #[.int .i64 ((x:In m).1:Nat)] W1 fun e W' =>
   (e=.returned (.bool true)/\J (pre++[x]) W'/\SetKp n₀ Bn W1 W')\/(e=.returned (.bool false)/\Jx (pre++[x]) W'))
  (hB:Blk W Bn 141 #[.int .u64 m,.int .u64 0]) (hT:Tab W) (hT0:∀ j,j<Lib.deBruijn64tab.length->0<n₀) (hn₀:n₀<=W.heap.size) (h0:J [] W) (h63:∀ x∈Zf m,x<63) :
  CallsIn Fence.wide n Tryz.prog 140 #[.func (.yield l) #[] #[],.pointer (some ⟨Bn,0,none⟩)] W fun e W'=>(∃ v,e=.returned v) /\
   ((∃ ys,ys=(Zf m).attach/\J ys W')\/(∃ pre,pre <+: (Zf m).attach/\Jx pre W')):=by
 have key:∀ (W1:World),Below n₀ W W1->Tab W1:=fun W1 hb j hj=>by
  rw[hb.cell (p:=⟨0,j,none⟩) (hT0 j hj)];exact hT j hj
 refine callsIn_of_wp Tryz.func140 rfl trivial ?_ rfl;simp only[Tryz.ntmps140,List.size_toArray,List.length_cons,List.length_nil,Nat.reduceAdd,Nat.reduceSub,Array.replicate_succ,Array.replicate_zero,List.push_toArray,List.append_toArray,List.nil_append,List.cons_append];have c0:=hB.c0;have c1:=hB.c1;have FI:=Hd (Zbq m hm W hT);unfold setV at FI
 gi_wp2
 refine⟨trivial,fun h=>(by cases h),?_⟩;refine(callsIn_wide.2 FI.out).mono ?_;rintro e w1 ⟨rfl,x1⟩;have h1:J [] w1:=hJ [] W w1 none h0 (QZ x1) (fun r h=>by cases h);have b1:=hB.ext x1;have k1:Below n₀ W w1:=x1.mono hn₀
 gi_wp2
 gi_loopw [3] (fun p wr=>∃ (pre rest:List (In m)),p=.int .i64 (Zax (rest.map (·.1)))/\Hid ((Zf m).attach=pre++rest)/\Hid (J pre wr)/\Hid (Blk wr Bn 141 #[.int .u64 m,.int .u64 0])/\Hid (Below n₀ W wr)/\Hid (W.heap.size<=wr.heap.size)) (fun p _=>((65-intOf p)%66).toNat)
 case atStart=>exact⟨[],(Zf m).attach,by rw[List.attach_map_subtype_val],rfl,h1,b1,k1,x1.size⟩
 case round =>
  obtain⟨pre,rest,rfl,hx,hJ1,hB1,hk,hz⟩:=hrel;have hval:Zf m=(pre++rest).map (·.1):=by rw[<-hx.out,List.attach_map_subtype_val]
  cases rest with
  | nil =>
   gi_wp2
   go_end0;exact⟨⟨_,rfl⟩,.inl ⟨pre,by rw[hx.out,List.append_nil],hJ1.out⟩⟩
  | cons x rest =>
   have hlen:pre.length<(Zf m).length:=by rw[hval];simp
   obtain⟨fn,tmps,assign,body,hy,hR⟩:=hY pre x wr hJ1.out hlen;have hx64:=h63 x.1 x.2;have hnx:Zf m=pre.map (·.1)++x.1::rest.map (·.1):=hval.trans (by simp);have NX:=fun(V:World) (hT':Tab V)=>Zg7 m x.1 hm hx64 V hT'
   rw[Zex hm hnx] at NX;have hpre:pre++[x] <+: (Zf m).attach:=⟨rest,by rw[hx.out];simp⟩;have hx2:Hid ((Zf m).attach=(pre++[x])++rest):=Hd (by rw[hx.out];simp);have hsort:=Zw m;rw[hnx] at hsort;have hlt:∀ y∈rest.map (·.1),x.1<y:=(List.pairwise_cons.1 (List.pairwise_append.1 hsort).2.1).1;obtain⟨nx,hnxt⟩:∃ nx,Hid (Zax (rest.map (·.1))=nx):=⟨_,rfl⟩;have hms:nx=-1\/((x.1:Int)<nx/\nx<=63):=by
    rw[<-hnxt.out]
    cases rest with
    | nil=>left;rfl
    | cons y l=>right;have h1:=hlt y.1 (by simp);have h2:=y.lt;simp only[List.map_cons,Zay];omega
   rw[hnxt.out] at NX;replace NX:=Hd NX;unfold setV at NX;simp only[List.map_cons,Zay];replace hpre:=Hd hpre;clear hval hnx hsort hlt hlen;have B1':=hB1.out
   gi_wp2
   refine⟨fun h=>(by cases h),?_⟩;refine hR.mono ?_;rintro e W3 (⟨rfl,hJ3,hk3⟩ | ⟨rfl,hJx3⟩)
   ·have b3:Blk W3 Bn 141 #[.int .u64 m,.int .u64 0]:=hk3.2.trans B1'
    have kb3:=hk.out.trans hk3.1;have c0':=b3.c0;have c1':=b3.c1;have NX3:=Hd (NX.out W3 (key W3 kb3))
    gi_wp2
    refine⟨trivial,fun h=>(by cases h),?_⟩;refine(callsIn_wide.2 NX3.out).mono ?_;rintro e w4 ⟨rfl,x4⟩;have z3:=hk3.1.size;have hJ4:=hJ (pre++[x]) W3 w4 none hJ3 (QZ x4) (fun r h=>by cases h)
    gi_wp2
    go_roundw
    case rel=>exact⟨pre++[x],rest,by rw[hnxt.out],hx2,hJ4,b3.ext x4,kb3.trans (x4.mono (by have:=hz.out;omega)),by have:=hz.out;have:=x4.size;exact(by omega:W.heap.size<=w4.heap.size)⟩
    case measure =>
     simp only[intOf];have q1:=hms;have q2:=hx64;omega
   ·gi_wp2
    refine bodyPost_ret (results_none rfl _ _ _) rfl ?_;exact⟨⟨_,rfl⟩,.inr ⟨pre++[x],hpre.out,hJx3⟩⟩
theorem Zh8 {w:World}(h:Tab w) : 0<w.heap.size:=World.block_lt_of_cell? w _ (h 0 (by decide))
theorem ZfW (n:Nat)(m:Nat)(hm:m<18446744073709551616)(h63:∀ x∈Zf m,x<63)(Bn n₀:Nat)(w:World)(hB:Blk w Bn 141 #[.int .u64 m,.int .u64 0])(hT:Tab w)(hn₀:n₀<=w.heap.size)(hg:0<n₀) :
  SeqStopsK Fence.wide n Tryz.prog 140 #[.pointer (some ⟨Bn,0,none⟩)] (fun x:In m=>#[Value.int .i64 ((x.1:Nat):Int)]) (SetKp n₀ Bn) (fun ys=>ys=(Zf m).attach) (fun pre=>pre <+: (Zf m).attach) (Zf m).length w:=fun l J Jx W hW hJ _ hY h0 =>
 Zh7 n m hm l Bn n₀ J Jx W hJ hY (hB.ext hW) (hT.ext hW) (fun _ _=>hg) (Nat.le_trans hn₀ hW.size) h0 h63
theorem Zh9 {n₀ Bn:Nat}{w:World}{cs:Array Value}(hn:n₀<=w.heap.size)(hB:Blk w Bn 141 cs)(W:World)(l:Nat)(o o':Obj)(hl:w.heap.size<=l)(h:W.heap[l]?=some o)(h1:o.isCells=false)(h2:o.isWalk=false) : SetKp n₀ Bn W (W.putObj l o') :=
 ⟨belowK_b hn W l o o' hl h h1 h2,World.putObj_heap_other (by have:=hB.lt;omega)⟩
end Go.Proofs.YtmojhhlcocjoaaaGreatDoor
namespace Go.Proofs.YtmojhhlcocjoaaaGreatDoor
open Go.RowKit Go.ChangeShapes Go.WideShapes Go.ChangeAt Go.Deep Go.Shelf
attribute [local go_sem] Oper.semAt_some
def inL {m:Nat}(pre:List (In m)) : List Nat:=pre.map (·.1)
theorem Zg8 {m:Nat}(pre:List (In m))(x:In m) : inL (pre++[x])=inL pre++[x.1]:=by simp[inL]
theorem Zez (m:Nat) : inL (Zf m).attach=Zf m:=List.attach_map_subtype_val _
end Go.Proofs.YtmojhhlcocjoaaaGreatDoor
namespace Go.Proofs.YtmojhhlcocjoaaaGreatDoor
open Go.RowKit Go.ChangeShapes Go.WideShapes Go.ChangeAt Go.Deep Go.Shelf
attribute [local go_sem] Oper.semAt_some
theorem Zc5 {β:Type}{k B:Nat}(hk:k<B)(t:TypeId)(cs:β->Array Value) : OwnFrom B (fun s W=>Blk W k t (cs s)):=fun s W W' row hs hg hr =>
 (hg.block k hs.lt (fun e=>by obtain⟨h1,_⟩:=hr _ e.symm;omega)).trans hs
def Held (w0:World)(sb:Nat)(w:World) : Prop:=w0.heap.size<=w.heap.size/\∀ b,b<w0.heap.size->b≠sb->w.heap[b]?=w0.heap[b]?
theorem Held.blk {w0 w:World}{sb g:Nat}{t:TypeId}{cs:Array Value}(h:Held w0 sb w)(hb:Blk w0 g t cs)(hne:g≠sb) : Blk w g t cs:=(h.2 g hb.lt hne).trans hb
theorem Held.set {w0 w:World}{sb:Nat}(h:Held w0 sb w)(u:Value) : Held w0 sb (w.setCell ⟨sb,0,none⟩ u):=⟨by simp;exact h.1,fun b h1 h2=>(Below.heap_setCell w ⟨sb,0,none⟩ u b h2).trans (h.2 b h1 h2)⟩
theorem Held.ext {w0 w w':World}{sb:Nat}(h:Held w0 sb w)(x:Ext w w') : Held w0 sb w':=⟨Nat.le_trans h.1 x.size,fun b h1 h2=>(x.block b (Nat.lt_of_lt_of_le h1 h.1)).trans (h.2 b h1 h2)⟩
theorem Zcm {β:Type}{w0:World}{B sb:Nat}(hB:w0.heap.size<=B) : OwnFrom B (fun(_:β) W=>Held w0 sb W):=fun _ W W' row hs hg hr =>
 ⟨Nat.le_trans hs.1 hg.size,fun b h1 h2=>(hg.block b (Nat.lt_of_lt_of_le h1 hs.1) (fun e=>by have:=(hr b e.symm).1;omega)).trans (hs.2 b h1 h2)⟩
theorem KeepsFrom.of_ext {B:Nat}{W W':World}(x:Ext W W') : KeepsFrom B W W':=⟨x.size,fun k _ _ hk _=>(x.block k (Array.getElem?_eq_some_iff.1 hk).1).trans hk⟩
end Go.Proofs.YtmojhhlcocjoaaaGreatDoor
namespace Go.Proofs.YtmojhhlcocjoaaaGreatDoor
open Go.RowKit Go.ChangeShapes Go.WideShapes Go.ChangeAt Go.Deep
theorem Zc6 (k n cap:Int)(a b c:Value)(w:World)(h:Z3 k n≠0) :
  Calls Tryz.prog 53 #[.agg #[.int .i64 k,.int .i64 n,.int .i64 cap,a,b,c]] w fun e w'=>e=.returned (.int .i64 (Z3 k n))/\Ext w w':=by
 by_cases k0:k<1
 ·have hs:Hid (Z3 k n=14):=by
   have h:Z3 k n=14:=by unfold Z3;rw[if_neg (by omega),if_neg (by omega),if_neg (by omega)]
   exact h
  clear h;go_enter Tryz.func53,Tryz.ntmps53;go_wp2;go_ret;exact⟨ZM hs.out.symm,by(repeat (first | assumption | exact Ext.rf _ | apply Ext.drew | apply Ext.drewN | apply Ext.alloc))⟩
 ·by_cases k3:3<k
  ·have hs:Hid (Z3 k n=14):=by
    have h:Z3 k n=14:=by unfold Z3;rw[if_neg (by omega),if_neg (by omega),if_neg (by omega)]
    exact h
   clear h;go_enter Tryz.func53,Tryz.ntmps53;go_wp2;go_ret;exact⟨ZM hs.out.symm,by(repeat (first | assumption | exact Ext.rf _ | apply Ext.drew | apply Ext.drewN | apply Ext.alloc))⟩
  ·by_cases n1:n<1
   ·have hs:Hid (Z3 k n=1):=by
     have h:Z3 k n=1:=by
      unfold Z3
      by_cases a1:k=1
      ·rw[if_pos a1,if_pos n1]
      ·rw[if_neg a1]
       by_cases a2:k=2
       ·rw[if_pos a2,if_pos n1]
       ·rw[if_neg a2,if_pos (by omega),if_pos n1]
     exact h
    clear h;go_enter Tryz.func53,Tryz.ntmps53;go_wp2;go_ret;exact⟨ZM hs.out.symm,by(repeat (first | assumption | exact Ext.rf _ | apply Ext.drew | apply Ext.drewN | apply Ext.alloc))⟩
   ·by_cases a1:k=1
    ·subst a1
     have n64:64<n:=by
      unfold Z3 at h;rw[if_pos rfl,if_neg n1] at h
      by_cases h2:64<n
      ·exact h2
      ·rw[if_neg h2] at h;exact absurd rfl h
     have hs:Hid (Z3 1 n=5):=Hd (by unfold Z3;rw[if_pos rfl,if_neg n1,if_pos n64]);clear h;go_enter Tryz.func53,Tryz.ntmps53;go_wp2;go_ret;exact⟨ZM hs.out.symm,by(repeat (first | assumption | exact Ext.rf _ | apply Ext.drew | apply Ext.drewN | apply Ext.alloc))⟩
    ·have n24:24<n:=by
      unfold Z3 at h;rw[if_neg a1] at h
      by_cases a2:k=2
      ·rw[if_pos a2,if_neg n1] at h
       by_cases h2:24<n
       ·exact h2
       ·rw[if_neg h2] at h;exact absurd rfl h
      ·rw[if_neg a2,if_pos (by omega),if_neg n1] at h
       by_cases h2:24<n
       ·exact h2
       ·rw[if_neg h2] at h;exact absurd rfl h
     have hs:Hid (Z3 k n=5):=Hd (by
      unfold Z3;rw[if_neg a1]
      by_cases a2:k=2
      ·rw[if_pos a2,if_neg n1,if_pos n24]
      ·rw[if_neg a2,if_pos (by omega),if_neg n1,if_pos n24])
     have a1':(k==1)=false:=by simpa using a1
     clear h a1;have k1:1<k:=by
      have:k≠1:=by simpa using a1'
      omega
     go_enter Tryz.func53,Tryz.ntmps53;go_wp2;go_ret;exact⟨ZM hs.out.symm,by(repeat (first | assumption | exact Ext.rf _ | apply Ext.drew | apply Ext.drewN | apply Ext.alloc))⟩
theorem Zg9 (n:Nat)(cap:Int)(A B C:Option Addr)(a b c:Nat)(xs ys:List Int)(l:List (List Int))(w:World)(hA:RdI w A xs)(hB:RdI w B ys)(n1:1<=n)(n2:n<=64) :
  Calls Tryz.prog 53 #[.agg #[.int .i64 1,.int .i64 n,.int .i64 cap,.slice A xs.length a,.slice B ys.length b,.slice C l.length c]] w fun e w'=>e=.returned (.int .i64 (if (((xs.length:Int)==(n:Int))&&((ys.length:Int)==(n:Int))&&((l.length:Int)==0))=true then ZQ cap xs ys xs.length else 8))/\Ext w w':=by
 have B1:Hid (Blk (w.alloc (.cells #[.int .i64 1,.int .i64 n,.int .i64 cap,.slice A xs.length a,.slice B ys.length b,.slice C l.length c] 25)) w.heap.size 25 #[.int .i64 1,.int .i64 n,.int .i64 cap,.slice A xs.length a,.slice B ys.length b,.slice C l.length c]):=.new rfl;have nn1:¬((n:Int)<1):=by omega
 have nn2:¬((64:Int)<n):=by omega
 cases h1:((xs.length:Int)==(n:Int))
 ·have h1':((xs.length:Int) != (n:Int))=true:=by simp only[bne,h1];rfl
  go_enter Tryz.func53,Tryz.ntmps53;go_wp2;go_ret;exact⟨rfl,by(repeat (first | assumption | exact Ext.rf _ | apply Ext.drew | apply Ext.drewN | apply Ext.alloc))⟩
 ·have h1':((xs.length:Int) != (n:Int))=false:=by simp only[bne,h1];rfl
  cases h2:((ys.length:Int)==(n:Int))
  ·have h2':((ys.length:Int) != (n:Int))=true:=by simp only[bne,h2];rfl
   go_enter Tryz.func53,Tryz.ntmps53;go_wp2;go_ret;exact⟨rfl,by(repeat (first | assumption | exact Ext.rf _ | apply Ext.drew | apply Ext.drewN | apply Ext.alloc))⟩
  ·have h2':((ys.length:Int) != (n:Int))=false:=by simp only[bne,h2];rfl
   cases h3:((l.length:Int)==0)
   ·have h3':((l.length:Int) != 0)=true:=by simp only[bne,h3];rfl
    go_enter Tryz.func53,Tryz.ntmps53;go_wp2;go_ret;exact⟨rfl,by(repeat (first | assumption | exact Ext.rf _ | apply Ext.drew | apply Ext.drewN | apply Ext.alloc))⟩
   ·have h3':((l.length:Int) != 0)=false:=by simp only[bne,h3];rfl
    have e1:xs.length=n:=by simp only[beq_iff_eq] at h1;omega
    have e2:ys.length=n:=by simp only[beq_iff_eq] at h2;omega
    have e3:l.length=0:=by simp only[beq_iff_eq] at h3;omega
    simp only[Bool.and_true,if_true];have HI:=Hd (JV cap xs ys);have HST:Hid (∀ k,ZQ cap xs ys k≠0->ZQ cap xs ys xs.length=ZQ cap xs ys k):=fun k hk=>JX (by omega) hk
    rw[e1,e2,e3] at B1;rw[e1] at HST;rw[e1,e2,e3];clear h1 h1' h2 h2' h3 h3' e3;replace e1:=Hd e1;replace e2:=Hd e2;go_enter Tryz.func53,Tryz.ntmps53;go_wp2_with (fail);refine(Ue cap _).mono ?_;rintro e w2 ⟨rfl,x2⟩;have X2:=Hd (Ext.tr (a:=w) (by(repeat (first | assumption | exact Ext.rf _ | apply Ext.drew | apply Ext.drewN | apply Ext.alloc))) x2);have B2:=Hd (B1.out.ext x2);clear x2
    by_cases hc:Yw cap=0
    ·have hc':(Yw cap != 0)=false:=by simpa using hc
     have H0:Hid (ZQ cap xs ys 0=0):=by
      have h:=HI.out;rw[hc] at h;exact h
     clear hc;have d1:=B2.out.c1;go_wp2_with (fail);go_loopw [4] (fun i wr=>∃ k:Nat,i=.int .i64 k/\k<=n/\Hid (ZQ cap xs ys k=0)/\Ext w wr/\Hid (Blk wr w.heap.size 25 #[.int .i64 1,.int .i64 n,.int .i64 cap,.slice A n a,.slice B n b,.slice C 0 c])) (fun i _=>n-(intOf i).toNat)
     case atStart=>exact⟨0,rfl,by omega,H0,X2.out,B2⟩
     case round =>
      obtain⟨wo,rfl⟩:∃ wo:World,wo=wr:=⟨_,rfl⟩;obtain⟨k,rfl,hk,HK,Y,BB⟩:=hrel;have c1:=BB.out.c1;have c3:=BB.out.c3
      by_cases hlt:k<n
      ·obtain⟨bb,off,x,rfl,_,hc1,hx1,_⟩:=(hA.ext Y).at (k:=k) (by rw[e1.out];exact hlt)
       obtain⟨bb',off',y,rfl,zy,hc2,hy1,_⟩:=(hB.ext Y).at (k:=k) (by rw[e2.out];exact hlt);have S:=Hd (JW hx1.out hy1.out HK.out);go_wp2_with (fail);refine(Ue x _).mono ?_;rintro e w3 ⟨rfl,x3⟩;have Y3:=Ext.tr Y x3;have B3:=Hd (BB.out.ext x3);have c4':=B3.out.c4;have hc2':=Zc x3 zy hc2
       by_cases hn:Yw x=0
       ·have hn':(Yw x != 0)=false:=by simpa using hn
        have HN:=Hd hn;clear hn c1 c3 hc1 hc2;go_wp2_with (fail);refine(Ue y _).mono ?_;rintro e w4 ⟨rfl,x4⟩;have Y4:=Ext.tr Y3 x4;have B4:=Hd (B3.out.ext x4);have HR:Hid (ZQ cap xs ys (k+1)=Yw y):=by
         have h1:=S.out;rw[if_pos HN.out] at h1;exact h1
        clear c4' hc2' hn'
        by_cases hm:Yw y=0
        ·have hm':(Yw y != 0)=false:=by simpa using hm
         have HR2:Hid (ZQ cap xs ys (k+1)=0):=by
          have h:=HR.out;rw[hm] at h;exact h
         clear hm;go_wp2;go_roundw
         case rel=>exact⟨k+1,by go_num,by omega,HR2,Y4,B4⟩
         case measure=>simp[intOf];omega
        ·have hm':(Yw y != 0)=true:=by simpa using hm
         have HR2:Hid (ZQ cap xs ys n=Yw y):=by
          have h:=HST.out (k+1) (by rw[HR.out];exact hm);rw[HR.out] at h;exact h
         clear hm;go_wp2;go_ret;exact⟨ZM HR2.out.symm,Y4⟩
       ·have hn':(Yw x != 0)=true:=by simpa using hn
        have HR2:Hid (ZQ cap xs ys n=Yw x):=by
         have h1:=S.out;rw[if_neg hn] at h1;have h:=HST.out (k+1) (by rw[h1];exact hn);rw[h1] at h;exact h
        clear hn c1 c3 c4' hc1 hc2 hc2';go_wp2;go_ret;exact⟨ZM HR2.out.symm,Y3⟩
      ·obtain rfl:k=n:=by omega
       clear c3;go_wp2;go_ret;exact⟨ZM HK.out.symm,Y⟩
    ·have hc':(Yw cap != 0)=true:=by simpa using hc
     have HR2:Hid (ZQ cap xs ys n=Yw cap):=by
      have h:=HST.out 0 (by rw[HI.out];exact hc);rw[HI.out] at h;exact h
     clear hc;go_wp2;go_ret;exact⟨ZM HR2.out.symm,X2.out⟩
theorem Zc7 (k:Int)(n:Nat)(cap:Int)(A B C:Option Addr)(a b c:Nat)(xs ys:List Int)(l:List (List Int))(w:World)(hk:k=2\/k=3)(n1:1<=n)(n2:n<=24)
  (h:(((l.length:Int)==(n:Int))&&(cap==0)&&decide (xs.length+ys.length=0))=false) :
  Calls Tryz.prog 53 #[.agg #[.int .i64 k,.int .i64 n,.int .i64 cap,.slice A xs.length a,.slice B ys.length b,.slice C l.length c]] w fun e w'=>e=.returned (.int .i64 8)/\Ext w w':=by
 have nn1:¬((n:Int)<1):=by omega
 have nn2:¬((24:Int)<n):=by omega
 have k0:¬k<1:=by omega
 have k3:¬3<k:=by omega
 have k1:1<k:=by omega
 have kb:(k==1)=false:=by rw[beq_eq_false_iff_ne];omega
 clear hk
 cases h1:((l.length:Int)==(n:Int))
 ·have h1':((l.length:Int) != (n:Int))=true:=by simp only[bne,h1];rfl
  clear h;go_enter Tryz.func53,Tryz.ntmps53;go_wp2;go_ret;exact⟨rfl,by(repeat (first | assumption | exact Ext.rf _ | apply Ext.drew | apply Ext.drewN | apply Ext.alloc))⟩
 ·have h1':((l.length:Int) != (n:Int))=false:=by simp only[bne,h1];rfl
  cases h2:(cap==0)
  ·have h2':(cap != 0)=true:=by simp only[bne,h2];rfl
   clear h;go_enter Tryz.func53,Tryz.ntmps53;go_wp2;go_ret;exact⟨rfl,by(repeat (first | assumption | exact Ext.rf _ | apply Ext.drew | apply Ext.drewN | apply Ext.alloc))⟩
  ·have h2':(cap != 0)=false:=by simp only[bne,h2];rfl
   have h3:¬(xs.length+ys.length=0):=by rw[h1,h2] at h;simpa using h
   clear h
   by_cases hx:xs.length=0
   ·have hxb:((xs.length:Int) != 0)=false:=by rw[bne_eq_false_iff_eq];omega
    have hyb:((ys.length:Int) != 0)=true:=by rw[bne_iff_ne];omega
    clear hx h3;go_enter Tryz.func53,Tryz.ntmps53;go_wp2;go_ret;exact⟨rfl,by(repeat (first | assumption | exact Ext.rf _ | apply Ext.drew | apply Ext.drewN | apply Ext.alloc))⟩
   ·have hxb:((xs.length:Int) != 0)=true:=by rw[bne_iff_ne];omega
    clear hx h3;go_enter Tryz.func53,Tryz.ntmps53;go_wp2;go_ret;exact⟨rfl,by(repeat (first | assumption | exact Ext.rf _ | apply Ext.drew | apply Ext.drewN | apply Ext.alloc))⟩
theorem Zbd {l:List (List Int)}{r:Nat}{row:List Int}(p:List Int->Bool)(h:l[r]?=some row) : (l.take (r+1)).any p=((l.take r).any p || p row):=by
 obtain⟨hr,h⟩:=List.getElem?_eq_some_iff.1 h;rw[List.take_succ_eq_append_getElem hr,List.any_append,h];simp
theorem ZfX (k:Int)(n:Nat)(A B C:Option Addr)(a b c:Nat)(l:List (List Int))(w:World)(hC:RdE 1 RInts w C l)(hk:k=2\/k=3)(n1:1<=n)(n2:n<=24)(hl:l.length=n) :
  Calls Tryz.prog 53 #[.agg #[.int .i64 k,.int .i64 n,.int .i64 0,.slice A 0 a,.slice B 0 b,.slice C n c]] w fun e w'=>e=.returned (.int .i64 (if (l.any fun r=>(r.length:Int) != (n:Int))=true then 8 else Yi k 0 l))/\Ext w w':=by
 have nn1:¬((n:Int)<1):=by omega
 have nn2:¬((24:Int)<n):=by omega
 have k0:¬k<1:=by omega
 have k3:¬3<k:=by omega
 have k1:1<k:=by omega
 have kb:(k==1)=false:=by rw[beq_eq_false_iff_ne];omega
 have B1:Hid (Blk (w.alloc (.cells #[.int .i64 k,.int .i64 n,.int .i64 0,.slice A 0 a,.slice B 0 b,.slice C n c] 25)) w.heap.size 25 #[.int .i64 k,.int .i64 n,.int .i64 0,.slice A 0 a,.slice B 0 b,.slice C n c]):=.new rfl;clear hk;replace hl:=Hd hl;obtain⟨res,hres⟩:∃ res,Hid (res=if (l.any fun r=>(r.length:Int) != (n:Int))=true then 8 else Yi k 0 l):=⟨_,rfl⟩;rw[<-hres.out];go_enter Tryz.func53,Tryz.ntmps53;go_wp2_with (fail);go_loopw [7] (fun i wr=>∃ r:Nat,i=.int .i64 r/\r<=n/\Hid (((l.take r).any fun r=>(r.length:Int) != (n:Int))=false)/\Ext w wr/\Hid (Blk wr w.heap.size 25 #[.int .i64 k,.int .i64 n,.int .i64 0,.slice A 0 a,.slice B 0 b,.slice C n c])) (fun i _=>n-(intOf i).toNat)
 case atStart=>exact⟨0,rfl,by omega,by exact rfl,by(repeat (first | assumption | exact Ext.rf _ | apply Ext.drew | apply Ext.drewN | apply Ext.alloc)),B1⟩
 case round =>
  obtain⟨wo,rfl⟩:∃ wo:World,wo=wr:=⟨_,rfl⟩;obtain⟨r,rfl,hr,HA,Y,BB⟩:=hrel;have c1:=BB.out.c1;have c5:=BB.out.c5
  by_cases hlt:r<n
  ·obtain⟨cb,co,D,row,d,rfl,_,hc1,hrow,HD,rr,ir,ld,md⟩:=(hC.ext Y fun _ _ h=>h.ext Y).ints (r:=r) (by rw[hl.out];exact hlt)
   by_cases hlen:row.length=n
   ·have hlb:((row.length:Int) != (n:Int))=false:=by rw[bne_eq_false_iff_eq];omega
    have HN:Hid (((l.take (r+1)).any fun r=>(r.length:Int) != (n:Int))=false):=Hd (by rw[Zbd _ hrow.out,HA.out,hlb];rfl);replace hlen:=Hd hlen;go_wp2_with (go_quiet (fail));go_roundw
    case rel=>exact⟨r+1,by go_num,by omega,HN,by repeat (first | exact Y | apply Ext.drewN),by repeat (first | exact BB | exact(Hd BB.out))⟩
    case measure=>simp[intOf];omega
   ·have hlb:((row.length:Int) != (n:Int))=true:=by rw[bne_iff_ne];omega
    have HN:Hid (res=8):=Hd (by
     rw[hres.out,if_pos];exact List.any_eq_true.2 ⟨row,List.mem_of_getElem? hrow.out,hlb⟩)
    clear hlen;go_wp2_with (go_quiet (fail));go_ret;exact⟨ZM HN.out.symm,by repeat (first | exact Y | apply Ext.drewN)⟩
  ·obtain rfl:r=n:=by omega
   have HN:Hid (res=Yi k 0 l):=by
    have h:=HA.out;rw[List.take_of_length_le (by rw[hl.out];exact Nat.le_refl _)] at h;have h2:res=Yi k 0 l:=by rw[hres.out,if_neg (by rw[h];decide)]
    exact h2
   have HL:Hid (∀ row∈l,row.length=r):=fun row hrow=>by
    have h:=HA.out;rw[List.take_of_length_le (by rw[hl.out];exact Nat.le_refl _)] at h;have h2:=List.any_eq_false.1 h row hrow;simp at h2;omega
   clear HA hlt;clear c5;go_wp2_with (fail);clear c1;go_loopw [8] (fun i wr=>∃ q:Nat,i=.int .i64 q/\q<=r/\Hid (Yi k 0 l=Yi k q (l.drop q))/\Ext w wr/\Hid (Blk wr w.heap.size 25 #[.int .i64 k,.int .i64 r,.int .i64 0,.slice A 0 a,.slice B 0 b,.slice C r c])) (fun i _=>r-(intOf i).toNat)
   case atStart=>exact⟨0,rfl,by omega,by exact rfl,Y,BB⟩
   case round =>
    obtain⟨w1,rfl⟩:∃ w1:World,w1=wr:=⟨_,rfl⟩;obtain⟨q,rfl,hq,HT,Y1,B2⟩:=hrel;have c1:=B2.out.c1
    by_cases hlt:q<r
    ·obtain⟨cb,co,D,row,d,rfl,_,hc1,hrow,HD,rr,ir,ld,md⟩:=(hC.ext Y1 fun _ _ h=>h.ext Y1).ints (r:=q) (by rw[hl.out];exact hlt)
     have hlen:Hid (row.length=r):=HL.out row (List.mem_of_getElem? hrow.out);have hlen2:row.length=r:=hlen.out;rw[hlen2] at hc1 ld;clear hlen2 hc1;go_wp2_with (fail);go_loopw [9] (fun i wr=>∃ j:Nat,i=.int .i64 j/\j<=r/\Hid (Xy k q 0 row=Xy k q j (row.drop j))/\Ext w wr/\Hid (Blk wr w.heap.size 25 #[.int .i64 k,.int .i64 r,.int .i64 0,.slice A 0 a,.slice B 0 b,.slice (some ⟨cb,co,none⟩) r c])) (fun i _=>r-(intOf i).toNat)
     case atStart=>exact⟨0,rfl,by omega,by exact rfl,Y1,B2⟩
     case round =>
      obtain⟨w3,rfl⟩:∃ w3:World,w3=wr:=⟨_,rfl⟩;obtain⟨j,rfl,hj,HJ,Y2,B3⟩:=hrel;have c1':=B3.out.c1
      by_cases hlj:j<r
      ·obtain⟨cb',co',D',row',d',e9,zc,hc1,hrow',_,rr',ir',ld',md'⟩:=(hC.ext Y2 fun _ _ h=>h.ext Y2).ints (r:=q) (by rw[hl.out];exact hlt)
       obtain⟨rfl,rfl⟩:cb=cb'/\co=co':=by injection e9 with h;injection h with h1 h2;exact⟨h1,h2⟩
       obtain rfl:row=row':=by
        have h:=hrow.out;rw[hrow'.out] at h;exact(Option.some.inj h).symm
       obtain⟨bb,off',x,rfl,zx,hc2,_,hd2⟩:=rr'.at (k:=j) (by rw[hlen.out];exact hlj);have hl9:row.length=r:=hlen.out;rw[hl9] at hc1 ld';have c5':=B3.out.c5;clear hl9 e9;go_wp2_with (fail);refine(Ue x _).mono ?_;rintro e w4 ⟨rfl,x4⟩;have Y3:=Ext.tr Y2 x4;have B4:=Hd (B3.out.ext x4);have k0':=B4.out.c0;have k5':=B4.out.c5;have hc1':=Zc x4 zc hc1;have hc2':=Zc x4 zx hc2;clear hc1 hc2 c5' c1'
       by_cases hn:Yw x=0
       ·have hn':(Yw x != 0)=false:=by simpa using hn
        have HN0:=Hd hn;clear hn
        by_cases k3e:k=3
        ·subst k3e
         by_cases hrj:q=j
         ·subst hrj
          by_cases hx:x=0
          ·have hx':(x != 0)=false:=by simpa using hx
           have HR:Hid (Xy 3 q 0 row=Xy 3 q (q+1) (row.drop (q+1))):=by
            have h1:=HJ.out;rw[hd2.out,Xy,if_pos HN0.out,if_neg (by simp[hx])] at h1;exact h1
           clear hx;go_wp2;go_roundw
           case rel=>exact⟨q+1,by go_num,by omega,HR,Y3,B4⟩
           case measure=>simp[intOf];omega
          ·have hx':(x != 0)=true:=by simpa using hx
           have HR:Hid (res=8):=by
            have h1:=HJ.out;rw[hd2.out,Xy,if_pos HN0.out,if_pos ⟨rfl,rfl,hx⟩] at h1;have h2:=HT.out;rw[HD.out,Yi,h1] at h2;have h3:res=8:=by rw[HN.out];exact h2
            exact h3
           clear hx;go_wp2;go_ret;exact⟨ZM HR.out.symm,Y3⟩
         ·have hrj':((q:Int)==(j:Int))=false:=by rw[beq_eq_false_iff_ne];omega
          have HR:Hid (Xy 3 q 0 row=Xy 3 q (j+1) (row.drop (j+1))):=by
           have h1:=HJ.out;rw[hd2.out,Xy,if_pos HN0.out,if_neg (by simp[hrj])] at h1;exact h1
          go_wp2;go_roundw
          case rel=>exact⟨j+1,by go_num,by omega,HR,Y3,B4⟩
          case measure=>simp[intOf];omega
        ·have k3':(k==3)=false:=by rw[beq_eq_false_iff_ne];exact k3e
         have HR:Hid (Xy k q 0 row=Xy k q (j+1) (row.drop (j+1))):=by
          have h1:=HJ.out;rw[hd2.out,Xy,if_pos HN0.out,if_neg (by simp[k3e])] at h1;exact h1
         clear k3e;go_wp2;go_roundw
         case rel=>exact⟨j+1,by go_num,by omega,HR,Y3,B4⟩
         case measure=>simp[intOf];omega
       ·have hn':(Yw x != 0)=true:=by simpa using hn
        have HR:Hid (res=Yw x):=by
         have h1:=HJ.out;rw[hd2.out,Xy,if_neg hn] at h1;have h2:=HT.out;rw[HD.out,Yi,h1,if_neg hn] at h2;have h3:res=Yw x:=by rw[HN.out];exact h2
         exact h3
        clear hn;go_wp2;go_ret;exact⟨ZM HR.out.symm,Y3⟩
      ·have hd2:=UH (xs:=row) (k:=j) (by rw[hlen.out];omega)
       have HR:Hid (Yi k 0 l=Yi k (q+1) (l.drop (q+1))):=by
        have h1:=HJ.out;rw[hd2.out,Xy] at h1;have h2:=HT.out;rw[HD.out,Yi,if_pos h1] at h2;exact h2
       clear hd2;go_wp2;go_roundw
       case rel=>exact⟨q+1,by go_num,by omega,HR,Y2,B3⟩
       case measure=>simp[intOf];omega
    ·have hd:=UH (xs:=l) (k:=q) (by rw[hl.out];omega)
     have HR:Hid (res=0):=by
      have h1:=HT.out;rw[hd.out,Yi] at h1;have h3:res=0:=by rw[HN.out];exact h1
      exact h3
     clear hd;go_wp2;go_ret;exact⟨ZM HR.out.symm,Y1⟩
theorem YW (i:InstP)(vs:List Value)(w:World)(H:RInst w vs i) : Calls Tryz.prog 53 #[.agg (List.toArray vs)] w fun e w'=>e=.returned (.int .i64 (Zh i))/\Ext w w':=by
 obtain⟨k,nn,cap,xs,ys,l⟩:=i;obtain⟨A,a,B,b,C,c,rfl,⟨rA,iA,lA,mA⟩,⟨rB,iB,lB,mB⟩,⟨rC,lC,mC⟩⟩:=H;simp only at *
 by_cases hs:Z3 k nn=0
 ·have kk:=Qv hs
  have hn:1<=nn/\nn<=64/\(k≠1->nn<=24):=by
   unfold Z3 at hs;split at hs
   ·split at hs
    ·cases hs
    ·split at hs
     ·cases hs
     ·exact⟨by omega,by omega,fun h=>absurd ‹_› h⟩
   ·split at hs
    ·split at hs
     ·cases hs
     ·split at hs
      ·cases hs
      ·exact⟨by omega,by omega,fun _=>by omega⟩
    ·split at hs
     ·split at hs
      ·cases hs
      ·split at hs
       ·cases hs
       ·exact⟨by omega,by omega,fun _=>by omega⟩
     ·cases hs
  obtain⟨n1,n2,n3⟩:=hn;obtain⟨n,rfl⟩:∃ n:Nat,nn=(n:Int):=⟨nn.toNat,by omega⟩;unfold Zh;simp only[if_pos hs];unfold Uf;simp only
  by_cases k1:k=1
  ·subst k1
   simp only[if_true];exact Zg9 n cap A B C a b c xs ys l w rA rB (by omega) (by omega)
  ·rw[if_neg k1,if_neg k1]
   have hk:k=2\/k=3:=by omega
   cases hf:(((l.length:Int)==(n:Int))&&(cap==0)&&decide (xs.length+ys.length=0)) with
   | false =>
    simp only[Bool.false_and,Bool.false_eq_true,if_false];exact Zc7 k n cap A B C a b c xs ys l w hk (by omega) (by have:=n3 k1;omega) hf
   | true =>
    simp only[Bool.and_eq_true,beq_iff_eq,decide_eq_true_eq] at hf;obtain⟨⟨h1,rfl⟩,h3⟩:=hf;have e1:xs=[]:=List.eq_nil_of_length_eq_zero (by omega);have e2:ys=[]:=List.eq_nil_of_length_eq_zero (by omega);have e3:l.length=n:=by omega
    subst e1 e2;have R:=ZfX k n A B C a b c l w rC hk (by omega) (by have:=n3 k1;omega) e3;rw[e3];simp only[List.length_nil]
    cases hany:(l.any fun r=>(r.length:Int) != (n:Int)) with
    | true=>rw[hany] at R;simpa using R
    | false=>rw[hany] at R;simpa using R
 ·have e:Zh ⟨k,nn,cap,xs,ys,l⟩=Z3 k nn:=by unfold Zh;simp only[if_neg hs]
  rw[e];exact Zc6 k nn cap _ _ _ w hs
def InstInts (i:InstP) : Prop:=Ints i.weight/\Ints i.value/\∀ r∈i.cost,Ints r
theorem RInst.ints {w:World}{vs:List Value}{i:InstP}(h:RInst w vs i) : InstInts i:=by
 obtain⟨A,a,B,b,C,c,rfl,⟨_,h2,_⟩,⟨_,h4,_⟩,⟨h5,_⟩⟩:=h;refine⟨h2,h4,fun r hr=>?_⟩;obtain⟨k,hk,rfl⟩:=List.mem_iff_getElem.1 hr;obtain⟨_,_,_,row,_,_,_,_,he,_,_,hi,_⟩:=h5.ints hk;have h:=he.out;rw[List.getElem?_eq_getElem hk] at h;rw[Option.some.inj h];exact hi
theorem InstInts.copy {i:InstP}(h:InstInts i) : InstInts (VH i):=by
 refine⟨h.1.take _,h.2.1.take _,fun r hr=>?_⟩;simp only[VH,VG,List.mem_map] at hr;obtain⟨q,hq,rfl⟩:=hr;exact(h.2.2 q (List.mem_of_mem_take hq)).take _
theorem InstO.rinst {w:World}{base:Nat}{vs:List Value}{i:InstP}(h:InstO w base vs i)(hi:InstInts i) : RInst w vs i:=by
 obtain⟨A,a,B,b,C,c,us,rfl,h1,h2,h3,h4⟩:=h;refine⟨A,a,B,b,C,c,rfl,⟨h1.read,hi.1,h1.le.1,h1.le.2⟩,⟨h2.read,hi.2.1,h2.le.1,h2.le.2⟩,?_,h3.le.1,h3.le.2⟩;rcases h3.read with h0 | ⟨b',off,cur,hA,hb,hc⟩
 ·left
  have:=h4.1;rw[h0] at this;exact List.eq_nil_of_length_eq_zero this.symm
 ·refine .inr ⟨b',off,hA,(Array.getElem?_eq_some_iff.1 hb).1,fun k r hr=>?_⟩
  obtain⟨A',c',hu,ho⟩:=h4.2 k r hr;refine⟨[.slice A' r.length c'],⟨A',c',rfl,ho.read,hi.2.2 r (List.mem_of_getElem? hr),ho.le.1,ho.le.2⟩,rfl,fun j v hj=>?_⟩
  cases j with
  | zero =>
   simp at hj;subst hj;rw[cell_of_row w b' _ cur _ (0,0) hb]
   simpa using hc k _ hu
  | succ j=>simp at hj
theorem InstO.ext {w w':World}{base:Nat}{vs:List Value}{i:InstP}(h:InstO w base vs i)(x:Ext w w') : InstO w' base vs i:=by
 obtain⟨A,a,B,b,C,c,us,rfl,h1,h2,h3,h4⟩:=h;exact⟨A,a,B,b,C,c,us,rfl,h1.ext x,h2.ext x,h3.ext x,h4.ext x⟩
theorem InstO.modT {w w':World}{base base':Nat}{ts:List TypeId}{vs:List Value}{i:InstP}(h:InstO w base vs i)(k:ModT base' ts w w')(h1:3∉ts)(h2:22∉ts) : InstO w' base vs i:=by
 obtain⟨A,a,B,b,C,c,us,rfl,g1,g2,g3,g4⟩:=h;exact⟨A,a,B,b,C,c,us,rfl,g1.modT k h1,g2.modT k h1,g3.modT k h2,g4.modT k h1⟩
theorem Qz (i:InstP) : (VH i).weight.length<=70/\(VH i).value.length<=70/\(VH i).cost.length<=30:=by
 refine⟨List.length_take_le _ _,List.length_take_le _ _,?_⟩;simp[VH,VG];omega
theorem Zha {w w2:World}{a0 a1 a2 a3 a4 a5 u0 u1 u2 u3 u4 u5:Value}{j:InstP}{base:Nat}
  (hB:Blk w2 w.heap.size 25 #[a0,a1,a2,a3,a4,a5]) (x:Ext w w2) (hO:InstO w2 base [u0,u1,u2,u3,u4,u5] j) :
  Ext w ((((((w2.setCell ⟨w.heap.size,0,none⟩ u0).setCell ⟨w.heap.size,1,none⟩ u1).setCell ⟨w.heap.size,2,none⟩ u2).setCell ⟨w.heap.size,3,none⟩ u3).setCell ⟨w.heap.size,4,none⟩ u4).setCell ⟨w.heap.size,5,none⟩ u5) /\
  Blk ((((((w2.setCell ⟨w.heap.size,0,none⟩ u0).setCell ⟨w.heap.size,1,none⟩ u1).setCell ⟨w.heap.size,2,none⟩ u2).setCell ⟨w.heap.size,3,none⟩ u3).setCell ⟨w.heap.size,4,none⟩ u4).setCell ⟨w.heap.size,5,none⟩ u5) w.heap.size 25 #[u0,u1,u2,u3,u4,u5] /\
  InstO ((((((w2.setCell ⟨w.heap.size,0,none⟩ u0).setCell ⟨w.heap.size,1,none⟩ u1).setCell ⟨w.heap.size,2,none⟩ u2).setCell ⟨w.heap.size,3,none⟩ u3).setCell ⟨w.heap.size,4,none⟩ u4).setCell ⟨w.heap.size,5,none⟩ u5) base [u0,u1,u2,u3,u4,u5] j:=by
 obtain⟨h1,h2⟩:=ZiT hB (base:=w.heap.size) (Nat.le_refl _) u0 u1 u2 u3 u4 u5;exact⟨x.modT h2 (Nat.le_refl _),h1,hO.modT h2 (by decide) (by decide)⟩
theorem InstO.six {w:World}{base:Nat}{vs:List Value}{i:InstP}(h:InstO w base vs i) : ∃ A3 l3 c3 A4 l4 c4 A5 l5 c5,vs=[.int .i64 i.kind,.int .i64 i.n,.int .i64 i.cap,.slice A3 l3 c3,.slice A4 l4 c4,.slice A5 l5 c5]:=by
 obtain⟨A,a,B,b,C,c,us,rfl,_⟩:=h;exact⟨_,_,_,_,_,_,_,_,_,rfl⟩
def ZiV (j:InstP)(w:World)(e:Ending)(w':World) : Prop:=∃ vs,e=.returned (.agg (List.toArray vs))/\InstO w' w.heap.size vs j/\Ext w w'
theorem Zia {i j:InstP}(hj:j=VH i)(vs:List Value)(w:World)(H:RInst w vs i) : Calls Tryz.prog 17 #[.agg (List.toArray vs)] w (ZiV j w):=by subst hj;exact ZgY vs i w H
structure SquareOk (i:InstP) : Prop where
 n1:1<=i.n
 n2:i.n<=24
 len:(i.cost.length:Int)=i.n
 row:∀ r∈i.cost,(r.length:Int)=i.n
 num:∀ r∈i.cost,∀ x∈r,0<=x/\x<=2147483647
 w:i.weight=[]
 v:i.value=[]
theorem ZfY {n:Int}(h:Yw n=0) : 0<=n/\n<=2147483647:=by
 unfold Yw at h;split at h
 ·cases h
 ·split at h
  ·cases h
  ·omega
theorem Zbr : ∀ {l:List Int} {k:Int} {r c:Nat},Xy k r c l=0->∀ x∈l,0<=x/\x<=2147483647
 | [],_,_,_,_,x,hx=>by cases hx
 | n::l,k,r,c,h,x,hx=>by
  unfold Xy at h;split at h
  ·rename_i hn
   split at h
   ·cases h
   ·rcases List.mem_cons.1 hx with rfl | hx
    ·exact ZfY hn
    ·exact Zbr h x hx
  ·rename_i hn
   exact absurd h hn
theorem Zaz : ∀ {l:List (List Int)} {k:Int} {r:Nat},Yi k r l=0->∀ q∈l,∀ x∈q,0<=x/\x<=2147483647
 | [],_,_,_,q,hq=>by cases hq
 | row::l,k,r,h,q,hq=>by
  unfold Yi at h;split at h
  ·rename_i hr
   rcases List.mem_cons.1 hq with rfl | hq
   ·exact Zbr hr
   ·exact Zaz h q hq
  ·rename_i hr
   exact absurd h hr
theorem Zp {i:InstP}(h:Zh i=0)(hk:i.kind≠1) : SquareOk i:=by
 unfold Zh at h
 by_cases hs:Z3 i.kind i.n=0
 ·rw[if_pos hs] at h
  by_cases hsh:Uf i=true
  ·rw[if_pos hsh,if_neg hk] at h
   unfold Uf at hsh;rw[if_neg hk] at hsh;simp only[Bool.and_eq_true,beq_iff_eq,decide_eq_true_eq,Bool.not_eq_true',List.any_eq_false,bne_iff_ne,ne_eq,Decidable.not_not] at hsh;obtain⟨⟨⟨h1,h2⟩,h3⟩,h4⟩:=hsh;unfold Z3 at hs;rw[if_neg hk] at hs;have hn:1<=i.n/\i.n<=24:=by
    split at hs
    ·split at hs
     ·cases hs
     ·split at hs
      ·cases hs
      ·omega
    ·split at hs
     ·split at hs
      ·cases hs
      ·split at hs
       ·cases hs
       ·omega
     ·cases hs
   exact⟨hn.1,hn.2,h1,h4,Zaz h,List.eq_nil_of_length_eq_zero (by omega),List.eq_nil_of_length_eq_zero (by omega)⟩
  ·rw[if_neg hsh] at h
   cases h
 ·rw[if_neg hs] at h
  exact absurd h hs
def Yj (m:Nat) : List Int->Option Nat
 | []=>some m
 | c::p=>if 0<=c/\c<64/\m.testBit c.toNat=true then Yj (ZL m c.toNat) p else none
def Z1 (n:Nat)(p:List Int) : Option Nat:=if n<p.length then none else Yj (2^n-1) p
theorem Zib (m i:Nat) : ZL m i<18446744073709551616:=Qy _ _
def SubN (n m:Nat) : Prop:=m<18446744073709551616/\∀ x∈Zf m,x<n
theorem Xr {n:Nat}(h:n<=24) : SubN n (2^n-1):=by
 refine⟨?_,fun x hx=>?_⟩
 ·have:2^n<=2^24:=Nat.pow_le_pow_right (by omega) h
  omega
 ·rw[XR (by omega)] at hx
  exact List.mem_range.1 hx
theorem SubN.clr {n m:Nat}(h:SubN n m)(i:Nat) : SubN n (ZL m i):=by
 refine⟨Zib _ _,fun x hx=>h.2 x ?_⟩;rw[Qe h.1] at hx;exact(List.mem_filter.1 hx).1
theorem Jw {n:Nat} : ∀ {p:List Int} {m q:Nat},SubN n m->Yj m p=some q->SubN n q
 | [],m,q,h,e=>by
  simp only[Yj,Option.some.injEq] at e;subst e;exact h
 | c::p,m,q,h,e=>by
  unfold Yj at e;split at e
  ·exact Jw (h.clr _) e
  ·cases e
theorem ZF {i:InstP}(h:SquareOk i) : RowsOk i.cost:=by
 have h1:=h.n1;have h2:=h.n2;have h3:=h.len;refine⟨by omega,by omega,fun r hr=>?_,h.num⟩;have:=h.row r hr;omega
theorem ZeA (m:Nat)(c:Int)(p:List Int) : Yj m (c::p)=if 0<=c/\c<64/\m.testBit c.toNat=true then Yj (ZL m c.toNat) p else none:=rfl
open Go.RowKit Go.ChangeShapes Go.WideShapes Go.ChangeAt Go.Deep Go.Shelf
attribute [local go_sem] Oper.semAt_some
def Zs (f:Nat->Int)(b:Int)(l:List Nat) : Int:=l.foldl (fun b x=>if b<0 then f x else if f x<b then f x else b) b
theorem JZ (f:Nat->Int)(b:Int)(l:List Nat)(x:Nat) : Zs f b (l++[x])=if Zs f b l<0 then f x else if f x<Zs f b l then f x else Zs f b l:=by
 unfold Zs;rw[List.foldl_append]
 rfl
end Go.Proofs.YtmojhhlcocjoaaaGreatDoor
namespace Go.Proofs.YtmojhhlcocjoaaaGreatDoor
open Go.RowKit Go.ChangeShapes Go.WideShapes Go.ChangeAt Go.Deep Go.Shelf
attribute [local go_sem] Oper.semAt_some
def VW (rows:List (List Int))(l:List Nat) : List Int:=rows.map fun row=>Zs (fun c=>row.getD c 0) (-1) l
def WU (c:Nat)(b:Int) : List (List Int)->List Int->Int
 | row::rows,o::off=>WU c (if b<0 then row.getD c 0-o else if row.getD c 0-o<b then row.getD c 0-o else b) rows off
 | _,_=>b
def ZW (rows:List (List Int))(l:List Nat) : Int:=Zj (VW rows l)+Zj (l.map fun c=>WU c (-1) rows (VW rows l))
theorem VX {f:Nat->Int}{B:Int} : ∀ {l:List Nat} {b:Int},(∀ c∈l,-B<=f c/\f c<=B)->-B<=b->b<=B->-B<=Zs f b l/\Zs f b l<=B
 | [],b,_,h1,h2=>⟨h1,h2⟩
 | c::l,b,h,h1,h2=>by
  have hc:=h c (by simp);have e:Zs f b (c::l)=Zs f (if b<0 then f c else if f c<b then f c else b) l:=rfl;rw[e];refine VX (fun x hx=>h x (by simp[hx])) ?_ ?_<;>split<;>(try split)<;>omega
theorem Zfn {c:Nat}{B:Int} : ∀ {rows:List (List Int)} {off:List Int} {b:Int},(∀ row∈rows,0<=row.getD c 0/\row.getD c 0<=B)->(∀ o∈off,-B<=o/\o<=B)->0<=B->-(2*B)<=b->b<=2*B->-(2*B)<=WU c b rows off/\WU c b rows off<=2*B
 | [],off,b,_,_,_,h1,h2=>by cases off<;>exact⟨h1,h2⟩
 | _::_,[],b,_,_,_,h1,h2=>⟨h1,h2⟩
 | row::rows,o::off,b,hr,ho,h0,h1,h2=>by
  have a1:=hr row (by simp);have a2:=ho o (by simp);unfold WU;refine Zfn (fun x hx=>hr x (by simp[hx])) (fun x hx=>ho x (by simp[hx])) h0 ?_ ?_<;>split<;>(try split)<;>omega
theorem ZfZ (a:List Int)(x:Int) : Zj (a++[x])=Zj a+x:=by rw[Zc0];simp[Zj]
theorem Zcn {B:Int} : ∀ {l:List Int},(∀ x∈l,-B<=x/\x<=B)->-(B*l.length)<=Zj l/\Zj l<=B*l.length
 | [],_=>by simp[Zj]
 | x::l,h=>by
  have h1:=h x (by simp);have h2:=Zcn (l:=l) fun y hy=>h y (by simp[hy])
  simp only[Zj,List.length_cons,Int.natCast_add,Int.natCast_one,Int.mul_add,Int.mul_one];omega
end Go.Proofs.YtmojhhlcocjoaaaGreatDoor
namespace Go.Proofs.YtmojhhlcocjoaaaGreatDoor
open Go
section
variable {F:Fence} {n:Nat} {P:Program} {ops:Array Oper} {md:Region.Mode} {C:World->Prop}
end
end Go.Proofs.YtmojhhlcocjoaaaGreatDoor
namespace Go.Proofs.YtmojhhlcocjoaaaGreatDoor
open Go.RowKit Go.ChangeShapes Go.WideShapes Go.ChangeAt Go.Deep Go.Shelf
attribute [local go_sem] Oper.semAt_some
end Go.Proofs.YtmojhhlcocjoaaaGreatDoor
namespace Go.Proofs.YtmojhhlcocjoaaaGreatDoor
open Go.RowKit Go.ChangeShapes Go.WideShapes Go.ChangeAt Go.Deep Go.Shelf
def Yz (rows:List (List Int))(p:List Int) : Int×Int :=
 match Z1 rows.length p with
 | none=>(0,1)
 | some m=>(Zv rows p+(if p.length<rows.length then ZW (rows.drop p.length) (Zf m) else 0),0)
theorem Zc8 {n:Nat} : ∀ {p:List Int} {m q:Nat},SubN n m->Yj m p=some q->∀ c∈p,0<=c/\c<n
 | [],_,_,_,_,c,hc=>by cases hc
 | d::p,m,q,h,e,c,hc=>by
  unfold Yj at e;split at e
  ·rename_i hd
   rcases List.mem_cons.1 hc with rfl | hc
   ·have:=h.2 c.toNat (Z4.2 ⟨by omega,hd.2.2⟩)
    omega
   ·exact Zc8 (h.clr _) e c hc
  ·cases e
theorem XD {n:Nat}(h24:n<=24){p:List Int}{q:Nat}(e:Z1 n p=some q) : p.length<=n/\(∀ c∈p,0<=c/\c<n)/\SubN n q:=by
 unfold Z1 at e;split at e
 ·cases e
 ·exact⟨by omega,Zc8 (Xr h24) e,Jw (Xr h24) e⟩
theorem Vp : ∀ {rows:List (List Int)} {p:List Int} {k:Nat} {row:List Int} {c:Int},rows[k]?=some row->p[k]?=some c->Zv rows (p.take (k+1))=Zv rows (p.take k)+row.getD c.toNat 0
 | r::rows,d::p,0,row,c,h1,h2=>by
  simp at h1 h2;subst h1 h2
  cases rows<;>simp[Zv]
 | r::rows,d::p,k+1,row,c,h1,h2=>by
  simp at h1 h2;simp only[List.take_succ_cons,Zv];rw[Vp h1 h2];omega
 | [],_,_,_,_,h1,_=>by simp at h1
 | _::_,[],_,_,_,_,h2=>by simp at h2
theorem VY {B:Int}(hB:0<=B) : ∀ {rows:List (List Int)} {p:List Int},(∀ row∈rows,∀ c∈p,0<=row.getD c.toNat 0/\row.getD c.toNat 0<=B)->0<=Zv rows p/\Zv rows p<=B*p.length
 | [],p,_=>by
  have:0<=B*(p.length:Int):=Int.mul_nonneg hB (by omega);simp only[Zv];omega
 | _::_,[],_=>by simp[Zv]
 | r::rows,d::p,h=>by
  have h1:=h r (by simp) d (by simp);have h2:=VY hB (rows:=rows) (p:=p) fun row hr c hc=>h row (by simp[hr]) c (by simp[hc])
  simp only[Zv,List.length_cons,Int.natCast_add,Int.natCast_one,Int.mul_add,Int.mul_one];omega
theorem ZaA {rows:List (List Int)}{m:Nat}(hr:rows.length<=24)(h:∀ row∈rows,∀ c∈Zf m,0<=row.getD c 0/\row.getD c 0<=2147483647) : -(2147483647*300)<=ZW rows (Zf m)/\ZW rows (Zf m)<=2147483647*300:=by
 have h1:∀ o∈VW rows (Zf m),-2147483647<=o/\o<=2147483647:=fun o ho=>by
  obtain⟨row,hr,rfl⟩:=List.mem_map.1 ho;exact VX (fun c hc=>by have:=h row hr c hc;omega) (by omega) (by omega)
 have h2:=Zcn (B:=2147483647) h1;have h3:(VW rows (Zf m)).length=rows.length:=by simp[VW]
 have h4:=Zcn (B:=2*2147483647) (l:=(Zf m).map fun c=>WU c (-1) rows (VW rows (Zf m))) fun z hz=>by
  obtain⟨c,hc,rfl⟩:=List.mem_map.1 hz;exact Zfn (fun row hr=>h row hr c hc) h1 (by omega) (by omega) (by omega)
 have h5:=Zg5 m;rw[List.length_map] at h4;unfold ZW;omega
theorem RowsO.drop {w:World}{base:Nat}{us:List Value}{rows:List (List Int)}(h:RowsO w base us rows)(k:Nat) : RowsO w base (us.drop k) (rows.drop k):=by
 refine⟨by rw[List.length_drop,List.length_drop,h.1],fun i r hr=>?_⟩;rw[List.getElem?_drop] at hr;obtain⟨A,c,h1,h2⟩:=h.2 (k+i) r hr;exact⟨A,c,by rw[List.getElem?_drop];exact h1,h2⟩
def Qf (ks:List Int)(err:Int)(w:World)(e:Ending)(w':World) : Prop:=∃ A c,e=.returned (.tuple #[.slice A ks.length c,.int .i64 err])/\OwI w' w.heap.size A c ks/\Ext w w'
abbrev Srt (lt:Nat->Nat->Bool)(l:List Nat) : Prop:=l.Pairwise (strictly lt)
def Is (lt:Nat->Nat->Bool)(l m:List Nat) : Prop:=m.Perm l/\Srt lt m
theorem strictly.le {lt:Nat->Nat->Bool}(h:Weak lt){x y:Nat}(hs:strictly lt x y) : lt y x=false:=by
 rcases hs with h1 | ⟨h1,_⟩
 ·exact h.asym _ _ h1
 ·exact h1
section
variable {α:Type}
end
theorem Is.rf {lt:Nat->Nat->Bool}{l:List Nat}(h:Srt lt l) : Is lt l l:=⟨List.Perm.refl _,h⟩
theorem Is.perm {lt:Nat->Nat->Bool}{l l' m:List Nat}(h:Is lt l m)(hp:l.Perm l') : Is lt l' m:=⟨h.1.trans hp,h.2⟩
theorem Is.len {lt:Nat->Nat->Bool}{l m:List Nat}(h:Is lt l m) : m.length=l.length:=h.1.length_eq
theorem Is.mem {lt:Nat->Nat->Bool}{l m:List Nat}(h:Is lt l m){x:Nat} : x∈m↔x∈l:=h.1.mem_iff
theorem Is.one {lt:Nat->Nat->Bool}(h:Weak lt){l m m':List Nat}(h1:Is lt l m)(h2:Is lt l m') : m=m' :=
 List.Perm.eq_of_pairwise (le:=strictly lt) (fun _ _ _ _ h3 h4=>absurd h4 (h.asymm h3)) h1.2 h2.2 (h1.1.trans h2.1.symm)
end Go.Proofs.YtmojhhlcocjoaaaGreatDoor
namespace Go.Proofs.YtmojhhlcocjoaaaGreatDoor
def Zbe (lt:Nat->Nat->Bool)(a b:Nat) : Bool:=lt a b || (!lt b a&&decide (a<b))
theorem Zhb {lt:Nat->Nat->Bool}{a b:Nat} : Zbe lt a b=true↔strictly lt a b:=by
 unfold Zbe strictly
 cases lt a b<;>cases lt b a<;>simp
def ZA (lt:Nat->Nat->Bool)(l:List Nat)(a:Nat) : Nat:=l.countP fun b=>Zbe lt b a
theorem UR (lt:Nat->Nat->Bool)(l:List Nat)(a b:Nat) : ZA lt (l++[b]) a=ZA lt l a+if Zbe lt b a=true then 1 else 0:=by
 unfold ZA;rw[List.countP_append];simp[List.countP_cons]
theorem Jy (lt:Nat->Nat->Bool)(l:List Nat)(a:Nat) : ZA lt l a<=l.length:=List.countP_le_length
def Yk (f:Nat->Nat)(l:List Nat) : Nat->List Int
 | 0=>List.replicate l.length 0
 | k+1=>(Yk f l k).set (f (l.getD k 0)) ((l.getD k 0:Nat):Int)
theorem Xg (f:Nat->Nat)(l:List Nat) : ∀ m,(Yk f l m).length=l.length
 | 0=>by simp[Yk]
 | m+1=>by simp[Yk,Xg f l m]
theorem Zbs {f:Nat->Nat}{l:List Nat}(hf:∀ a b,a∈l->b∈l->f a=f b->a=b)(hn:∀ a∈l,f a<l.length) : ∀ m,m<=l.length->∀ i a,i<m->l[i]?=some a->(Yk f l m)[f a]?=some (a:Int)
 | 0,_,i,a,h,_=>by omega
 | m+1,hm,i,a,h,ha=>by
  unfold Yk;have hmem:=List.mem_of_getElem? ha;have hk:l[m]?=some l[m]:=List.getElem?_eq_getElem (by omega);rw[List.getD_eq_getElem?_getD,hk,Option.getD_some]
  by_cases e:f l[m]=f a
  ·have e':=hf _ _ (List.getElem_mem _) hmem e
   rw[e,List.getElem?_set_self (by rw[Xg];exact hn a hmem),e']
  ·rw[List.getElem?_set_ne e]
   refine Zbs hf hn m (by omega) i a ?_ ha;rcases Nat.lt_or_eq_of_le (Nat.le_of_lt_succ h) with h' | rfl
   ·exact h'
   ·rw[hk] at ha
    exact absurd (by rw[Option.some.inj ha]) e
def Wb (lt:Nat->Nat->Bool)(l:List Nat) : List Nat:=UM lt l.length l
theorem WV {lt:Nat->Nat->Bool}(h:Weak lt){l:List Nat}(hr:l.Pairwise (· < ·)) : Is lt l (Wb lt l):=⟨YU _ _ _,WK h _ _ (by omega) hr⟩
theorem Xs (lt:Nat->Nat->Bool)(l:List Nat) : (Wb lt l).length=l.length:=(YU _ _ _).length_eq
theorem VZ {lt:Nat->Nat->Bool}(h:Weak lt){l:List Nat}(hr:l.Pairwise (· < ·)){k a:Nat}(ha:(Wb lt l)[k]?=some a) : ZA lt l a=k:=by
 have hs:=WV h hr;unfold ZA;rw[<-hs.1.countP_eq];exact Zas (R:=strictly lt) (fun x y h1 h2=>h.asymm h1 h2) h.irrefl hs.2 ha fun b=>Zhb
theorem QB {lt:Nat->Nat->Bool}(h:Weak lt){l:List Nat}(hr:l.Pairwise (· < ·)) : Yk (ZA lt l) l l.length=(Wb lt l).map (fun n:Nat=>(n:Int)):=by
 have at':∀ a∈l,∃ k,(Wb lt l)[k]?=some a/\ZA lt l a=k/\k<l.length:=fun a ha=>by
  obtain⟨k,hk,e⟩:=List.mem_iff_getElem.1 ((WV h hr).mem.2 ha);have e':(Wb lt l)[k]?=some a:=by rw[List.getElem?_eq_getElem hk,e]
  exact⟨k,e',VZ h hr e',by rwa [Xs] at hk⟩
 have inj:∀ a b,a∈l->b∈l->ZA lt l a=ZA lt l b->a=b:=fun a b ha hb e=>by
  obtain⟨k,h1,h2,_⟩:=at' a ha;obtain⟨j,h3,h4,_⟩:=at' b hb;have:k=j:=by omega
  subst this;rw[h1] at h3;exact Option.some.inj h3
 refine List.ext_getElem? fun k=>?_
 by_cases hk:k<l.length
 ·have hk':k<(Wb lt l).length:=by rw[Xs];exact hk
  have e:(Wb lt l)[k]?=some (Wb lt l)[k]:=List.getElem?_eq_getElem hk';have h1:=VZ h hr e;have hm:(Wb lt l)[k]∈l:=(WV h hr).mem.1 (List.mem_of_getElem? e);obtain⟨i,hi,ei⟩:=List.mem_iff_getElem.1 hm;have h2:=Zbs (f:=ZA lt l) inj (fun a ha=>by obtain⟨_,_,_,_⟩:=at' a ha;omega) l.length (Nat.le_refl _) i _ hi (by rw[List.getElem?_eq_getElem hi,ei]);simp only[h1] at h2;rw[h2,List.getElem?_map,e]
  rfl
 ·rw[List.getElem?_eq_none (by rw[Xg];omega),List.getElem?_eq_none (by rw[List.length_map,Xs];omega)]
end Go.Proofs.YtmojhhlcocjoaaaGreatDoor
namespace Go.Proofs.YtmojhhlcocjoaaaGreatDoor
open Go.RowKit Go.ChangeShapes Go.WideShapes Go.ChangeAt Go.Deep
theorem ZD {l:List Nat}{k n:Nat}(h:l[k]?=some n) : (Zd l)[k]?=some (n:Int):=by simp[Zd,h]
def ltC (cf:Nat->Nat->Int)(x y:Nat) : Bool:=decide (cf x y<0)
def cfR (row:List Int)(a b:Nat) : Int:=row.getD a 0-row.getD b 0
theorem Q0 (row:List Int) : Weak (ltC (cfR row)) where
 asym a b h:=by
  unfold ltC cfR at *;simp only[decide_eq_true_eq,decide_eq_false_iff_not] at *;omega
 neg a b c h:=by
  unfold ltC cfR at *;simp only[decide_eq_true_eq] at *;omega
def V2 (rows:List (List Int))(p:List Int) : List Int×Int :=
 match Z1 rows.length p with
 | none=>([],1)
 | some m=>(Zd (Wb (ltC (cfR (rows.getD p.length []))) (Zf m)),0)
theorem VR {i:Nat} : ∀ {l:List Nat},l.Pairwise (· < ·)->i∈l->(l.filter fun j=>decide (i≠j)).length+1=l.length
 | [],_,h=>by cases h
 | x::l,hp,h=>by
  have hp':=List.pairwise_cons.1 hp
  by_cases e:i=x
  ·subst e
   have:l.filter (fun j=>decide (i≠j))=l:=List.filter_eq_self.2 fun y hy=>by
    have:=hp'.1 y hy;simp;omega
   rw[List.filter_cons_of_neg (by simp),this];rfl
  ·rcases List.mem_cons.1 h with h | h
   ·exact absurd h e
   ·rw[List.filter_cons_of_pos (by simpa using e),List.length_cons,List.length_cons,VR hp'.2 h]
theorem Jz {n:Nat} : ∀ {p:List Int} {m q:Nat},SubN n m->Yj m p=some q->(Zf q).length+p.length=(Zf m).length
 | [],m,q,_,e=>by
  simp only[Yj,Option.some.injEq] at e;subst e;rfl
 | c::p,m,q,h,e=>by
  unfold Yj at e;split at e
  ·rename_i hc
   have h1:=Jz (h.clr _) e;have h2:=VR (Zw m) (Z4.2 ⟨by omega,hc.2.2⟩:c.toNat∈Zf m);rw[<-Qe h.1] at h2;rw[List.length_cons];omega
  ·cases e
theorem ZZ {n:Nat}(h24:n<=24){p:List Int}{q:Nat}(e:Z1 n p=some q) : (Zf q).length+p.length=n:=by
 unfold Z1 at e;split at e
 ·cases e
 ·rw[Jz (Xr h24) e,XR (by omega),List.length_range]
theorem Mod.heap {g:Nat}{w w':World}(h:Mod (fun k=>k=g) w w'){a:World}(x:Ext a w)(hg:a.heap.size<=g) : Ext a w':=x.mod h fun k hk e=>by omega
def Xh (n m:Nat) : Array Value:=((List.range 24).map fun c=>Value.bool (decide (c<n) && !m.testBit c)).toArray
theorem Xi {n m c:Nat}(hc:c<24) : (Xh n m)[c]?=some (.bool (decide (c<n) && !m.testBit c)):=by
 unfold Xh;simp[hc]
theorem JA {n m c:Nat}(h:m<18446744073709551616)(hc:c<n) : (Xh n m).setIfInBounds c (.bool true)=Xh n (ZL m c):=by
 apply Array.ext_getElem?;intro i
 by_cases hi:i<24
 ·rw[Xi hi]
  by_cases e:c=i
  ·subst e
   rw[Array.getElem?_setIfInBounds_self_of_lt (by unfold Xh;simp;omega),QY h];simp[hc]
  ·rw[Array.getElem?_setIfInBounds_ne e,Xi hi,QY h]
   simp[e]
 ·rw[Array.getElem?_eq_none (by unfold Xh;simp;omega),Array.getElem?_eq_none (by unfold Xh;simp;omega)]
abbrev ZiP : Array Value:=#[.bool false,.bool false,.bool false,.bool false,.bool false,.bool false,.bool false,.bool false,.bool false,.bool false,.bool false,.bool false,.bool false,.bool false,.bool false,.bool false,.bool false,.bool false,.bool false,.bool false,.bool false,.bool false,.bool false,.bool false]
theorem ZaB {n:Nat}(h:n<=24) : Xh n (2^n-1)=ZiP:=by
 apply Array.ext_getElem?;intro i
 by_cases hi:i<24
 ·rw[Xi hi]
  have e:(decide (i<n) && !(2^n-1).testBit i)=false:=by
   rw[Nat.testBit_two_pow_sub_one]
   cases decide (i<n)<;>rfl
  rw[e];have:i=0\/i=1\/i=2\/i=3\/i=4\/i=5\/i=6\/i=7\/i=8\/i=9\/i=10\/i=11\/i=12\/i=13\/i=14\/i=15\/i=16\/i=17\/i=18\/i=19\/i=20\/i=21\/i=22\/i=23:=by omega
  rcases this with rfl | rfl | rfl | rfl | rfl | rfl | rfl | rfl | rfl | rfl | rfl | rfl | rfl | rfl | rfl | rfl | rfl | rfl | rfl | rfl | rfl | rfl | rfl | rfl<;>rfl
 ·rw[Array.getElem?_eq_none (by unfold Xh;simp;omega),Array.getElem?_eq_none (by simp;omega)]
theorem VL {n m:Nat}(h:SubN n m)(hn:n<=64) : Zf m=(List.range n).filter fun c=>m.testBit c:=by
 refine List.Perm.eq_of_pairwise (le:=(· < ·)) (fun a b _ _ h1 h2=>by omega) (Zw m) (List.Pairwise.filter _ List.pairwise_lt_range) ?_;refine(List.perm_ext_iff_of_nodup ((Zw m).imp fun h=>Nat.ne_of_lt h) ((List.Pairwise.filter _ List.pairwise_lt_range).imp fun h=>Nat.ne_of_lt h)).2 fun c=>?_
 rw[Z4];simp only[List.mem_filter,List.mem_range]
 constructor
 ·rintro ⟨h1,h2⟩
  exact⟨h.2 c (Z4.2 ⟨h1,h2⟩),h2⟩
 ·rintro ⟨h1,h2⟩
  exact⟨by omega,h2⟩
def V3 (m:Nat)(w:World)(e:Ending)(w':World) : Prop:=∃ A c,e=.returned (.tuple #[.slice A (Zf m).length c,.bool true])/\OwI w' w.heap.size A c (Zd (Zf m))/\Ext w w'
def Zfo (r:Option Nat)(w:World)(e:Ending)(w':World) : Prop:=match r with
 | none=>e=.returned (.tuple #[.slice none 0 0,.bool false])/\Ext w w'
 | some m=>V3 m w e w'
def YT (m k:Nat) : List Nat:=(List.range k).filter fun c=>m.testBit c
theorem Zbt (m k:Nat) : YT m (k+1)=YT m k++if m.testBit k=true then [k] else []:=by
 unfold YT;rw[List.range_succ,List.filter_append]
 by_cases h:m.testBit k=true
 ·rw[if_pos h];simp[h]
 ·rw[if_neg h];simp[h]
theorem Zc9 (m k:Nat) : (YT m k).length<=k:=by
 have:=List.length_filter_le (fun c=>m.testBit c) (List.range k)
 rwa [List.length_range] at this
theorem Zbu (i:InstP)(us:List Value)(P:Option Addr)(pc:Nat)(p:List Int)(w:World)(H:RInst w us i)(n:Nat)(hn:i.n=n)(h1:1<=n)(h24:n<=24)(hP:RdI w P p)(lp:p.length<=1000000000) :
  Calls Tryz.prog 151 #[.agg (List.toArray us),.slice P p.length pc] w (Zfo (Z1 n p) w):=by
 obtain⟨kind,nn,cap,xw,xv,co⟩:=i;obtain⟨A,a,B,b,D,d,rfl,-,-,-⟩:=H;simp only at *;subst hn;have UF:=Hd (Xr h24);obtain⟨r,hr⟩:∃ r,Hid (Z1 n p=r):=⟨_,rfl⟩;rw[hr.out];unfold Z1 at hr;replace hP:=Hd hP;have B1:Hid (Blk (w.alloc (.cells #[.int .i64 kind,.int .i64 n,.int .i64 cap,.slice A xw.length a,.slice B xv.length b,.slice D co.length d] 25)) w.heap.size 25 #[.int .i64 kind,.int .i64 n,.int .i64 cap,.slice A xw.length a,.slice B xv.length b,.slice D co.length d]):=.new rfl
 by_cases hlen:n<p.length
 ·have hr2:Hid (r=none):=by
   have h:=hr.out;rw[if_pos hlen] at h;exact h.symm
  have hlb:(n:Int)<(p.length:Int):=by omega
  rw[hr2.out];unfold Zfo;clear hr hr2;go_enter Tryz.func151,Tryz.ntmps151;go_wp2_with (fail);go_ret2;exact⟨rfl,by(repeat (first | assumption | exact Ext.rf _ | apply Ext.drew | apply Ext.drewN | apply Ext.alloc))⟩
 ·have hr2:Hid (Yj (2^n-1) p=r):=by
   have h:=hr.out;rw[if_neg hlen] at h;exact h
  have hlb:¬(n:Int)<(p.length:Int):=by omega
  obtain⟨m0,hm0⟩:∃ m0,Hid (m0=2^n-1):=⟨2^n-1,by exact rfl⟩;have FU2:Hid (Xh n m0=ZiP):=by rw[hm0.out];exact ZaB h24
  rw[<-hm0.out] at hr2 UF;have START:Hid (Ext w ((w.alloc (.cells #[.int .i64 kind,.int .i64 n,.int .i64 cap,.slice A xw.length a,.slice B xv.length b,.slice D co.length d] 25)).alloc (.cells #[.bool false,.bool false,.bool false,.bool false,.bool false,.bool false,.bool false,.bool false,.bool false,.bool false,.bool false,.bool false,.bool false,.bool false,.bool false,.bool false,.bool false,.bool false,.bool false,.bool false,.bool false,.bool false,.bool false,.bool false] 228))/\Blk ((w.alloc (.cells #[.int .i64 kind,.int .i64 n,.int .i64 cap,.slice A xw.length a,.slice B xv.length b,.slice D co.length d] 25)).alloc (.cells #[.bool false,.bool false,.bool false,.bool false,.bool false,.bool false,.bool false,.bool false,.bool false,.bool false,.bool false,.bool false,.bool false,.bool false,.bool false,.bool false,.bool false,.bool false,.bool false,.bool false,.bool false,.bool false,.bool false,.bool false] 228)) w.heap.size 25 #[.int .i64 kind,.int .i64 n,.int .i64 cap,.slice A xw.length a,.slice B xv.length b,.slice D co.length d]/\Blk ((w.alloc (.cells #[.int .i64 kind,.int .i64 n,.int .i64 cap,.slice A xw.length a,.slice B xv.length b,.slice D co.length d] 25)).alloc (.cells #[.bool false,.bool false,.bool false,.bool false,.bool false,.bool false,.bool false,.bool false,.bool false,.bool false,.bool false,.bool false,.bool false,.bool false,.bool false,.bool false,.bool false,.bool false,.bool false,.bool false,.bool false,.bool false,.bool false,.bool false] 228)) (w.heap.size+1) 228 (Xh n m0)) :=
   ⟨((Ext.rf _).alloc _).alloc _,B1.out.alloc _,by rw[FU2.out];exact .new (by simp)⟩
  clear hr;go_enter Tryz.func151,Tryz.ntmps151;go_wp2_with (fail);go_loopw [7] (fun v wr=>∃ (k m:Nat),v=.int .i64 k/\k<=p.length/\Hid (Yj m (p.drop k)=r)/\Hid (SubN n m)/\Hid (Ext w wr/\Blk wr w.heap.size 25 #[.int .i64 kind,.int .i64 n,.int .i64 cap,.slice A xw.length a,.slice B xv.length b,.slice D co.length d]/\Blk wr (w.heap.size+1) 228 (Xh n m))) (fun v _=>p.length-(intOf v).toNat)
  case atStart=>exact⟨0,m0,rfl,by omega,hr2,UF,START⟩
  case round =>
   obtain⟨wo,rfl⟩:∃ wo:World,wo=wr:=⟨_,rfl⟩;clear START FU2;obtain⟨k,m,rfl,hk,HF,HU,HH⟩:=hrel;obtain⟨Y,bI,bU⟩:=HH.out;have cN:=bI.c1;replace Y:=Hd Y;replace bI:=Hd bI;replace bU:=Hd bU;clear HH
   by_cases hlt:k<p.length
   ·obtain⟨pb,po,c,rfl,zp,cp,ep,dp⟩:=(hP.out.ext Y.out).at hlt
    have HF2:Hid (r=if 0<=c/\c<64/\m.testBit c.toNat=true then Yj (ZL m c.toNat) (p.drop (k+1)) else none):=by
     have h:=HF.out;rw[dp.out,ZeA] at h;exact h.symm
    have q1:(k:Int)<(p.length:Int):=by omega
    clear HF ep dp
    by_cases c0:c<0
    ·have HN:Hid (r=none):=by
      have h:=HF2.out;rw[if_neg (by omega)] at h;exact h
     have t0:decide (c<0)=true:=decide_eq_true c0;go_wp2_with (fail);go_quiet (fail);go_wp2_with (fail);go_ret2;rw[HN.out];exact⟨rfl,Y.out.drewN _⟩
    ·have t0:decide (c<0)=false:=decide_eq_false c0
     obtain⟨ci,rfl⟩:∃ ci:Nat,c=(ci:Int):=⟨c.toNat,by omega⟩;rw[Int.toNat_natCast] at HF2;clear c0 t0
     by_cases c1:n<=ci
     ·have HN:Hid (r=none):=by
       have h:=HF2.out;rw[if_neg (by rintro ⟨_,h1,h2⟩;have:=HU.out.2 ci (Z4.2 ⟨by omega,h2⟩);omega)] at h;exact h
      have t1:decide (n<=ci)=true:=decide_eq_true c1;have t2:decide ((n:Int)<=(ci:Int))=true:=decide_eq_true (by omega);go_wp2_with (fail);go_quiet (fail);go_wp2_with (fail);go_ret2;rw[HN.out];exact⟨rfl,Y.out.drewN _⟩
     ·have t1:decide (n<=ci)=false:=decide_eq_false c1
      have t2:decide ((n:Int)<=(ci:Int))=false:=decide_eq_false (by omega);have cin:ci<n:=by omega
      have ci24:(ci:Int)<24:=by omega
      have dn:decide (ci<n)=true:=decide_eq_true cin
      cases hb:m.testBit ci with
      | false =>
       have HN:Hid (r=none):=by
        have h:=HF2.out;rw[if_neg (by rintro ⟨_,h1,h2⟩;rw[hb] at h2;cases h2)] at h;exact h
       have cu:wo.cell? ⟨w.heap.size+1,ci,none⟩=some (.bool true):=by rw[bU.out.cell,Xi (by omega),dn,hb];rfl
       clear HF2 hb dn;go_wp2_with (fail);go_quiet (fail);go_wp2_with (fail);go_ret2;rw[HN.out];exact⟨rfl,Y.out.drewN _⟩
      | true =>
       have HF3:Hid (Yj (ZL m ci) (p.drop (k+1))=r):=by
        have h:=HF2.out;rw[if_pos ⟨by omega,by omega,hb⟩] at h;exact h.symm
       have cu:wo.cell? ⟨w.heap.size+1,ci,none⟩=some (.bool false):=by rw[bU.out.cell,Xi (by omega),dn,hb];rfl
       have fu:=bU.out.free ci;have HU2:=Hd (HU.out.clr ci);have NX:Hid (∀ q,Ext w ((wo.drewN q).setCell ⟨w.heap.size+1,ci,none⟩ (.bool true))/\Blk ((wo.drewN q).setCell ⟨w.heap.size+1,ci,none⟩ (.bool true)) w.heap.size 25 #[.int .i64 kind,.int .i64 n,.int .i64 cap,.slice A xw.length a,.slice B xv.length b,.slice D co.length d]/\Blk ((wo.drewN q).setCell ⟨w.heap.size+1,ci,none⟩ (.bool true)) (w.heap.size+1) 228 (Xh n (ZL m ci))):=by
        intro q;refine⟨(Y.out.drewN q).setNew (by simp) _,(bI.out.drewN q).far (by simp) _,?_⟩;rw[<-JA HU.out.1 cin];exact(bU.out.drewN q).set ci _
       clear HF2 hb dn;generalize ZL m ci=m2 at *;go_wp2_with (fail);go_quiet (fail);go_wp2_with (fail);go_roundw
       case rel=>exact⟨k+1,m2,by go_num,by omega,HF3,HU2,NX.out _⟩
       case measure=>simp[intOf];omega
   ·have HF2:Hid (some m=r):=by
     have h:=HF.out;rw[show p.drop k=[] from List.drop_of_length_le (by omega)] at h;exact h
    have q1:¬(k:Int)<(p.length:Int):=by omega
    have HM:Hid (Zf m=YT m n):=VL HU.out (by omega);have X9:=Hd (Y.out.alloc (.cells #[] 3));have bI9:=Hd (bI.out.alloc (.cells #[] 3));have bU9:=Hd (bU.out.alloc (.cells #[] 3));have zY:=Y.out.size;have o9:Hid (OwI (wo.alloc (.cells #[] 3)) w.heap.size (some ⟨wo.heap.size,0,none⟩) 0 (Zd (YT m 0))):=OwI.new (xs:=[]) rfl zY (by simp[maxLen]);clear HF HU hr2;go_wp2_with (fail);go_loopw [9,8] (fun v o wr=>∃ (k:Nat) (A':Option Addr) (c':Nat),v=.int .i64 k/\o=.slice A' (YT m k).length c'/\k<=n/\Hid (OwI wr w.heap.size A' c' (Zd (YT m k)))/\Hid (Ext w wr)/\Hid (Blk wr w.heap.size 25 #[.int .i64 kind,.int .i64 n,.int .i64 cap,.slice A xw.length a,.slice B xv.length b,.slice D co.length d])/\Hid (Blk wr (w.heap.size+1) 228 (Xh n m))) (fun v _ _=>n-(intOf v).toNat)
    case atStart=>exact⟨0,_,_,rfl,rfl,by omega,o9,X9,bI9,bU9⟩
    case round =>
     obtain⟨wi,rfl⟩:∃ wi:World,wi=wr:=⟨_,rfl⟩;obtain⟨j,A',c',rfl,rfl,hj,oJ,YJ,bIJ,bUJ⟩:=hrel;clear X9 bI9 bU9 o9;have cN2:=bIJ.out.c1;have US:=Hd (Zbt m j);have UL:=Zc9 m j
     by_cases hjn:j<n
     ·have j24:(j:Int)<24:=by omega
      have dn:decide (j<n)=true:=decide_eq_true hjn;have q3:(j:Int)<(n:Int):=by omega
      cases hb:m.testBit j with
      | false =>
       have cu:wi.cell? ⟨w.heap.size+1,j,none⟩=some (.bool true):=by rw[bUJ.out.cell,Xi (by omega),dn,hb];rfl
       have HE:Hid (YT m (j+1)=YT m j):=by
        have h:=US.out;rw[hb,if_neg (by simp),List.append_nil] at h;exact h
       clear US hb dn;go_wp2_with (fail);go_roundw
       case rel=>exact⟨j+1,A',c',by go_num,by rw[HE.out],by omega,by rw[HE.out];exact oJ,YJ,bIJ,bUJ⟩
       case measure=>simp[intOf];omega
      | true =>
       have cu:wi.cell? ⟨w.heap.size+1,j,none⟩=some (.bool false):=by rw[bUJ.out.cell,Xi (by omega),dn,hb];rfl
       have HE:Hid (YT m (j+1)=YT m j++[j]):=by
        have h:=US.out;rw[hb,if_pos rfl] at h;exact h
       have HE2:Hid (Zd (YT m (j+1))=Zd (YT m j)++[(j:Int)]):=Hd (by rw[HE.out];simp[Zd]);have HL:Hid ((YT m (j+1)).length=(YT m j).length+1):=Hd (by rw[HE.out];simp);have zJ:=YJ.out.size;have e0:(YT m j).length=(Zd (YT m j)).length:=(Zg _).symm;have l0:(Zd (YT m j)).length<=24:=by rw[Zg];omega
       rw[e0];clear US hb dn UL e0 HE;replace l0:=Hd l0;go_wp2_with (at_builtin;refine ZG _ rfl _ _ rfl w.heap.size A' (Zd (YT m j)).length c' (Zd (YT m j)) [(j:Int)] (some ⟨wi.heap.size,0,none⟩) 1 rfl rfl rfl ?_ ?_ ?_ ?_ ?_;(exact oJ.out.ext ((Ext.rf _).alloc _));(exact .blk (.new (by simp)) rfl);(have:=l0.out;simp;omega);(first | exact Nat.le_refl _ | omega | (focus (simp;try omega)));rintro A5 c5 w5 o5 g5 _;have X5:=Hd (Ext.grow (YJ.out.alloc _) g5 (fun k hk=>(oJ.out.lt k hk).1));have bI5:Hid (Blk w5 w.heap.size 25 #[.int .i64 kind,.int .i64 n,.int .i64 cap,.slice A xw.length a,.slice B xv.length b,.slice D co.length d]):=(bIJ.out.alloc _).mod (Mod.grown (S:=fun k=>bl A'=some k) g5 (fun _ h=>h)) (fun h=>absurd rfl (oJ.out.ne bIJ.out (by decide) _ h));have bU5:Hid (Blk w5 (w.heap.size+1) 228 (Xh n m)):=(bUJ.out.alloc _).mod (Mod.grown (S:=fun k=>bl A'=some k) g5 (fun _ h=>h)) (fun h=>absurd rfl (oJ.out.ne bUJ.out (by decide) _ h));rw[<-HE2.out] at o5;replace o5:=Hd o5;clear g5);go_roundw
       case rel=>exact⟨j+1,A5,c5,by go_num,by rw[HL.out,Zg],by omega,o5,X5,bI5,bU5⟩
       case measure=>simp[intOf];omega
     ·obtain rfl:j=n:=by omega
      have q3:¬(j:Int)<(j:Int):=by omega
      have FIN:Hid (V3 m w (.returned (.tuple #[.slice A' (YT m j).length c',.bool true])) wi):=⟨A',c',by rw[HM.out],by rw[HM.out];exact oJ.out,YJ.out⟩;clear US UL;go_wp2_with (fail);go_ret2;rw[<-HF2.out];exact FIN.out
theorem Zda (row:List Int)(x y:Nat) : Zbe (ltC (cfR row)) x y=(decide (row.getD x 0<row.getD y 0) || (decide (row.getD x 0=row.getD y 0)&&decide (x<y))):=by
 unfold Zbe ltC cfR;rw[Bool.eq_iff_iff];simp only[Bool.or_eq_true,Bool.and_eq_true,Bool.not_eq_true',decide_eq_true_eq,decide_eq_false_iff_not];omega
theorem Zfp {l:List Nat}(h:l.Pairwise (· < ·)){i j x y:Nat}(hx:l[i]?=some x)(hy:l[j]?=some y) : decide (x<y)=decide (i<j):=by
 obtain⟨h1,rfl⟩:=List.getElem?_eq_some_iff.1 hx;obtain⟨h2,rfl⟩:=List.getElem?_eq_some_iff.1 hy;rw[decide_eq_decide];rcases Nat.lt_trichotomy i j with hc | hc | hc
 ·exact⟨fun _=>hc,fun _=>List.pairwise_iff_getElem.1 h i j h1 h2 hc⟩
 ·subst hc;omega
 ·have:=List.pairwise_iff_getElem.1 h j i h2 h1 hc
  omega
theorem Zdb (i:InstP)(us:List Value)(P:Option Addr)(pc:Nat)(p:List Int)(w:World)(H:RInst w us i)(ok:SquareOk i)(hP:RdI w P p)(lp:p.length<=1000000000) :
  Calls Tryz.prog 116 #[.agg (List.toArray us),.slice P p.length pc] w (Qf (V2 i.cost p).1 (V2 i.cost p).2 w):=by
 have rok:=ZF ok;have l1:=rok.n1;have l2:=rok.n2;have hnn:i.n=(i.cost.length:Int):=ok.len.symm;have FR:=fun(W:World) (x:Ext w W)=>Zbu i us P pc p W (H.ext x) i.cost.length hnn l1 l2 (hP.ext x) lp
 clear ok;obtain⟨kind,nn,cap,xw,xv,co⟩:=i;obtain⟨A,a,B,b,D,d,rfl,-,-,⟨hC,-,-⟩⟩:=H;simp only at *;subst hnn;obtain⟨r,hr⟩:∃ r,Hid (Z1 co.length p=r):=⟨_,rfl⟩;rw[hr.out] at FR;replace hP:=Hd hP;have B1:Hid (Blk (w.alloc (.cells #[.int .i64 kind,.int .i64 co.length,.int .i64 cap,.slice A xw.length a,.slice B xv.length b,.slice D co.length d] 25)) w.heap.size 25 #[.int .i64 kind,.int .i64 co.length,.int .i64 cap,.slice A xw.length a,.slice B xv.length b,.slice D co.length d]):=.new rfl
 cases r with
 | none =>
  have e:V2 co p=([],1):=by unfold V2;rw[hr.out]
  rw[e];unfold Zfo at FR;replace FR:=Hd FR;go_enter Tryz.func116,Tryz.ntmps116;go_wp2_with (fail);refine(FR.out _ (by(repeat (first | assumption | exact Ext.rf _ | apply Ext.drew | apply Ext.drewN | apply Ext.alloc)))).mono ?_;rintro e w1 ⟨rfl,x1⟩;have X1:=Hd (Ext.tr (a:=w) (by(repeat (first | assumption | exact Ext.rf _ | apply Ext.drew | apply Ext.drewN | apply Ext.alloc))) x1);clear x1;go_wp2_with (fail);go_ret2;exact⟨none,0,rfl,OwI.nil _ _,X1.out⟩
 | some m =>
  obtain⟨hpl,hin,hS⟩:=XD l2 hr.out;have hlen:=ZZ l2 hr.out;have e:V2 co p=(Zd (Wb (ltC (cfR (co.getD p.length []))) (Zf m)),0):=by unfold V2;rw[hr.out]
  rw[e];clear e;have hsub:=Hd hS.2;have hsrt:=Hd (Zw m);replace FR:=fun(W:World) (x:Ext w W)=>(show Calls _ _ _ W (V3 m W) from FR W x)
  unfold V3 at FR;replace FR:=Hd FR;clear hr hS hin;generalize Zf m=l at *
  by_cases hpn:p.length=co.length
  ·obtain rfl:l=[]:=List.eq_nil_of_length_eq_zero (by omega)
   have e:Wb (ltC (cfR (co.getD p.length []))) []=[]:=rfl;rw[e];have hb:((p.length:Int)==(co.length:Int))=true:=by rw[beq_iff_eq];omega
   replace hpn:=Hd hpn;clear e;go_enter Tryz.func116,Tryz.ntmps116;go_wp2_with (fail);refine(FR.out _ (by(repeat (first | assumption | exact Ext.rf _ | apply Ext.drew | apply Ext.drewN | apply Ext.alloc)))).mono ?_;rintro e w1 ⟨A1,c1,rfl,o1,x1⟩;have X1:=Hd (Ext.tr (a:=w) (by(repeat (first | assumption | exact Ext.rf _ | apply Ext.drew | apply Ext.drewN | apply Ext.alloc))) x1);have BB:=B1.out.ext x1;have d1:=BB.c1;clear x1 o1 BB;go_wp2_with (fail);go_ret2;exact⟨none,0,rfl,OwI.nil _ _,X1.out⟩
  ·have hb:((p.length:Int)==(co.length:Int))=false:=by rw[beq_eq_false_iff_ne];omega
   have hkr:p.length<co.length:=by omega
   have er:co[p.length]?=some co[p.length]:=List.getElem?_eq_getElem hkr;have eg:co.getD p.length []=co[p.length]:=by simp[List.getD,er]
   rw[eg];clear eg;replace hC:=Hd hC;have hmem:co[p.length]∈co:=List.getElem_mem hkr;have lrow:=rok.row _ hmem;clear hmem;have HCO:Hid (∀ W,Ext w W->∃ bb off D' row d',D=some ⟨bb,off,none⟩/\W.cell? ⟨bb,off+p.length,none⟩=some (.slice D' row.length d')/\RdI W D' row/\row=co[p.length]):=by
    intro W x;obtain⟨bb,off,D',row,d',h1,_,h3,h4,_,h6,_⟩:=(hC.out.ext x fun _ _ h=>h.ext x).ints hkr;refine⟨bb,off,D',row,d',h1,h3,h6,?_⟩;have:=h4.out;rw[er] at this;exact(Option.some.inj this).symm
   generalize co[p.length]=row0 at *;clear er;have q1:(p.length:Int)<(co.length:Int):=by omega
   have hl24:l.length<=24:=by omega
   replace lrow:=Hd lrow;replace hlen:=Hd hlen;clear hpn;go_enter Tryz.func116,Tryz.ntmps116;go_wp2_with (fail);refine(FR.out _ (by(repeat (first | assumption | exact Ext.rf _ | apply Ext.drew | apply Ext.drewN | apply Ext.alloc)))).mono ?_;rintro e w1 ⟨A1,c1,rfl,o1,x1⟩;have X1:=Hd (Ext.tr (a:=w) (by(repeat (first | assumption | exact Ext.rf _ | apply Ext.drew | apply Ext.drewN | apply Ext.alloc))) x1);have BB:=Hd (B1.out.ext x1);obtain⟨bb,off,D',row,d',rfl,cD,rD,rfl⟩:=HCO.out _ X1.out;have d1:=BB.out.c1;have d5:=BB.out.c5;have z1:=X1.out.size;have zo:=o1.lt;replace o1:=Hd o1.read;replace rD:=Hd rD;clear x1 HCO zo;go_wp2_with (at_make;refine Xd _ rfl _ _ rfl w1.heap.size _ _ l.length rfl rfl rfl rfl (by omega) (Nat.le_refl _) ?_;rintro w3 o3 g3);have x3:Ext w1 w3:=(Ext.rf _).grownNone g3;have S3:Hid (OwI w3 w1.heap.size (some ⟨w1.heap.size,0,none⟩) l.length (Yk (ZA (ltC (cfR row)) l) l 0)/\Ext w1 w3):=⟨o3,x3⟩;clear o3 g3 x3 d1 d5 cD;go_wp2_with (fail);go_loopw [10] (fun v wr=>∃ k:Nat,v=.int .i64 k/\k<=l.length/\Hid (OwI wr w1.heap.size (some ⟨w1.heap.size,0,none⟩) l.length (Yk (ZA (ltC (cfR row)) l) l k)/\Ext w1 wr)) (fun v _=>l.length-(intOf v).toNat)
   case atStart=>exact⟨0,rfl,by omega,S3⟩
   case round =>
    obtain⟨wo,rfl⟩:∃ wo:World,wo=wr:=⟨_,rfl⟩;obtain⟨k,rfl,hk,HS⟩:=hrel;clear S3
    by_cases hlt:k<l.length
    ·have q2:(k:Int)<(l.length:Int):=by omega
     have ek:l[k]?=some l[k]:=List.getElem?_eq_getElem hlt;have hkm:l[k]∈l:=List.getElem_mem hlt;have HPK:Hid (Yk (ZA (ltC (cfR row)) l) l (k+1)=(Yk (ZA (ltC (cfR row)) l) l k).set (ZA (ltC (cfR row)) l l[k]) ((l[k]:Nat):Int)):=by
      have h:Yk (ZA (ltC (cfR row)) l) l (k+1)=(Yk (ZA (ltC (cfR row)) l) l k).set (ZA (ltC (cfR row)) l (l.getD k 0)) ((l.getD k 0:Nat):Int):=rfl;rw[show l.getD k 0=l[k] by simp[List.getD,ek]] at h;exact h
     have hxs:=hsub.out _ hkm;generalize l[k]=x at *;obtain⟨O,Y⟩:=HS.out;clear HS;replace O:=Hd O;replace Y:=Hd Y;go_wp2_with (fail);go_loopw [12,11] (fun v nv wr=>∃ j:Nat,v=.int .i64 j/\nv=.int .i64 (ZA (ltC (cfR row)) (l.take j) x:Nat)/\j<=l.length/\Hid (Ext wo wr)) (fun v _ _=>l.length-(intOf v).toNat)
     case atStart=>exact⟨0,rfl,rfl,by omega,Ext.rf _⟩
     case round =>
      obtain⟨wi,rfl⟩:∃ wi:World,wi=wr:=⟨_,rfl⟩;obtain⟨j,rfl,rfl,hj,YI⟩:=hrel;have hale:=Jy (ltC (cfR row)) (l.take j) x;rw[List.length_take] at hale;have rl:RdI wi A1 (Zd l):=(o1.out.ext Y.out).ext YI.out;have rr:RdI wi D' row:=(rD.out.ext Y.out).ext YI.out;obtain⟨lb,lo,xk,rfl,_,ck,exk,_⟩:=rl.at (k:=k) (by rw[Zg];exact hlt);obtain rfl:xk=(x:Int):=by
       have h:=exk.out;rw[ZD ek] at h;exact(Option.some.inj h).symm
      obtain⟨rb,ro,yk,rfl,_,cxk,eyk,_⟩:=rr.at (k:=x) (by rw[lrow.out];exact hxs);have gk:row.getD x 0=yk:=getD_some eyk.out;clear exk eyk
      by_cases hjl:j<l.length
      ·have q3:(j:Int)<(l.length:Int):=by omega
       have ej:l[j]?=some l[j]:=List.getElem?_eq_getElem hjl;have hjs:=hsub.out _ (List.getElem_mem hjl);have HA:Hid (ZA (ltC (cfR row)) (l.take (j+1)) x=ZA (ltC (cfR row)) (l.take j) x+if Zbe (ltC (cfR row)) l[j] x=true then 1 else 0):=by
        have h:l.take (j+1)=l.take j++[l[j]]:=by rw[List.take_add_one,ej];rfl
        have h2:=UR (ltC (cfR row)) (l.take j) x l[j];rw[<-h] at h2;exact h2
       have HB:=Zfp hsrt.out ej ek;generalize l[j]=y at *;obtain⟨lb2,lo2,xj,hq,_,cj,exj,_⟩:=rl.at (k:=j) (by rw[Zg];exact hjl);obtain⟨rfl,rfl⟩:lb=lb2/\lo=lo2:=by simpa using hq
       obtain rfl:xj=(y:Int):=by
        have h:=exj.out;rw[ZD ej] at h;exact(Option.some.inj h).symm
       obtain⟨rb2,ro2,yj,hq2,_,cxj,eyj,_⟩:=rr.at (k:=y) (by rw[lrow.out];exact hjs);obtain⟨rfl,rfl⟩:rb=rb2/\ro=ro2:=by simpa using hq2
       have gj:row.getD y 0=yj:=getD_some eyj.out;have HA2:Hid (ZA (ltC (cfR row)) (l.take (j+1)) x=ZA (ltC (cfR row)) (l.take j) x+if (decide (yj<yk) || (decide (yj=yk)&&decide (j<k)))=true then 1 else 0):=by
        have h:=HA.out;rw[Zda,gj,gk,HB] at h;exact h
       have qx:(x:Int)<(row.length:Int):=by rw[lrow.out];omega
       have qy:(y:Int)<(row.length:Int):=by rw[lrow.out];omega
       clear HA HB ej exj eyj hq hq2 gj gk rl rr;generalize ZA (ltC (cfR row)) (l.take j) x=ah at *
       by_cases t1:yj<yk
       ·have d1:decide (yj<yk)=true:=decide_eq_true t1
        have HA3:Hid (ZA (ltC (cfR row)) (l.take (j+1)) x=ah+1):=by
         have h:=HA2.out;rw[d1,Bool.true_or,if_pos rfl] at h;exact h
        clear HA2;go_wp2_with (fail);go_quiet (fail);go_wp2_with (fail);go_roundw
        case rel=>exact⟨j+1,by go_num,by rw[HA3.out];go_num,by omega,YI.out.drewN _⟩
        case measure=>simp[intOf];omega
       ·have d1:decide (yj<yk)=false:=decide_eq_false t1
        by_cases t2:yj=yk
        ·have d2:(yj==yk)=true:=by rw[beq_iff_eq];exact t2
         have d2':decide (yj=yk)=true:=decide_eq_true t2;replace t2:=Hd t2
         by_cases t3:j<k
         ·have d3:decide (j<k)=true:=decide_eq_true t3
          have HA3:Hid (ZA (ltC (cfR row)) (l.take (j+1)) x=ah+1):=by
           have h:=HA2.out;rw[d1,d2',d3] at h;exact h
          clear HA2 d2';go_wp2_with (fail);go_quiet (fail);go_wp2_with (fail);go_roundw
          case rel=>exact⟨j+1,by go_num,by rw[HA3.out];go_num,by omega,YI.out.drewN _⟩
          case measure=>simp[intOf];omega
         ·have d3:decide (j<k)=false:=decide_eq_false t3
          have HA3:Hid (ZA (ltC (cfR row)) (l.take (j+1)) x=ah):=by
           have h:=HA2.out;rw[d1,d2',d3] at h;exact h
          clear HA2 d2';go_wp2_with (fail);go_quiet (fail);go_wp2_with (fail);go_roundw
          case rel=>exact⟨j+1,by go_num,by rw[HA3.out],by omega,YI.out.drewN _⟩
          case measure=>simp[intOf];omega
        ·have d2:(yj==yk)=false:=by rw[beq_eq_false_iff_ne];exact t2
         have d2':decide (yj=yk)=false:=decide_eq_false t2;have HA3:Hid (ZA (ltC (cfR row)) (l.take (j+1)) x=ah):=by
          have h:=HA2.out;rw[d1,d2'] at h;exact h
         clear HA2 d2';go_wp2_with (fail);go_quiet (fail);go_wp2_with (fail);go_roundw
         case rel=>exact⟨j+1,by go_num,by rw[HA3.out],by omega,YI.out.drewN _⟩
         case measure=>simp[intOf];omega
      ·obtain rfl:j=l.length:=by omega
       have q3:¬(l.length:Int)<(l.length:Int):=by omega
       have e0:l.take l.length=l:=List.take_length;rw[e0];have hal:ZA (ltC (cfR row)) l x<l.length:=by
        have W:=Q0 row;obtain⟨k',hk',e'⟩:=List.mem_iff_getElem.1 ((WV W hsrt.out).mem.2 hkm);rw[VZ W hsrt.out (by rw[List.getElem?_eq_getElem hk',e'])]
        rwa [Xs] at hk'
       clear e0 hale gk;generalize ZA (ltC (cfR row)) l x=ah at *;obtain⟨v9,c9,f9,_,_,s9⟩:=OwI.cell (OwI.ext O.out YI.out) (k:=ah) (by rw[Xg];exact hal);have q4:(ah:Int)<(l.length:Int):=by omega
       have NX:Hid (∀ W2,Ext wi W2->OwI (W2.setCell ⟨w1.heap.size,ah,none⟩ (.int .i64 x)) w1.heap.size (some ⟨w1.heap.size,0,none⟩) l.length (Yk (ZA (ltC (cfR row)) l) l (k+1))/\Ext w1 (W2.setCell ⟨w1.heap.size,ah,none⟩ (.int .i64 x))):=by
        intro W2 x2;rw[HPK.out];obtain⟨_,_,_,_,_,s8⟩:=OwI.cell (OwI.ext (OwI.ext O.out YI.out) x2) (k:=ah) (by rw[Xg];exact hal);exact⟨s8.out _,((Y.out.tr YI.out).tr x2).setNew (p:=⟨w1.heap.size,ah,none⟩) (Nat.le_refl _) _⟩
       clear s9 HPK rl rr;go_wp2_with (first | go_quiet (fail) | go_region);go_roundw
       case rel=>exact⟨k+1,by go_num,by omega,NX.out _ (by(repeat (first | assumption | exact Ext.rf _ | apply Ext.drew | apply Ext.drewN | apply Ext.alloc)))⟩
       case measure=>simp[intOf];omega
    ·obtain rfl:k=l.length:=by omega
     have q2:¬(l.length:Int)<(l.length:Int):=by omega
     have FIN:Hid (Qf (Zd (Wb (ltC (cfR row)) l)) 0 w (.returned (.tuple #[.slice (some ⟨w1.heap.size,0,none⟩) l.length l.length,.int .i64 0])) wo):=by
      refine⟨some ⟨w1.heap.size,0,none⟩,l.length,by rw[Zg,Xs],?_,X1.out.tr HS.out.2⟩;have h:=HS.out.1;rw[QB (Q0 row) hsrt.out] at h;exact OwI.more h z1
     clear HS;go_wp2_with (fail);go_ret2;exact FIN.out
end Go.Proofs.YtmojhhlcocjoaaaGreatDoor
