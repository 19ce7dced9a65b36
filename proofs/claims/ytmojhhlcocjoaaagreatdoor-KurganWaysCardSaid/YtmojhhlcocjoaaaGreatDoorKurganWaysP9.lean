/- packed and squeezed by programs (see wip/) -/
import Derived.Test.YtmojhhlcocjoaaaGreatDoorKurganWaysP8
import Derived.SizedLaws
import Derived.LaidMore
import Derived.Lay
import Derived.SevenTiedAt
import Derived.Stop.Joined
import Derived.Test.YtmojhhlcocjoaaaGreatDoorRows
set_option maxRecDepth 100000
set_option maxHeartbeats 16000000
set_option linter.unusedVariables false
set_option linter.unusedSimpArgs false
namespace Go.Proofs.YtmojhhlcocjoaaaGreatDoor
open Go.RowKit Go.ChangeShapes Go.WideShapes Go.ChangeAt Go.Deep
def Qv (ws:List Int)(cap b:Int) : Prop:=b=-1\/∃ (k:Nat) (x:Int),b=k/\ws[k]?=some x/\x<=cap
def U9 (i:InstP)(w:World)(e:Ending)(w':World) : Prop:=∃ b:Int,e=.returned (.int .i64 b)/\Qv i.weight i.cap b/\Ext w w'
theorem Zd3 (i:InstP)(us:List Value)(w:World)(H:RInst w us i)(hl:i.weight.length=i.value.length)(l64:i.weight.length<=1000) :
  Calls Tryz.prog 130 #[.agg (List.toArray us)] w (U9 i w):=by
 unfold U9;obtain⟨kind,nn,cap,xw,xv,co⟩:=i;obtain⟨A,a,B,b,D,d,rfl,⟨hA,-,-,-⟩,⟨hB,-,-,-⟩,-⟩:=H;simp only at *;have B1:Hid (Blk (w.alloc (.cells #[.int .i64 kind,.int .i64 nn,.int .i64 cap,.slice A xw.length a,.slice B xv.length b,.slice D co.length d] 25)) w.heap.size 25 #[.int .i64 kind,.int .i64 nn,.int .i64 cap,.slice A xw.length a,.slice B xv.length b,.slice D co.length d]):=.new rfl;have ST:Hid (Ext w (w.alloc (.cells #[.int .i64 kind,.int .i64 nn,.int .i64 cap,.slice A xw.length a,.slice B xv.length b,.slice D co.length d] 25))/\Blk (w.alloc (.cells #[.int .i64 kind,.int .i64 nn,.int .i64 cap,.slice A xw.length a,.slice B xv.length b,.slice D co.length d] 25)) w.heap.size 25 #[.int .i64 kind,.int .i64 nn,.int .i64 cap,.slice A xw.length a,.slice B xv.length b,.slice D co.length d]):=Hd ⟨(Ext.rf w).alloc _,B1.out⟩;clear B1;replace hA:=Hd hA;replace hB:=Hd hB;replace hl:=Hd hl;go_enter Tryz.func130,Tryz.ntmps130;go_wp2_with (fail);go_loopw [3,9] (fun v3 v9 wr=>∃ (k:Nat) (bb:Int),v3=.int .i64 bb/\v9=.int .i64 k/\k<=xw.length/\Hid (Qv xw cap bb)/\Hid (Ext w wr/\Blk wr w.heap.size 25 #[.int .i64 kind,.int .i64 nn,.int .i64 cap,.slice A xw.length a,.slice B xv.length b,.slice D co.length d])) (fun _ v9 _=>xw.length-(intOf v9).toNat)
 case atStart=>exact⟨0,-1,rfl,rfl,by omega,Hd (.inl rfl),ST⟩
 case round =>
  obtain⟨wo,rfl⟩:∃ wo:World,wo=wr:=⟨_,rfl⟩;obtain⟨k,bb,rfl,rfl,hk,hb,HH⟩:=hrel
  by_cases hkl:(k:Int)<(xw.length:Int)
  ·have hk2:k<xw.length:=by omega
   have hl9:=hl.out;obtain⟨pb,po,x,rfl,zb,cx,ex,-⟩:=(hA.out.ext HH.out.1).at (k:=k) hk2;have hv:Hid (∃ qb qo,B=some ⟨qb,qo,none⟩/\∀ j y,xv[j]?=some y->wo.cell? ⟨qb,qo+j,none⟩=some (.int .i64 y)):=by
    rcases(hB.out.ext HH.out.1) with h | ⟨qb,qo,h1,h2,h3⟩
    ·have:xw.length=0:=by rw[hl9,h];rfl
     omega
    ·exact⟨qb,qo,h1,h3⟩
   obtain⟨qb,qo,rfl,cq⟩:=hv.out;obtain⟨y,ey⟩:∃ y,xv[k]?=some y:=⟨_,List.getElem?_eq_getElem (by omega)⟩;have cy:=cq k y ey;have t2:=HH.out.2.c2;have t4:=HH.out.2.c4;have q1:(k:Int)<(xv.length:Int):=by omega
   replace ey:=Hd ey
   by_cases c1:x<=cap
   ·have g1:decide (x<=cap)=true:=decide_eq_true c1
    have NW:Hid (Qv xw cap k):=Hd (.inr ⟨k,x,rfl,ex.out,c1⟩);rcases hb.out with rfl | ⟨m,z,rfl,ez,hz⟩
    ·clear hb cq hv c1 ex hl9
     go_wp2_with (go_quiet (fail));go_roundw
     case rel=>exact⟨k+1,k,rfl,by go_num,by omega,NW,HH.out.1.tr (by(repeat (first | assumption | exact Ext.rf _ | apply Ext.drew | apply Ext.drewN | apply Ext.alloc))),HH.out.2.ext (by(repeat (first | assumption | exact Ext.rf _ | apply Ext.drew | apply Ext.drewN | apply Ext.alloc)))⟩
     case measure=>(simp only[intOf];omega)
    ·have hm:m<xw.length:=(List.getElem?_eq_some_iff.1 ez).1
     obtain⟨u,eu⟩:∃ u,xv[m]?=some u:=⟨_,List.getElem?_eq_getElem (by omega)⟩;have cu:=cq m u eu;have g2:decide ((m:Int)<0)=false:=decide_eq_false (by omega);have q2:(m:Int)<(xv.length:Int):=by omega
     have q3:¬(m:Int)<0:=by omega
     by_cases c3:u<y
     ·have g3:decide (u<y)=true:=decide_eq_true c3
      clear cq hv c1 ex hl9 c3 eu ez hz;go_wp2_with (go_quiet (fail));go_roundw
      case rel=>exact⟨k+1,k,rfl,by go_num,by omega,NW,HH.out.1.tr (by(repeat (first | assumption | exact Ext.rf _ | apply Ext.drew | apply Ext.drewN | apply Ext.alloc))),HH.out.2.ext (by(repeat (first | assumption | exact Ext.rf _ | apply Ext.drew | apply Ext.drewN | apply Ext.alloc)))⟩
      case measure=>(simp only[intOf];omega)
     ·have g3:decide (u<y)=false:=decide_eq_false c3
      clear cq hv c1 ex hl9 c3 eu ez hz;go_wp2_with (go_quiet (fail));go_roundw
      case rel=>exact⟨k+1,m,rfl,by go_num,by omega,hb,HH.out.1.tr (by(repeat (first | assumption | exact Ext.rf _ | apply Ext.drew | apply Ext.drewN | apply Ext.alloc))),HH.out.2.ext (by(repeat (first | assumption | exact Ext.rf _ | apply Ext.drew | apply Ext.drewN | apply Ext.alloc)))⟩
      case measure=>(simp only[intOf];omega)
   ·have g1:decide (x<=cap)=false:=decide_eq_false c1
    clear cq hv c1 ex hl9;go_wp2_with (go_quiet (fail));go_roundw
    case rel=>exact⟨k+1,bb,rfl,by go_num,by omega,hb,HH.out.1.tr (by(repeat (first | assumption | exact Ext.rf _ | apply Ext.drew | apply Ext.drewN | apply Ext.alloc))),HH.out.2.ext (by(repeat (first | assumption | exact Ext.rf _ | apply Ext.drew | apply Ext.drewN | apply Ext.alloc)))⟩
    case measure=>(simp only[intOf];omega)
  ·go_wp2_with (fail)
   go_ret;exact⟨bb,rfl,hb.out,HH.out.1.tr (by(repeat (first | assumption | exact Ext.rf _ | apply Ext.drew | apply Ext.drewN | apply Ext.alloc)))⟩
def VH (us:List Bool)(w:World)(e:Ending)(w':World) : Prop:=∃ k:Nat,e=.returned (.int .i64 (k:Int))/\us[k]?=some false/\Ext w w'
theorem UI (row:List Int)(us:List Bool)(A B:Option Addr)(a b:Nat)(w:World)(hA:RdI w A row)(hB:RdV w 4 B (us.map Value.bool))(hl:us.length=row.length)(l64:row.length<=1000)(hf:∃ k:Nat,us[k]?=some false) :
  Calls Tryz.prog 131 #[.slice A row.length a,.slice B us.length b] w (VH us w):=by
 unfold VH;obtain⟨k0,hk0⟩:=hf;have hz0:us≠[]:=by rintro rfl;simp at hk0
 replace hk0:=Hd hk0;replace hA:=Hd hA;replace hB:=Hd hB;replace hl:=Hd hl;go_enter Tryz.func131,Tryz.ntmps131;go_wp2_with (fail);go_loopw [5,10] (fun v5 v10 wr=>∃ (k:Nat) (bb:Int),v5=.int .i64 bb/\v10=.int .i64 k/\k<=row.length/\Hid ((bb=-1/\∀ m,m<k->us[m]?=some true)\/∃ m:Nat,bb=m/\us[m]?=some false)/\Hid (Ext w wr)) (fun _ v10 _=>row.length-(intOf v10).toNat)
 case atStart=>exact⟨0,-1,rfl,rfl,by omega,Hd (.inl ⟨rfl,fun m hm=>by omega⟩),by(repeat (first | assumption | exact Ext.rf _ | apply Ext.drew | apply Ext.drewN | apply Ext.alloc))⟩
 case round =>
  obtain⟨wo,rfl⟩:∃ wo:World,wo=wr:=⟨_,rfl⟩;obtain⟨k,bb,rfl,rfl,hk,hb,X⟩:=hrel
  by_cases hkl:(k:Int)<(row.length:Int)
  ·have hk2:k<row.length:=by omega
   have hl9:=hl.out;have hv:Hid (∃ pb po,A=some ⟨pb,po,none⟩/\∀ j y,row[j]?=some y->wo.cell? ⟨pb,po+j,none⟩=some (.int .i64 y)):=by
    rcases(hA.out.ext X.out) with h | ⟨pb,po,h1,h2,h3⟩
    ·rw[h] at hk2;simp at hk2
    ·exact⟨pb,po,h1,h3⟩
   have hu:Hid (∃ ub uo,B=some ⟨ub,uo,none⟩/\∀ j v,(us.map Value.bool)[j]?=some v->wo.cell? ⟨ub,uo+j,none⟩=some v):=by
    rcases(hB.out.ext X.out).rdC with h | ⟨ub,uo,h1,h2,h3⟩
    ·rw[List.map_eq_nil_iff] at h;exact absurd h hz0
    ·exact⟨ub,uo,h1,h3⟩
   obtain⟨pb,po,rfl,cq⟩:=hv.out;obtain⟨ub,uo,rfl,uq⟩:=hu.out;obtain⟨x,ex⟩:∃ x,row[k]?=some x:=⟨_,List.getElem?_eq_getElem hk2⟩;obtain⟨v,ev⟩:∃ v,us[k]?=some v:=⟨_,List.getElem?_eq_getElem (by omega)⟩;have cx:=cq k x ex;have cv:=uq k (.bool v) (by rw[List.getElem?_map,ev];rfl);have q1:(k:Int)<(us.length:Int):=by omega
   replace ev:=Hd ev
   cases v with
   | true =>
    have NW:Hid ((bb=-1/\∀ m,m<k+1->us[m]?=some true)\/∃ m:Nat,bb=m/\us[m]?=some false):=by
     rcases hb.out with⟨h1,h2⟩ | h
     ·refine .inl ⟨h1,fun m hm=>?_⟩
      by_cases e:m=k
      ·rw[e];exact ev.out
      ·exact h2 m (by omega)
     ·exact .inr h
    clear cq uq hv hu ex hl9 hb;go_wp2_with (go_quiet (fail));go_roundw
    case rel=>exact⟨k+1,bb,rfl,by go_num,by omega,NW,X.out.tr (by(repeat (first | assumption | exact Ext.rf _ | apply Ext.drew | apply Ext.drewN | apply Ext.alloc)))⟩
    case measure=>(simp only[intOf];omega)
   | false =>
    have NW:Hid (((k:Int)=-1/\∀ m,m<k+1->us[m]?=some true)\/∃ m:Nat,(k:Int)=m/\us[m]?=some false):=Hd (.inr ⟨k,rfl,ev.out⟩);rcases hb.out with⟨rfl,-⟩ | ⟨m,rfl,em⟩
    ·clear cq uq hv hu ex hl9 hb
     go_wp2_with (go_quiet (fail));go_roundw
     case rel=>exact⟨k+1,k,rfl,by go_num,by omega,NW,X.out.tr (by(repeat (first | assumption | exact Ext.rf _ | apply Ext.drew | apply Ext.drewN | apply Ext.alloc)))⟩
     case measure=>(simp only[intOf];omega)
    ·have hm:m<us.length:=(List.getElem?_eq_some_iff.1 em).1
     obtain⟨z,ez⟩:∃ z,row[m]?=some z:=⟨_,List.getElem?_eq_getElem (by omega)⟩;have cz:=cq m z ez;have q2:(m:Int)<(row.length:Int):=by omega
     have q3:¬(m:Int)<0:=by omega
     have g2:decide ((m:Int)<0)=false:=decide_eq_false (by omega);have OLD:Hid (((m:Int)=-1/\∀ m,m<k+1->us[m]?=some true)\/∃ m9:Nat,(m:Int)=m9/\us[m9]?=some false):=Hd (.inr ⟨m,rfl,em⟩)
     by_cases c3:x<z
     ·have g3:decide (x<z)=true:=decide_eq_true c3
      clear cq uq hv hu ex hl9 hb em ez c3;go_wp2_with (go_quiet (fail));go_roundw
      case rel=>exact⟨k+1,k,rfl,by go_num,by omega,NW,X.out.tr (by(repeat (first | assumption | exact Ext.rf _ | apply Ext.drew | apply Ext.drewN | apply Ext.alloc)))⟩
      case measure=>(simp only[intOf];omega)
     ·have g3:decide (x<z)=false:=decide_eq_false c3
      clear cq uq hv hu ex hl9 hb em ez c3;go_wp2_with (go_quiet (fail));go_roundw
      case rel=>exact⟨k+1,m,rfl,by go_num,by omega,OLD,X.out.tr (by(repeat (first | assumption | exact Ext.rf _ | apply Ext.drew | apply Ext.drewN | apply Ext.alloc)))⟩
      case measure=>(simp only[intOf];omega)
  ·have hlast:∃ m:Nat,bb=m/\us[m]?=some false:=by
    rcases hb.out with⟨-,h2⟩ | h
    ·have h3:=(List.getElem?_eq_some_iff.1 hk0.out).1
     have h4:=h2 k0 (by have:=hl.out;omega);rw[hk0.out] at h4
     cases h4
    ·exact h
   obtain⟨m,rfl,em⟩:=hlast;replace em:=Hd em;go_wp2_with (fail);go_ret;exact⟨m,rfl,em.out,X.out.tr (by(repeat (first | assumption | exact Ext.rf _ | apply Ext.drew | apply Ext.drewN | apply Ext.alloc)))⟩
theorem Ua : ∀ {x ws:List Int} {k:Nat} {u:Int},x[k]?=some 0->ws[k]?=some u->Zw (x.set k 1) ws=Zw x ws+u
 | [],_,_,_,h,_=>by simp at h
 | _::_,[],_,_,_,h=>by simp at h
 | a::x,b::ws,0,u,h1,h2=>by
  simp at h1 h2;subst h1 h2;simp[Zw,Zj];omega
 | a::x,b::ws,k+1,u,h1,h2=>by
  have ih:=Ua (x:=x) (ws:=ws) (k:=k) (by simpa using h1) (by simpa using h2);unfold Zw at ih ⊢;simp only[List.set_cons_succ,List.zipWith_cons_cons,Zj];omega
theorem Vq : ∀ (n:Nat) (ws:List Int),Zw (List.replicate n 0) ws=0
 | 0,ws=>by simp[Zw,Zj]
 | n+1,[]=>by simp[Zw,Zj]
 | n+1,b::ws=>by
  have ih:=Vq n ws;unfold Zw at ih ⊢;simp only[List.replicate_succ,List.zipWith_cons_cons,Zj];rw[ih]
  rfl
def VM (i:InstP)(x:List Int) : Prop:=(x.length:Int)=i.n/\(∀ v∈x,v=0\/v=1)/\Zw x i.weight<=i.cap
theorem Zco {i:InstP}{x:List Int}(hc:Zf i=0)(hk:i.kind=1)(h:VM i x) : (ZA i x).2=0:=by
 unfold ZA;rw[if_neg (by simpa using hc),if_pos hk,if_pos ⟨h.1,h.2.1⟩];unfold Xp;rw[if_neg (by have:=h.2.2;omega)]
structure FillR (ws:List Int)(cap:Int)(n:Nat)(l:List Nat)(room:Int)(x:List Int) : Prop where
 len:x.length=n
 bit:∀ v∈x,v=0\/v=1
 sum:Zw x ws+room=cap
 pos:0<=room
 top:room<=cap
 out:∀ j∈l,x[j]?=some 0
theorem FillR.start {ws:List Int}{cap:Int}{n:Nat}{l:List Nat}(h0:0<=cap)(hl:∀ j∈l,j<n) : FillR ws cap n l cap (List.replicate n 0) :=
 ⟨by simp,fun v hv=>.inl (List.eq_of_mem_replicate hv),by rw[Vq];omega,h0,Int.le_refl _,fun j hj=>by rw[List.getElem?_replicate,if_pos (hl j hj)]⟩
theorem FillR.skip {ws:List Int}{cap:Int}{n k:Nat}{l:List Nat}{room:Int}{x:List Int}(h:FillR ws cap n (k::l) room x) : FillR ws cap n l room x:=⟨h.len,h.bit,h.sum,h.pos,h.top,fun j hj=>h.out j (by simp[hj])⟩
theorem FillR.take {ws:List Int}{cap:Int}{n k:Nat}{l:List Nat}{room u:Int}{x:List Int}(h:FillR ws cap n (k::l) room x)(hn:(k::l).Nodup)(hu:ws[k]?=some u)(h0:0<=u)(hr:u<=room) : FillR ws cap n l (room-u) (x.set k 1) where
 len:=by rw[List.length_set];exact h.len
 bit:=fun v hv=>by
  rcases List.mem_or_eq_of_mem_set hv with h1 | h1
  ·exact h.bit v h1
  ·exact .inr h1
 sum:=by rw[Ua (h.out k (by simp)) hu];have:=h.sum;omega
 pos:=by omega
 top:=by have:=h.top;omega
 out:=fun j hj=>by
  have hne:k≠j:=fun e=>(List.nodup_cons.1 hn).1 (e ▸ hj)
  rw[List.getElem?_set_ne hne];exact h.out j (by simp[hj])
theorem Zfc {i:InstP}{k:Nat}{u:Int}{n:Nat}(hn:(n:Int)=i.n)(hw:i.weight[k]?=some u)(hu:u<=i.cap)(hk:k<n) : VM i ((List.replicate n 0).set k 1):=by
 refine⟨by simp[hn],fun v hv=>?_,?_⟩
 ·rcases List.mem_or_eq_of_mem_set hv with h1 | h1
  ·exact .inl (List.eq_of_mem_replicate h1)
  ·exact .inr h1
 ·rw[Ua (by rw[List.getElem?_replicate,if_pos hk]) hw,Vq]
  omega
theorem Zbx {xs:List Nat}{N:Nat}(hd:xs.Nodup)(hl:∀ x∈xs,x<N)(h:xs.length<N) : ∃ c,c<N/\c∉xs:=by
 refine Classical.byContradiction fun hn=>?_
 have hall:∀ c,c<N->c∈xs:=fun c hc=>Classical.byContradiction fun h=>hn ⟨c,hc,h⟩
 have hp:xs.Perm (List.range N):=(List.perm_ext_iff_of_nodup hd List.nodup_range).2 fun x=>by
  rw[List.mem_range];exact⟨hl x,hall x⟩
 have:=hp.length_eq;rw[List.length_range] at this;omega
theorem Zd4 {xs:List Nat}{N:Nat}(hd:xs.Nodup)(hl:∀ x∈xs,x<N)(h:xs.length=N) : xs.Perm (List.range N):=by
 refine(List.perm_ext_iff_of_nodup hd List.nodup_range).2 fun x=>?_
 rw[List.mem_range];refine⟨hl x,fun hx=>Classical.byContradiction fun hn=>?_⟩;have:=Xw (l:=x::xs) (n:=N) (List.nodup_cons.2 ⟨hn,hd⟩) fun y hy=>by
  rcases List.mem_cons.1 hy with rfl | hy
  ·exact hx
  ·exact hl y hy
 simp only[List.length_cons] at this;omega
def Y6 (i:InstP)(x:List Int) : Prop:=x.length<=100/\(ZA i x).2=0
theorem J8 {i:InstP}{xs:List Nat}(hc:Zf i=0)(hk:i.kind≠1)(h24:i.cost.length<=24)(hd:xs.Nodup)(hl:∀ x∈xs,x<i.cost.length)(h:xs.length=i.cost.length)(h3:i.kind=3->xs[0]?=some 0) : Y6 i (Ze xs):=by
 refine⟨by unfold Ze;rw[List.length_map];omega,?_⟩;unfold ZA;rw[if_neg (by simpa using hc),if_neg hk,if_pos ⟨Yj.2 ⟨xs,rfl,Zd4 hd hl h⟩,fun e=>by unfold Ze;rw[List.getElem?_map,h3 e];rfl⟩]
theorem ZfM {xs:List Nat}{k:Nat}(p:Nat->Bool){N:Nat}(hp:∀ c,c<N->p c=decide (c∈xs)) : ∀ c,c<N->(if c=k then true else p c)=decide (c∈xs++[k]):=fun c hc=>by
 rw[hp c hc]
 by_cases e:c=k
 ·simp[e]
 ·simp[e]
theorem Zcp {xs:List Nat}{k:Nat}(hd:xs.Nodup)(h:k∉xs) : (xs++[k]).Nodup:=by
 rw[List.nodup_append];refine⟨hd,by simp,fun a ha b hb e=>?_⟩;rw[List.mem_singleton] at hb;exact h (by rw[<-hb,<-e];exact ha)
def Zby (KX:List Int->Prop)(w:World)(e:Ending)(w':World) : Prop:=∃ (A:Option Addr) (n:Nat) (worth:Int) (x:List Int),e=.returned (.tuple #[.slice A n n,.int .i64 worth])/\x.length=n/\OwI w' w.heap.size A n x/\KX x/\Ext w w'
theorem Zd5 (i:InstP)(us:List Value)(w:World)(H:RInst w us i)(hc:Zf i=0)(hk:i.kind=1) :
  Calls Tryz.prog 129 #[.agg (List.toArray us)] w (Zby (VM i) w):=by
 have ok:=ZD hc hk;have FIN:Hid (∀ (room:Int) (x:List Int),FillR i.weight i.cap i.n.toNat [] room x->VM i x):=fun room x h=>⟨by rw[h.len];have:=ok.n1;omega,h.bit,by have:=h.sum;have:=h.pos;omega⟩
 obtain⟨n,hn⟩:∃ n:Nat,i.n=n:=⟨i.n.toNat,by have:=ok.n1;omega⟩;have n2:n<=64:=by have:=ok.n2;omega
 have lw:i.weight.length=n:=by have:=ok.w;omega
 have lv:i.value.length=n:=by have:=ok.v;omega
 have capb:=ok.cap;have sw:=ok.sw;have perm:=Wg i.value i.weight;rw[lv] at perm;have RT:=fun(W:World) (x:Ext w W) (A B:Option Addr) (a b:Nat) (hA:RdI W A i.value) (hB:RdI W B i.weight)=>Jv A B a b i.value i.weight W hA hB (by omega) (by omega) ok.sv ok.sw
 unfold Ju at RT;generalize ZU i.value i.weight=l at *;have ll:l.length=n:=by rw[perm.length_eq,List.length_range]
 have S0:FillR i.weight i.cap n l i.cap (List.replicate n 0):=FillR.start capb.1 fun j hj=>List.mem_range.1 (perm.mem_iff.1 hj)
 have nod:l.Nodup:=perm.nodup_iff.2 List.nodup_range;have hlt:∀ j∈l,j<n:=fun j hj=>List.mem_range.1 (perm.mem_iff.1 hj)
 have e9:i.n.toNat=n:=by omega
 rw[e9] at FIN;generalize VM i=KX at *;clear ok hc hk perm e9;obtain⟨kind,nn,cap,xw,xv,co⟩:=i;obtain⟨A,a,B,b,D,d,rfl,⟨hA,-,-,-⟩,⟨hB,-,-,-⟩,-⟩:=H;simp only at *;subst hn;rw[lw,lv];simp only[lw,lv] at RT;replace lw:=Hd lw;replace lv:=Hd lv;have B1:Hid (Blk (w.alloc (.cells #[.int .i64 kind,.int .i64 n,.int .i64 cap,.slice A n a,.slice B n b,.slice D co.length d] 25)) w.heap.size 25 #[.int .i64 kind,.int .i64 n,.int .i64 cap,.slice A n a,.slice B n b,.slice D co.length d]):=.new rfl;replace hA:=Hd hA;replace hB:=Hd hB;replace ll:=Hd ll;replace S0:=Hd S0;replace nod:=Hd nod;replace hlt:=Hd hlt;replace RT:=Hd RT;replace sw:=Hd sw;replace capb:=Hd capb;go_enter Tryz.func129,Tryz.ntmps129;go_wp2_with (at_make;refine Xd _ rfl _ _ rfl (w.heap.size+1) _ _ n rfl rfl rfl rfl (by omega) (by simp) ?_;rintro w2 o2 g2;have e8:∀ o,(w.alloc o).heap.size=w.heap.size+1:=(fun o=>by simp);rw[e8] at o2;have X2:=Hd (Ext.grow (a:=w) ((Ext.rf w).alloc _) g2 (fun k h=>by cases h));have B2:=Hd (Blk.grown B1.out g2 (fun h=>by cases h));replace o2:=Hd o2;replace g2:=Hd g2;clear B1;have t1:w2.cell? ⟨w.heap.size,1,none⟩=some (.int .i64 n):=B2.out.cell 1;have t2:w2.cell? ⟨w.heap.size,2,none⟩=some (.int .i64 cap):=B2.out.cell 2;have t3:w2.cell? ⟨w.heap.size,3,none⟩=some (.slice A n a):=B2.out.cell 3;have t4:w2.cell? ⟨w.heap.size,4,none⟩=some (.slice B n b):=B2.out.cell 4);refine(RT.out _ X2.out B A b a (hB.out.ext X2.out) (hA.out.ext X2.out)).mono ?_;rintro e w3 ⟨L,lc,rfl,hL,llc,llc2,x3,fr⟩;have O3:=Hd (o2.out.ext x3);have B3:=Hd (B2.out.ext x3);have X3:=Hd (X2.out.tr x3);have z2:w.heap.size+1<w2.heap.size:=(o2.out.lt (w.heap.size+1) rfl).2;have FR:Hid (∀ k,bl L=some k->¬k=w.heap.size+1):=fun k hk=>by have:=fr k hk;omega
 have ZZ:Hid (w.heap.size<=w3.heap.size):=X3.out.size;replace hL:=Hd hL;replace nod:=Hd nod.out;clear x3 fr o2 g2 B2 X2 t1 t2 t3 t4 z2 RT;have t2:=B3.out.c2;go_wp2_with (fail);go_loopw [7,8,26] (fun v7 v8 v26 wr=>∃ (m:Nat) (room worth:Int) (x:List Int),v7=.int .i64 room/\v8=.int .i64 worth/\v26=.int .i64 m/\m<=l.length/\Hid (FillR xw cap n (l.drop m) room x)/\Hid (OwI wr (w.heap.size+1) (some ⟨w.heap.size+1,0,none⟩) n x)/\Hid (Mod (fun z=>z=w.heap.size+1) w3 wr)) (fun _ _ v26 _=>l.length-(intOf v26).toNat)
 case atStart=>exact⟨0,cap,0,List.replicate n 0,rfl,rfl,rfl,by omega,S0,O3,Mod.rf w3⟩
 case round =>
  obtain⟨wo,rfl⟩:∃ wo:World,wo=wr:=⟨_,rfl⟩;obtain⟨m,room,worth,x,rfl,rfl,rfl,hm,HR,HO,HM⟩:=hrel
  by_cases hml:(m:Int)<(l.length:Int)
  ·have hm2:m<l.length:=by omega
   obtain⟨k,ek⟩:∃ k,l[m]?=some k:=⟨_,List.getElem?_eq_getElem hm2⟩;have hk9:k<n:=hlt.out k (List.mem_of_getElem? ek);have dr:l.drop m=k::l.drop (m+1):=by rw[List.drop_eq_getElem_cons hm2];congr 1;exact(List.getElem?_eq_some_iff.1 ek).2
   have HR9:=HR.out;rw[dr] at HR9;have Xo:=X3.out.mod HM.out fun z hz h=>by omega
   have Bo:=B3.out.mod HM.out (by omega);obtain⟨pb,po,y,rfl,zb,cx,ex,-⟩:=(hL.out.mod HM.out FR.out).at (k:=m) (by unfold nl;rw[List.length_map];exact hm2);obtain rfl:y=(k:Int):=by
    have h:=ex.out;unfold nl at h;rw[List.getElem?_map,ek] at h;exact(Option.some.inj h).symm
   obtain⟨ab,ao,u,rfl,za,cu0,eu,-⟩:=hA.out.at (k:=k) (by have:=lw.out;omega);have cu:=Zh Xo za cu0;obtain⟨vb,vo,v,rfl,zv,cv0,ev,-⟩:=hB.out.at (k:=k) (by have:=lv.out;omega);have cv:=Zh Xo zv cv0;have hu:=sw.out u (List.mem_of_getElem? eu.out);have lx:x.length=n:=HR9.len;obtain⟨x0,cx0,fx0,_,ex0,hs⟩:=HO.out.cell (k:=k) (by omega);have t3:=Bo.c3;have t4:=Bo.c4;have q1:(k:Int)<(n:Int):=by omega
   have hne1:w.heap.size≠w.heap.size+1:=by omega
   by_cases c1:u<=room
   ·have g1:decide (u<=room)=true:=decide_eq_true c1
    have wr9:IntKind.i64.wrap (room-u)=room-u:=by
     have:=HR9.pos;have:=HR9.top;have:=capb.out;exact IntWalk.i64_in _ (by omega)
    have NR:Hid (FillR xw cap n (l.drop (m+1)) (room-u) (x.set k 1)):=HR9.take (by rw[<-dr];exact nod.out.sublist (List.drop_sublist _ _)) eu.out hu.1 c1;have NO:Hid (OwI (wo.setCell ⟨w.heap.size+1,k,none⟩ (.int .i64 1)) (w.heap.size+1) (some ⟨w.heap.size+1,0,none⟩) n (x.set k 1)):=hs.out 1;have NM:Hid (Mod (fun z=>z=w.heap.size+1) w3 (wo.setCell ⟨w.heap.size+1,k,none⟩ (.int .i64 1))):=HM.out.set (.inl rfl) _;have Bo2:Blk (wo.setCell ⟨w.heap.size+1,k,none⟩ (.int .i64 1)) w.heap.size 25 #[.int .i64 kind,.int .i64 n,.int .i64 cap,.slice (some ⟨ab,ao,none⟩) n a,.slice (some ⟨vb,vo,none⟩) n b,.slice D co.length d]:=Bo.far (p:=⟨w.heap.size+1,k,none⟩) hne1 _;have X5:Ext w (wo.setCell ⟨w.heap.size+1,k,none⟩ (.int .i64 1)):=Xo.setNew (by simp) _;have ru:=Zh X5 za cu0;have rv:=Zh X5 zv cv0;have r3:=Bo2.c3;have r4:=Bo2.c4;replace ru:=Hd ru;replace rv:=Hd rv;replace r3:=Hd r3;replace r4:=Hd r4;clear HR9 dr ex eu ev hs ex0 Xo Bo HR HO HM hu X5 Bo2 cu0 cv0;go_upto_region 9 with(fail);generalize (wo.setCell ⟨w.heap.size+1,k,none⟩ (.int .i64 1))=w5 at *;replace ru:=ru.out;replace rv:=rv.out;replace r3:=r3.out;replace r4:=r4.out;go_wp2_with (fail);go_roundw
    case rel=>exact⟨m+1,room-u,_,x.set k 1,rfl,rfl,by go_num,by omega,NR,NO,NM⟩
    case measure=>(simp only[intOf];omega)
   ·have g1:decide (u<=room)=false:=decide_eq_false c1
    have NR:Hid (FillR xw cap n (l.drop (m+1)) room x):=HR9.skip;clear HR9 dr ex eu ev hs ex0 Xo Bo HR hu cu0 cv0;go_wp2_with (fail);go_roundw
    case rel=>exact⟨m+1,room,worth,x,rfl,rfl,by go_num,by omega,NR,HO,HM⟩
    case measure=>(simp only[intOf];omega)
  ·obtain rfl:m=l.length:=by omega
   have HR9:=HR.out;rw[List.drop_length] at HR9;have K:=Hd (FIN.out room x HR9);have lx:=Hd HR9.len;have Xo:=Hd (X3.out.mod HM.out fun z hz h=>by omega);clear HR9 HR;go_wp2_with (fail);go_ret2;exact⟨_,n,worth,x,rfl,lx.out,HO.out.more (by omega),K.out,Xo.out⟩
def VI (KX:List Int->Prop)(w:World)(e:Ending)(w':World) : Prop:=∃ (A:Option Addr) (c:Nat) (x:List Int),e=.returned (.slice A x.length c)/\OwI w' w.heap.size A c x/\KX x/\Ext w w'
theorem Zd6 (i:InstP)(us:List Value)(w:World)(H:RInst w us i)(hc:Zf i=0)(hk:i.kind=1) :
  Calls Tryz.prog 75 #[.agg (List.toArray us)] w (VI (VM i) w):=by
 have ok:=ZD hc hk;obtain⟨n,hn⟩:∃ n:Nat,i.n=n:=⟨i.n.toNat,by have:=ok.n1;omega⟩;have n2:n<=64:=by have:=ok.n2;omega
 have n1:1<=n:=by have:=ok.n1;omega
 have lw:i.weight.length=n:=by have:=ok.w;omega
 have lv:i.value.length=n:=by have:=ok.v;omega
 have FI:=fun(W:World) (x:Ext w W)=>Zd5 i us W (H.ext x) hc hk
 have AL:=fun(W:World) (x:Ext w W)=>Zd3 i us W (H.ext x) (by omega) (by omega)
 have ONE:Hid (∀ (k:Nat) (u:Int),i.weight[k]?=some u->u<=i.cap->VM i ((List.replicate n 0).set k 1)/\k<n):=fun k u h1 h2=>by
  have h3:k<n:=by have:=(List.getElem?_eq_some_iff.1 h1).1;omega
  exact⟨Zfc hn.symm h1 h2 h3,h3⟩
 have LEN:Hid (∀ x,VM i x->x.length=n):=fun x h=>by have:=h.1;omega
 unfold Zby at FI;unfold U9 Qv at AL;generalize VM i=KX at *;clear ok hc hk;obtain⟨kind,nn,cap,xw,xv,co⟩:=i;obtain⟨A,a,B,b,D,d,rfl,-,⟨hB,-,-,-⟩,-⟩:=H;simp only at *;subst hn;rw[lw,lv];simp only[lw,lv] at FI AL;have B1:Hid (Blk (w.alloc (.cells #[.int .i64 kind,.int .i64 n,.int .i64 cap,.slice A n a,.slice B n b,.slice D co.length d] 25)) w.heap.size 25 #[.int .i64 kind,.int .i64 n,.int .i64 cap,.slice A n a,.slice B n b,.slice D co.length d]):=.new rfl;replace hB:=Hd hB;replace lw:=Hd lw;replace lv:=Hd lv;replace FI:=Hd FI;replace AL:=Hd AL;go_enter Tryz.func75,Tryz.ntmps75;go_wp2_with (fail);refine(FI.out _ (by(repeat (first | assumption | exact Ext.rf _ | apply Ext.drew | apply Ext.drewN | apply Ext.alloc)))).mono ?_;rintro e w2 ⟨A2,m2,worth,x,rfl,lx,o2,kx,x2⟩;have X2:=Hd (Ext.tr (a:=w) (by(repeat (first | assumption | exact Ext.rf _ | apply Ext.drew | apply Ext.drewN | apply Ext.alloc))) x2);have B2:=Hd (B1.out.ext x2);have e2:m2=n:=by rw[<-lx];exact LEN.out x kx
 have O2:=Hd (o2.more (base':=w.heap.size) (by simp));replace kx:=Hd kx;replace lx:=Hd lx;subst e2;have t0:=B2.out.c0;have t1:=B2.out.c1;have t2:=B2.out.c2;have t3:=B2.out.c3;have t4:=B2.out.c4;have t5:=B2.out.c5;clear x2 o2 B1 FI;go_wp2_with (fail);refine(AL.out _ X2.out).mono ?_;rintro e w3 ⟨bb,rfl,hb,x3⟩;have X3:=Hd (X2.out.tr x3);have B3:=Hd (B2.out.ext x3);have O3:=Hd (O2.out.ext x3);clear x3 X2 B2 O2 t0 t1 t2 t3 t4 t5 AL;rcases hb with rfl | ⟨k,u,rfl,hu,hcap⟩
 ·go_wp2_with (fail)
  go_ret;exact⟨A2,m2,x,by rw[lx.out];rfl,O3.out,kx.out,X3.out⟩
 ·obtain⟨K1,k1⟩:=ONE.out k u hu hcap
  obtain⟨vb,vo,v,rfl,zv,cv0,ev,-⟩:=hB.out.at (k:=k) (by have:=lv.out;omega);have cv:=Zh X3.out zv cv0;have t1:=B3.out.c1;have t4:=B3.out.c4;have q1:(k:Int)<(m2:Int):=by omega
  have q2:(0:Int)<=(k:Int):=by omega
  replace K1:=Hd K1;clear hu hcap cv0 ev ONE LEN
  by_cases c1:worth<v
  ·have g1:decide (worth<v)=true:=decide_eq_true c1
   go_wp2_with (at_make;refine Xd _ rfl _ _ rfl w.heap.size _ _ m2 rfl rfl rfl rfl (by omega) X3.out.size ?_;rintro w4 o4 g4;have X4:=Hd (Ext.grow (a:=w) X3.out g4 (fun k h=>by cases h));obtain⟨_,cx4,fx4,_,_,hs4⟩:=o4.cell (k:=k) (by rw[List.length_replicate];exact k1);replace o4:=Hd o4;replace g4:=Hd g4;clear t1 t4 cv);go_ret;exact⟨_,m2,_,by rw[List.length_set,List.length_replicate];rfl,hs4.out 1,K1.out,X4.out.setNew X3.out.size _⟩
  ·have g1:decide (worth<v)=false:=decide_eq_false c1
   go_wp2_with (fail);go_ret;exact⟨A2,m2,x,by rw[lx.out];rfl,O3.out,kx.out,X3.out⟩
theorem Zbz {w3 w4:World}{base G c1 c2 c4:Nat}{t:TypeId}{cs:Array Value}{A1 A2 A4:Option Addr}{xs ys zs:List Int}(hB:Blk w3 G t cs)(ht:t≠3)(o1:OwI w3 base A1 c1 xs)(o2:OwI w3 base A2 c2 ys)(hd:∀ b,bl A1=some b->bl A2≠some b)(g4:w3.grownBy w4 (bl A1))(o4:OwI w4 base A4 c4 zs)(h5:bl A4=bl A1\/∃ g,bl A4=some g/\w3.heap.size<=g)(i:Nat)(v:Value) :
  Blk w4 G t cs/\Blk (w4.setCell ⟨G,i,none⟩ v) G t (cs.setIfInBounds i v)/\OwI (w4.setCell ⟨G,i,none⟩ v) base A4 c4 zs/\OwI (w4.setCell ⟨G,i,none⟩ v) base A2 c2 ys/\(∀ b,bl A4=some b->bl A2≠some b)/\∀ wa,Ext wa w3->wa.heap.size<=base->wa.heap.size<=G->Ext wa (w4.setCell ⟨G,i,none⟩ v):=by
 have n1:=o1.ne hB ht;have hB4:Blk w4 G t cs:=hB.grown g4 (fun h=>n1 G h rfl);have o24:OwI w4 base A2 c2 ys:=o2.mod (Mod.grown (S:=fun b=>bl A1=some b) g4 fun g h=>h) fun b hb h=>hd b h hb
 refine⟨hB4,hB4.set i v,o4.far hB4 ht i v,o24.far hB4 ht i v,fun b hb h=>?_,fun wa x h1 h2=>?_⟩
 ·rcases h5 with e | ⟨g,e,hg⟩
  ·exact hd b (by rw[<-e];exact hb) h
  ·have:=(o2.lt b h).2
   rw[e] at hb
   injection hb with hb
   omega
 ·exact(x.grow g4 fun k hk=>Nat.le_trans h1 (o1.lt k hk).1).mod (Mod.set (S:=fun k=>k=G) (p:=⟨G,i,none⟩) (Mod.rf w4) (.inl rfl) v) fun k hk e=>by omega
def ZfN : Value->Nat
 | .slice _ n _=>n
 | _=>0
structure RowSt (w:World)(N:Nat)(cs:List Value)(wr:World)(xs:List Nat)(A:Option Addr)(c:Nat)(p:Nat->Bool) : Prop where
 x:Ext w wr
 i:Blk wr w.heap.size 25 (List.toArray cs)
 u:ArrB wr (w.heap.size+1) N p
 o:OwI wr w.heap.size A c (Ze xs)
 nd:xs.Nodup
 lt:∀ c∈xs,c<N
 p:∀ c,c<N->p c=decide (c∈xs)
theorem RowSt.ext {w:World}{N:Nat}{cs:List Value}{wr wr':World}{xs:List Nat}{A:Option Addr}{c:Nat}{p:Nat->Bool}(h:RowSt w N cs wr xs A c p)(y:Ext wr wr') : RowSt w N cs wr' xs A c p:=⟨h.x.tr y,h.i.ext y,h.u.ext y,h.o.ext y,h.nd,h.lt,h.p⟩
theorem RowSt.step {w:World}{N:Nat}{cs:List Value}{w4 w8:World}{xs:List Nat}{A A8:Option Addr}{c c8 k:Nat}{p:Nat->Bool}{ob:Obj}(h:RowSt w N cs w4 xs A c p)(hk:k<N)(hn:k∉xs)(o8:OwI w8 w.heap.size A8 c8 (Ze xs++[(k:Int)]))
  (g8:((w4.setCell ⟨w.heap.size+1,k,none⟩ (.bool true)).alloc ob).grownBy w8 (bl A)):RowSt w N cs w8 (xs++[k]) A8 c8 (fun i=>if i=k then true else p i):=by
 have n1:=h.o.ne h.i (by decide);have n2:=h.o.ne (show Blk w4 (w.heap.size+1) 4 _ from h.u) (by decide);have x5:Ext w (w4.setCell ⟨w.heap.size+1,k,none⟩ (.bool true)):=h.x.setNew (by simp) _;refine⟨(x5.alloc ob).grow g8 fun j hj=>(h.o.lt j hj).1,?_,?_,?_,Zcp h.nd hn,?_,ZfM p h.p⟩
 ·exact((h.i.far (p:=⟨w.heap.size+1,k,none⟩) (by show w.heap.size≠w.heap.size+1;omega) _).ext ((Ext.rf _).alloc ob)).grown g8 (fun e=>n1 _ e rfl)
 ·exact Blk.grown (Blk.ext (h.u.set k true) ((Ext.rf _).alloc ob)) g8 (fun e=>n2 _ e rfl)
 ·rw[show Ze (xs++[k])=Ze xs++[(k:Int)] by simp[Ze]]
  exact o8
 ·intro d hd
  rcases List.mem_append.1 hd with hd | hd
  ·exact h.lt d hd
  ·rw[List.mem_singleton] at hd
   omega
theorem Zcq (i:InstP)(us:List Value)(w:World)(H:RInst w us i)(hc:Zf i=0)(hk:i.kind=2) :
  Calls Tryz.prog 76 #[.agg (List.toArray us)] w (VI (Y6 i) w):=by
 have sq:=Zo hc (by omega);have rok:=ZF sq;obtain⟨N,hN⟩:∃ N:Nat,i.cost.length=N:=⟨_,rfl⟩;have n1:1<=N:=by have:=rok.n1;omega
 have n2:N<=24:=by have:=rok.n2;omega
 have nn9:i.n=(N:Int):=by have:=sq.len;omega
 have rl:Hid (∀ r∈i.cost,r.length=N):=fun r hr=>by rw[rok.row r hr,hN]
 have FIN:Hid (∀ xs:List Nat,xs.Nodup->(∀ x∈xs,x<N)->xs.length=N->Y6 i (Ze xs)):=fun xs h1 h2 h3=>by
  rw[<-hN] at h2 h3;exact J8 hc (by omega) rok.n2 h1 h2 h3 (fun e=>by omega)
 generalize Y6 i=KX at *;clear hc sq rok;obtain⟨kind,nn,cap,xw,xv,co⟩:=i;obtain⟨A,a,B,b,D,d,rfl,-,-,hC,ld,ld2⟩:=H;simp only at *;subst hk;subst nn9;rw[hN];have B1:Hid (Blk (w.alloc (.cells #[.int .i64 2,.int .i64 N,.int .i64 cap,.slice A xw.length a,.slice B xv.length b,.slice D N d] 25)) w.heap.size 25 #[.int .i64 2,.int .i64 N,.int .i64 cap,.slice A xw.length a,.slice B xv.length b,.slice D N d]):=.new rfl;obtain⟨CS,hCS⟩:∃ CS:List Value,CS=[.int .i64 2,.int .i64 N,.int .i64 cap,.slice A xw.length a,.slice B xv.length b,.slice D N d]:=⟨_,rfl⟩;replace hC:=Hd hC;replace hN:=Hd hN;clear ld ld2;go_enter Tryz.func76,Tryz.ntmps76;go_upto_region 2 with(at_make;refine V4 _ rfl _ _ rfl _ _ N rfl rfl rfl rfl (by omega) ?_;rintro w2 u2 g2;have e8:∀ o,(w.alloc o).heap.size=w.heap.size+1:=(fun o=>by simp);rw[e8] at u2;have X2:=Hd (Ext.grow (a:=w) ((Ext.rf w).alloc _) g2 (fun k h=>by cases h));have B2:=Hd (Blk.grown B1.out g2 (fun h=>by cases h));replace u2:=Hd u2;replace g2:=Hd g2;clear B1);have S2:Hid (RowSt w N CS w2 [] none 0 (fun _=>false)):=by
  rw[hCS];exact Hd ⟨X2.out,B2.out,u2.out,OwI.nil _ _,List.nodup_nil,(fun c hc=>by cases hc),fun c hc=>by simp⟩
 have t0:=B2.out.c0;have z2:w.heap.size<=w2.heap.size:=X2.out.size;clear g2 u2 X2;go_wp2_with (fail);go_loopw [4] (fun v4 wr=>∃ (xs:List Nat) (Ax:Option Addr) (cx:Nat) (p:Nat->Bool),v4=.slice Ax xs.length cx/\xs.length<=N/\Hid (RowSt w N CS wr xs Ax cx p)) (fun v4 _=>N-ZfN v4)
 case atStart=>exact⟨[],none,0,fun _=>false,rfl,by simp,S2⟩
 case round =>
  obtain⟨wo,rfl⟩:∃ wo:World,wo=wr:=⟨_,rfl⟩;obtain⟨xs,Ax,cx,p,rfl,hxl,HS⟩:=hrel;have Bo:=HS.out.i;rw[hCS] at Bo;have t0:=Bo.c0;have t1:=Bo.c1;have t5:=Bo.c5;replace Bo:=Hd Bo
  by_cases hlt:(xs.length:Int)<(N:Int)
  ·have hlt2:xs.length<N:=by omega
   obtain⟨cb,co9,cs9,row,rfl,zc,⟨RA,rc,rfl,hRA,-,-,-⟩,-,hcs,erow⟩:=(hC.out.ext HS.out.x (fun cs j h=>h.ext HS.out.x)).at (i:=xs.length) (by have:=hN.out;omega);have crow:=hcs 0 _ rfl;rw[Nat.mul_one,Nat.add_zero] at crow;have lrow:row.length=N:=rl.out row (List.mem_of_getElem? erow.out);obtain⟨c9,h91,h92⟩:=Zbx HS.out.nd HS.out.lt hlt2;have CH:=Hd (fun(W:World) (y:Ext wo W)=>UI row ((List.range N).map p) RA (some ⟨w.heap.size+1,0,none⟩) rc N W (hRA.ext y) (RdV.blk (by have h:=HS.out.u.ext y;unfold ArrB at h;rw[List.map_map];exact h)) (by rw[List.length_map,List.length_range,lrow]) (by omega) ⟨c9,by rw[List.getElem?_map,List.getElem?_range h91];simp[HS.out.p c9 h91,h92]⟩);rw[lrow] at crow CH;simp only[List.length_map,List.length_range] at CH;unfold VH at CH;clear hcs erow h91 h92 hRA;go_wp2_with (fail);refine(CH.out _ (by(repeat (first | assumption | exact Ext.rf _ | apply Ext.drew | apply Ext.drewN | apply Ext.alloc)))).mono ?_;rintro e w4 ⟨k,rfl,hk,x4⟩;have S4:=Hd (HS.out.ext (Ext.tr (by(repeat (first | assumption | exact Ext.rf _ | apply Ext.drew | apply Ext.drewN | apply Ext.alloc))) x4));have hkN:k<N:=by
    have h:=(List.getElem?_eq_some_iff.1 hk).1;rw[List.length_map,List.length_range] at h;exact h
   have hkx:k∉xs:=by
    rw[List.getElem?_map,List.getElem?_range hkN] at hk;simp only[Option.map_some,Option.some.injEq] at hk;rw[S4.out.p k hkN] at hk;exact of_decide_eq_false hk
   have cu:=S4.out.u.cell hkN;have fu:=S4.out.u.free k;have q1:(k:Int)<(N:Int):=by omega
   have z4:w.heap.size<=w4.heap.size:=S4.out.x.size;have ix:(Ze xs).length=xs.length:=by unfold Ze;rw[List.length_map]
   replace hk:=Hd hk;clear x4 CH t0 t1 t5 crow ;go_wp2_with (at_builtin;(refine Z7 _ rfl _ _ rfl w.heap.size Ax xs.length cx (Ze xs) [(k:Int)] (some ⟨w4.heap.size,0,none⟩) 1 rfl rfl ix.symm ?_ ?_ ?_ ?_ ?_;(exact(S4.out.o.far (show Blk w4 (w.heap.size+1) 4 _ from S4.out.u) (by decide) k _).ext ((Ext.rf _).alloc _));(exact .blk (.new (by simp)) rfl);(rw[ix];simp;omega);(simp;omega);rintro A8 c8 w8 o8 g8 _;have S8:=Hd (S4.out.step hkN hkx o8 g8);clear o8 g8 S4 cu fu;rw[List.length_append,ix,List.length_singleton]));go_roundw
   case rel=>exact⟨xs++[k],A8,c8,_,by rw[List.length_append,List.length_singleton],by rw[List.length_append,List.length_singleton];omega,S8⟩
   case measure=>(simp only[ZfN];omega)
  ·have hx9:xs.length=N:=by omega
   have K:=Hd (FIN.out xs HS.out.nd HS.out.lt hx9);go_wp2_with (fail);go_ret;exact⟨Ax,cx,Ze xs,by unfold Ze;rw[List.length_map,hx9];rfl,HS.out.o,K.out,HS.out.x⟩
theorem Zcr (i:InstP)(us:List Value)(w:World)(H:RInst w us i)(hc:Zf i=0)(hk:i.kind=3) :
  Calls Tryz.prog 76 #[.agg (List.toArray us)] w (VI (Y6 i) w):=by
 have sq:=Zo hc (by omega);have rok:=ZF sq;obtain⟨N,hN⟩:∃ N:Nat,i.cost.length=N:=⟨_,rfl⟩;have n1:1<=N:=by have:=rok.n1;omega
 have n2:N<=24:=by have:=rok.n2;omega
 have nn9:i.n=(N:Int):=by have:=sq.len;omega
 have rl:Hid (∀ r∈i.cost,r.length=N):=fun r hr=>by rw[rok.row r hr,hN]
 have FIN:Hid (∀ xs:List Nat,xs.Nodup->(∀ x∈xs,x<N)->xs.length=N->xs[0]?=some 0->Y6 i (Ze xs)):=fun xs h1 h2 h3 h4=>by
  rw[<-hN] at h2 h3;exact J8 hc (by omega) rok.n2 h1 h2 h3 (fun _=>h4)
 generalize Y6 i=KX at *;clear hc sq rok;obtain⟨kind,nn,cap,xw,xv,co⟩:=i;obtain⟨A,a,B,b,D,d,rfl,-,-,hC,ld,ld2⟩:=H;simp only at *;subst hk;subst nn9;rw[hN];have B1:Hid (Blk (w.alloc (.cells #[.int .i64 3,.int .i64 N,.int .i64 cap,.slice A xw.length a,.slice B xv.length b,.slice D N d] 25)) w.heap.size 25 #[.int .i64 3,.int .i64 N,.int .i64 cap,.slice A xw.length a,.slice B xv.length b,.slice D N d]):=.new rfl;obtain⟨CS,hCS⟩:∃ CS:List Value,CS=[.int .i64 3,.int .i64 N,.int .i64 cap,.slice A xw.length a,.slice B xv.length b,.slice D N d]:=⟨_,rfl⟩;replace hC:=Hd hC;replace hN:=Hd hN;clear ld ld2;go_enter Tryz.func76,Tryz.ntmps76;go_upto_region 2 with(at_make;refine V4 _ rfl _ _ rfl _ _ N rfl rfl rfl rfl (by omega) ?_;rintro w2 u2 g2;have e8:∀ o,(w.alloc o).heap.size=w.heap.size+1:=(fun o=>by simp);rw[e8] at u2;have X2:=Hd (Ext.grow (a:=w) ((Ext.rf w).alloc _) g2 (fun k h=>by cases h));have B2:=Hd (Blk.grown B1.out g2 (fun h=>by cases h));replace u2:=Hd u2;replace g2:=Hd g2;clear B1);have S2:Hid (RowSt w N CS w2 [] none 0 (fun _=>false)):=by
  rw[hCS];exact Hd ⟨X2.out,B2.out,u2.out,OwI.nil _ _,List.nodup_nil,(fun c hc=>by cases hc),fun c hc=>by simp⟩
 have t0:=B2.out.c0;have z2:w.heap.size<=w2.heap.size:=X2.out.size;clear g2 u2 X2;have START:∀ (w8:World) (A8:Option Addr) (c8:Nat) (ob:Obj),OwI w8 w.heap.size A8 c8 [0]->(w2.alloc ob).grownBy w8 none->Hid (RowSt w N CS (w8.setCell ⟨w.heap.size+1,0,none⟩ (.bool true)) [0] A8 c8 (fun i=>if i=0 then true else false))/\w8.cell? ⟨w.heap.size+1,0,none⟩=some (.bool false)/\w8.frozen? ⟨w.heap.size+1,0,none⟩=false:=fun w8 A8 c8 ob o8 g8=>by
  have U8:ArrB w8 (w.heap.size+1) N (fun _=>false):=Blk.grown (Blk.ext S2.out.u ((Ext.rf _).alloc ob)) g8 (fun e=>by cases e);have I8:=Blk.grown (S2.out.i.ext ((Ext.rf _).alloc ob)) g8 (fun e=>by cases e);have X8:Ext w w8:=(S2.out.x.alloc ob).grow g8 fun j hj=>by cases hj
  refine⟨Hd ⟨X8.setNew (by simp) _,I8.far (p:=⟨w.heap.size+1,0,none⟩) (by show w.heap.size≠w.heap.size+1;omega) _,U8.set 0 true,o8.far (show Blk w8 (w.heap.size+1) 4 _ from U8) (by decide) 0 _,by simp,fun c hc=>?_,fun c hc=>?_⟩,U8.cell (by omega),U8.free 0⟩
  ·rw[List.mem_singleton] at hc
   omega
  ·by_cases e:c=0
   ·simp[e]
   ·simp[e]
 replace START:=Hd START;go_wp2_with (at_builtin;(refine Z7 _ rfl _ _ rfl w.heap.size none 0 0 [] [0] (some ⟨w2.heap.size,0,none⟩) 1 rfl rfl rfl (OwI.nil _ _) (.blk (.new rfl) rfl) (by simp) (by simp;omega) ?_;rintro A8 c8 w8 o8 g8 _;obtain⟨S9,cu9,fu9⟩:=START.out w8 A8 c8 _ o8 g8;clear START o8 g8 S2));go_loopw [4] (fun v4 wr=>∃ (xs:List Nat) (Ax:Option Addr) (cx:Nat) (p:Nat->Bool),v4=.slice Ax xs.length cx/\xs.length<=N/\Hid (RowSt w N CS wr xs Ax cx p)/\Hid (xs[0]?=some 0)) (fun v4 _=>N-ZfN v4)
 case atStart=>exact⟨[0],A8,c8,_,rfl,by simp;omega,S9,Hd rfl⟩
 case round =>
  obtain⟨wo,rfl⟩:∃ wo:World,wo=wr:=⟨_,rfl⟩;obtain⟨xs,Ax,cx,p,rfl,hxl,HS,h0⟩:=hrel;have Bo:=HS.out.i;rw[hCS] at Bo;have t0:=Bo.c0;have t1:=Bo.c1;have t5:=Bo.c5;replace Bo:=Hd Bo
  by_cases hlt:(xs.length:Int)<(N:Int)
  ·have hlt2:xs.length<N:=by omega
   have l1:0<xs.length:=(List.getElem?_eq_some_iff.1 h0.out).1;obtain⟨fr,efr⟩:∃ fr,xs[xs.length-1]?=some fr:=⟨_,List.getElem?_eq_getElem (by omega)⟩;have hfr:fr<N:=HS.out.lt fr (List.mem_of_getElem? efr);obtain⟨ga,y9,rfl,-,-,cl9,-,ey9,-⟩:=HS.out.o.at (k:=xs.length-1) (by unfold Ze;rw[List.length_map];omega);obtain rfl:y9=(fr:Int):=by
    have h:=ey9.out;unfold Ze at h;rw[List.getElem?_map,efr] at h;exact(Option.some.inj h).symm
   have wl:IntKind.i64.wrap ((xs.length:Int)-1)=((xs.length-1:Nat):Int):=by rw[show (xs.length:Int)-1=((xs.length-1:Nat):Int) by omega];exact IntWalk.i64_in _ (by omega)
   have q3:(0:Int)<=((xs.length-1:Nat):Int):=by omega
   have q4:((xs.length-1:Nat):Int)<(xs.length:Int):=by omega
   have q5:(fr:Int)<(N:Int):=by omega
   replace efr:=Hd efr;obtain⟨cb,co9,cs9,row,rfl,zc,⟨RA,rc,rfl,hRA,-,-,-⟩,-,hcs,erow⟩:=(hC.out.ext HS.out.x (fun cs j h=>h.ext HS.out.x)).at (i:=fr) (by have:=hN.out;omega);have crow:=hcs 0 _ rfl;rw[Nat.mul_one,Nat.add_zero] at crow;have lrow:row.length=N:=rl.out row (List.mem_of_getElem? erow.out);obtain⟨c9,h91,h92⟩:=Zbx HS.out.nd HS.out.lt hlt2;have CH:=Hd (fun(W:World) (y:Ext wo W)=>UI row ((List.range N).map p) RA (some ⟨w.heap.size+1,0,none⟩) rc N W (hRA.ext y) (RdV.blk (by have h:=HS.out.u.ext y;unfold ArrB at h;rw[List.map_map];exact h)) (by rw[List.length_map,List.length_range,lrow]) (by omega) ⟨c9,by rw[List.getElem?_map,List.getElem?_range h91];simp[HS.out.p c9 h91,h92]⟩);rw[lrow] at crow CH;simp only[List.length_map,List.length_range] at CH;unfold VH at CH;clear hcs erow h91 h92 hRA;go_wp2_with (fail);refine(CH.out _ (by(repeat (first | assumption | exact Ext.rf _ | apply Ext.drew | apply Ext.drewN | apply Ext.alloc)))).mono ?_;rintro e w4 ⟨k,rfl,hk,x4⟩;have S4:=Hd (HS.out.ext (Ext.tr (by(repeat (first | assumption | exact Ext.rf _ | apply Ext.drew | apply Ext.drewN | apply Ext.alloc))) x4));have hkN:k<N:=by
    have h:=(List.getElem?_eq_some_iff.1 hk).1;rw[List.length_map,List.length_range] at h;exact h
   have hkx:k∉xs:=by
    rw[List.getElem?_map,List.getElem?_range hkN] at hk;simp only[Option.map_some,Option.some.injEq] at hk;rw[S4.out.p k hkN] at hk;exact of_decide_eq_false hk
   have cu:=S4.out.u.cell hkN;have fu:=S4.out.u.free k;have q1:(k:Int)<(N:Int):=by omega
   have z4:w.heap.size<=w4.heap.size:=S4.out.x.size;have ix:(Ze xs).length=xs.length:=by unfold Ze;rw[List.length_map]
   replace hk:=Hd hk;clear x4 CH t0 t1 t5 crow cl9 ;go_wp2_with (at_builtin;(refine Z7 _ rfl _ _ rfl w.heap.size (some ⟨ga,0,none⟩) xs.length cx (Ze xs) [(k:Int)] (some ⟨w4.heap.size,0,none⟩) 1 rfl rfl ix.symm ?_ ?_ ?_ ?_ ?_;(exact(S4.out.o.far (show Blk w4 (w.heap.size+1) 4 _ from S4.out.u) (by decide) k _).ext ((Ext.rf _).alloc _));(exact .blk (.new (by simp)) rfl);(rw[ix];simp;omega);(simp;omega);rintro A8 c8 w8 o8 g8 _;have S8:=Hd (S4.out.step hkN hkx o8 g8);clear o8 g8 S4 cu fu;rw[List.length_append,ix,List.length_singleton]));go_roundw
   case rel=>exact⟨xs++[k],A8,c8,_,by rw[List.length_append,List.length_singleton],by rw[List.length_append,List.length_singleton];omega,S8,Hd (by rw[List.getElem?_append_left (by have:=(List.getElem?_eq_some_iff.1 h0.out).1;exact this)];exact h0.out)⟩
   case measure=>(simp only[ZfN];omega)
  ·have hx9:xs.length=N:=by omega
   have K:=Hd (FIN.out xs HS.out.nd HS.out.lt hx9 h0.out);go_wp2_with (fail);go_ret;exact⟨Ax,cx,Ze xs,by unfold Ze;rw[List.length_map,hx9];rfl,HS.out.o,K.out,HS.out.x⟩
def Wc (i:InstP)(w:World)(e:Ending)(w':World) : Prop:=∃ (A:Option Addr) (c:Nat) (x:List Int),e=.returned (.tuple #[.slice A x.length c,.int .i64 0])/\OwI w' w.heap.size A c x/\Y6 i x/\Ext w w'
theorem Zcs {i:InstP}{x:List Int}(hc:Zf i=0)(hk:i.kind=1)(h:VM i x) : Y6 i x:=⟨by have:=h.1;have:=(ZD hc hk).n2;omega,Zco hc hk h⟩
theorem Zct (i:InstP)(us:List Value)(w:World)(H:RInst w us i)(lw:i.weight.length<=maxLen)(lv:i.value.length<=maxLen)(lwv:i.weight.length+i.value.length<=maxLen)(hc:Zf i=0) :
  Calls Tryz.prog 39 #[.agg (List.toArray us)] w (Wc i w):=by
 have CH:=fun(W:World) (x:Ext w W)=>UX i us W (H.ext x) lw lv lwv
 rw[hc] at CH;have KN:Hid (i.kind=1->∀ W,Ext w W->Calls Tryz.prog 75 #[.agg (List.toArray us)] W (VI (Y6 i) W)):=fun hk W x=>(Zd6 i us W (H.ext x) hc hk).mono fun e w' ⟨A,c,y,h1,h2,h3,h4⟩=>⟨A,c,y,h1,h2,Zcs hc hk h3,h4⟩
 have RW:Hid (i.kind≠1->∀ W,Ext w W->Calls Tryz.prog 76 #[.agg (List.toArray us)] W (VI (Y6 i) W)):=fun hk W x=>by
  rcases ZX hc with h | h | h
  ·exact absurd h hk
  ·exact Zcq i us W (H.ext x) hc h
  ·exact Zcr i us W (H.ext x) hc h
 unfold VI at KN RW;unfold Wc;generalize Y6 i=KX at *;clear hc lw lv lwv;obtain⟨kind,nn,cap,xw,xv,co⟩:=i;obtain⟨A,a,B,b,D,d,rfl,-,-,-⟩:=H;simp only at *;have B1:Hid (Blk (w.alloc (.cells #[.int .i64 kind,.int .i64 nn,.int .i64 cap,.slice A xw.length a,.slice B xv.length b,.slice D co.length d] 25)) w.heap.size 25 #[.int .i64 kind,.int .i64 nn,.int .i64 cap,.slice A xw.length a,.slice B xv.length b,.slice D co.length d]):=.new rfl;replace CH:=Hd CH;go_enter Tryz.func39,Tryz.ntmps39;go_wp2_with (fail);refine(CH.out _ (by(repeat (first | assumption | exact Ext.rf _ | apply Ext.drew | apply Ext.drewN | apply Ext.alloc)))).mono ?_;rintro e w1 ⟨rfl,x1⟩;have X1:=Hd (Ext.tr (a:=w) (by(repeat (first | assumption | exact Ext.rf _ | apply Ext.drew | apply Ext.drewN | apply Ext.alloc))) x1);have b1:=Hd (B1.out.ext x1);have t0:=b1.out.c0;have t1:=b1.out.c1;have t2:=b1.out.c2;have t3:=b1.out.c3;have t4:=b1.out.c4;have t5:=b1.out.c5;clear x1 B1 CH
 by_cases k1:kind=1
 ·have C:=Hd (KN.out k1)
  have e1:(kind==1)=true:=by simpa using k1
  clear k1 KN RW;go_wp2_with (fail);refine(C.out _ (X1.out.tr (by(repeat (first | assumption | exact Ext.rf _ | apply Ext.drew | apply Ext.drewN | apply Ext.alloc))))).mono ?_;rintro e w2 ⟨A2,c2,x,rfl,o2,kx,x2⟩;have X2:=Hd (X1.out.tr (Ext.tr (by(repeat (first | assumption | exact Ext.rf _ | apply Ext.drew | apply Ext.drewN | apply Ext.alloc))) x2));have z1:=X1.out.size;have O2:=Hd (o2.more (base':=w.heap.size) (by simpa using z1));replace kx:=Hd kx;clear o2 x2 t0 t1 t2 t3 t4 t5;go_wp2_with (fail);go_ret2;exact⟨A2,c2,x,rfl,O2.out,kx.out,X2.out⟩
 ·have C:=Hd (RW.out k1)
  have e1:(kind==1)=false:=by simpa using k1
  clear k1 KN RW;go_wp2_with (fail);refine(C.out _ (X1.out.tr (by(repeat (first | assumption | exact Ext.rf _ | apply Ext.drew | apply Ext.drewN | apply Ext.alloc))))).mono ?_;rintro e w2 ⟨A2,c2,x,rfl,o2,kx,x2⟩;have X2:=Hd (X1.out.tr (Ext.tr (by(repeat (first | assumption | exact Ext.rf _ | apply Ext.drew | apply Ext.drewN | apply Ext.alloc))) x2));have z1:=X1.out.size;have O2:=Hd (o2.more (base':=w.heap.size) (by simpa using z1));replace kx:=Hd kx;clear o2 x2 t0 t1 t2 t3 t4 t5;go_wp2_with (fail);go_ret2;exact⟨A2,c2,x,rfl,O2.out,kx.out,X2.out⟩
structure SrSt (CG:List Int->Int×Int)(kind:Int)(v2 v3 v4 v5:Value)(base gs L:Nat)(w wr:World)(A:Option Addr)(c:Nat)(x:List Int) : Prop where
 b:Blk wr gs 127 #[.int .i64 kind,.int .i64 (L:Int),v2,v3,v4,v5,.slice A L c,.int .i64 (CG x).1]
 o:OwI wr base A c x
 l:x.length=L
 z:(CG x).2=0
 m:Mod (fun z=>z=gs) w wr
def Zfd (CG:List Int->Int×Int)(kind:Int)(v2 v3 v4 v5:Value)(base gs L:Nat)(w:World)(e:Ending)(w':World) : Prop :=
 ∃ (ok:Bool) (A:Option Addr) (c:Nat) (x:List Int),e=.returned (.bool ok)/\SrSt CG kind v2 v3 v4 v5 base gs L w w' A c x
theorem Zd7 (CG:List Int->Int×Int)(kind:Int)(v2 v3 v4 v5:Value)(w0:World)(gs L:Nat)
  (VC:∀ (W:World),Ext w0 W->∀ (P:Option Addr) (c:Nat) (x:List Int),RdI W P x->x.length<=1000->Calls Tryz.prog 41 #[.agg #[.int .i64 kind,.int .i64 (L:Int),v2,v3,v4,v5],.slice P x.length c] W fun e w'=>e=.returned (.tuple #[.int .i64 (CG x).1,.int .i64 (CG x).2])/\Ext W w')
  (hL:L<=100) (h1:1<=L) (hgs:w0.heap.size<=gs) (w:World) (A:Option Addr) (c:Nat) (x:List Int) (hX:Ext w0 w) (S:SrSt CG kind v2 v3 v4 v5 w0.heap.size gs L w w A c x) :
  Calls Tryz.prog 77 #[.pointer (some ⟨gs,0,none⟩)] w (Zfd CG kind v2 v3 v4 v5 w0.heap.size gs L w):=by
 have CH:=Hd (fun(W:World) (A:Option Addr) (c a b:Nat) (x:List Int) (hab:a<b) (hb:b<L) (T:SrSt CG kind v2 v3 v4 v5 w0.heap.size gs L w W A c x)=>Zcn CG kind (.int .i64 (L:Int)) v2 v3 v4 v5 w0 gs L VC hL hgs W A c a b x (hX.mod T.m fun k hk h=>by omega) T.b T.o T.l T.z hab hb);unfold U7 at CH;have c0:=S.b.c0;have c1:=S.b.c1;replace S:=Hd S;clear VC hX
 by_cases k3:kind=3
 all_goals
  first
   | (have e3:(kind==3)=true:=by simpa using k3)
   | (have e3:(kind==3)=false:=by simpa using k3)
  clear k3;go_enter Tryz.func77,Tryz.ntmps77;go_wp2_with (fail);go_loopw [4,5] (fun u4 u5 wr=>∃ (k:Nat) (ok:Bool) (A:Option Addr) (c:Nat) (x:List Int),u4=.bool ok/\u5=.int .i64 k/\k<=L/\Hid (SrSt CG kind v2 v3 v4 v5 w0.heap.size gs L w wr A c x)) (fun _ u5 _=>L-(intOf u5).toNat)
  case atStart=>first | exact⟨0,false,A,c,x,rfl,rfl,by omega,S⟩ | exact⟨1,false,A,c,x,rfl,rfl,by omega,S⟩
  case round =>
   obtain⟨wo,rfl⟩:∃ wo:World,wo=wr:=⟨_,rfl⟩;obtain⟨k,ok,A1,c1',x1,rfl,rfl,hk,HS⟩:=hrel;have d1:=HS.out.b.c1
   by_cases hlt:(k:Int)<(L:Int)
   ·go_wp2_with (fail)
    clear d1;go_loopw [4,6] (fun u4 u6 wr=>∃ (j:Nat) (ok:Bool) (A:Option Addr) (c:Nat) (x:List Int),u4=.bool ok/\u6=.int .i64 j/\k<j/\j<=L/\Hid (SrSt CG kind v2 v3 v4 v5 w0.heap.size gs L w wr A c x)) (fun _ u6 _=>L-(intOf u6).toNat)
    case atStart=>exact⟨k+1,ok,A1,c1',x1,rfl,by go_num,by omega,by omega,HS⟩
    case round =>
     obtain⟨wi,rfl⟩:∃ wi:World,wi=wr:=⟨_,rfl⟩;obtain⟨j,ok2,A2,c2',x2,rfl,rfl,hkj,hj,HT⟩:=hrel;have d1:=HT.out.b.c1
     by_cases hjl:(j:Int)<(L:Int)
     ·go_wp2_with (fail)
      refine(CH.out _ A2 c2' k j x2 hkj (by omega) HT.out).mono ?_;rintro e w3 ⟨ok3,A3,c3,x3,rfl,b3,o3,l3,z3,m3⟩;have S3:=Hd (SrSt.mk b3 o3 l3 z3 (HT.out.m.tr m3));clear b3 o3 m3 d1
      cases ok3 with
      | true =>
       go_wp2_with (fail);go_roundw
       case rel=>exact⟨j+1,true,A3,c3,x3,rfl,by go_num,by omega,by omega,S3⟩
       case measure=>(simp only[intOf];omega)
      | false =>
       go_wp2_with (fail);go_roundw
       case rel=>exact⟨j+1,ok2,A3,c3,x3,rfl,by go_num,by omega,by omega,S3⟩
       case measure=>(simp only[intOf];omega)
     ·go_wp2_with (fail)
      go_roundw
      case rel=>exact⟨k+1,ok2,A2,c2',x2,rfl,by go_num,by omega,HT⟩
      case measure=>(simp only[intOf];omega)
   ·go_wp2_with (fail)
    go_ret;exact⟨ok,A1,c1',x1,rfl,HS.out⟩
theorem Zd8 {i:InstP}{x:List Int}(hc:Zf i=0)(h:Y6 i x) : (x.length:Int)=i.n:=by
 have h2:=h.2;unfold ZA at h2;rw[if_neg (by simpa using hc)] at h2
 by_cases hk:i.kind=1
 ·rw[if_pos hk] at h2
  by_cases h3:(x.length:Int)=i.n/\∀ v∈x,v=0\/v=1
  ·exact h3.1
  ·rw[if_neg h3] at h2
   cases h2
 ·rw[if_neg hk] at h2
  have sq:=Zo hc hk
  by_cases h3:Wa x i.cost.length=true/\(i.kind=3->x[0]?=some 0)
  ·obtain⟨l,rfl,hp⟩:=Yj.1 h3.1
   have:=hp.length_eq;rw[List.length_range] at this;have:=sq.len;unfold Ze;rw[List.length_map];omega
  ·rw[if_neg h3] at h2
   cases h2
theorem ZbA (i:InstP)(us:List Value)(P:Option Addr)(pc:Nat)(x:List Int)(w:World)(H:RInst w us i)(lw:i.weight.length<=maxLen)(lv:i.value.length<=maxLen)(lwv:i.weight.length+i.value.length<=maxLen)(hc:Zf i=0)(hP:RdI w P x)(hx:Y6 i x) :
  Calls Tryz.prog 40 #[.agg (List.toArray us),.slice P x.length pc] w (Wc i w):=by
 have VC:=fun(W:World) (y:Ext w W) (Q:Option Addr) (c:Nat) (z:List Int) (hQ:RdI W Q z) (hz:z.length<=1000)=>JW i us Q c z W (H.ext y) hQ hz lw lv lwv
 have hlen:=Zd8 hc hx;obtain⟨hx1,hx0⟩:=hx;have h1:1<=x.length:=by
  rcases ZX hc with h | h | h
  ·have:=(ZD hc h).n1;omega
  ·have:=(Zo hc (by omega)).n1;omega
  ·have:=(Zo hc (by omega)).n1;omega
 obtain⟨L,hL⟩:∃ L,x.length=L:=⟨_,rfl⟩;have CL:=Hd (fun(W:World) (y:Ext w W)=>Yw P pc x W (hP.ext y) (by omega));have VX:=Hd (fun(W:World) (y:Ext w W)=>VC W y P pc x (hP.ext y) (by omega));have OUT:Hid (∀ (y:List Int),y.length=L->(ZA i y).2=0->Y6 i y):=fun y h1 h2=>⟨by omega,h2⟩
 unfold Wc;generalize Y6 i=KX at *;generalize ZA i=CG at *;rw[hL] at CL VX h1 hx1 hlen;rw[hx0] at VX;rw[hL];clear hc hP lw lv lwv;obtain⟨kind,nn,cap,xw,xv,co⟩:=i;obtain⟨A,a,B,b,D,d,rfl,-,-,-⟩:=H;simp only at *;subst hlen;have B1:Hid (Blk (w.alloc (.cells #[.int .i64 kind,.int .i64 (L:Int),.int .i64 cap,.slice A xw.length a,.slice B xv.length b,.slice D co.length d] 25)) w.heap.size 25 #[.int .i64 kind,.int .i64 (L:Int),.int .i64 cap,.slice A xw.length a,.slice B xv.length b,.slice D co.length d]):=.new rfl;have RO:=Hd (fun(gs:Nat) (hgs:w.heap.size<=gs) (W:World) (A9:Option Addr) (c:Nat) (y:List Int) (hX:Ext w W) (S:SrSt CG kind (.int .i64 cap) (.slice A xw.length a) (.slice B xv.length b) (.slice D co.length d) w.heap.size gs L W W A9 c y)=>Zd7 CG kind (.int .i64 cap) (.slice A xw.length a) (.slice B xv.length b) (.slice D co.length d) w gs L VC hx1 h1 hgs W A9 c y hX S);unfold Zfd at RO;replace hx0:=Hd hx0;replace hL:=Hd hL;clear VC;go_enter Tryz.func40,Tryz.ntmps40;go_wp2_with (fail);refine(VX.out _ (by(repeat (first | assumption | exact Ext.rf _ | apply Ext.drew | apply Ext.drewN | apply Ext.alloc)))).mono ?_;rintro e w2 ⟨rfl,x2⟩;have X2:=Hd (Ext.tr (a:=w) (by(repeat (first | assumption | exact Ext.rf _ | apply Ext.drew | apply Ext.drewN | apply Ext.alloc))) x2);have B2:=Hd (B1.out.ext x2);have z2:=B2.out.lt;have t0:=B2.out.c0;have t1:=B2.out.c1;have t2:=B2.out.c2;have t3:=B2.out.c3;have t4:=B2.out.c4;have t5:=B2.out.c5;clear x2 B1 VX;go_upto_region 4 with(fail);go_region_held3 (fun w'=>w'.cell? ⟨w.heap.size,0,none⟩=some (.int .i64 kind)/\w'.cell? ⟨w.heap.size,1,none⟩=some (.int .i64 (L:Int))/\w'.cell? ⟨w.heap.size,2,none⟩=some (.int .i64 cap)/\w'.cell? ⟨w.heap.size,3,none⟩=some (.slice A xw.length a)/\w'.cell? ⟨w.heap.size,4,none⟩=some (.slice B xv.length b)/\w'.cell? ⟨w.heap.size,5,none⟩=some (.slice D co.length d)) (go_keep)
  (first | (go_at_call 35;refine(CL.out _ (X2.out.tr (by(repeat (first | assumption | exact Ext.rf _ | apply Ext.drew | apply Ext.drewN | apply Ext.alloc))))).mono ?_;rintro e w3 ⟨A3,c3,rfl,o3,x3⟩;have y3:=Ext.tr (a:=w2) (by(repeat (first | assumption | exact Ext.rf _ | apply Ext.drew | apply Ext.drewN | apply Ext.alloc))) x3;have s0:=Zh y3 z2 t0;have s1:=Zh y3 z2 t1;have s2:=Zh y3 z2 t2;have s3:=Zh y3 z2 t3;have s4:=Zh y3 z2 t4;have s5:=Zh y3 z2 t5))
 all_goals
  have S5:Hid (SrSt CG kind (.int .i64 cap) (.slice A xw.length a) (.slice B xv.length b) (.slice D co.length d) w.heap.size w3.heap.size L (w3.alloc (.cells #[.int .i64 kind,.int .i64 (L:Int),.int .i64 cap,.slice A xw.length a,.slice B xv.length b,.slice D co.length d,.slice A3 L c3,.int .i64 (CG x).1] 127)) (w3.alloc (.cells #[.int .i64 kind,.int .i64 (L:Int),.int .i64 cap,.slice A xw.length a,.slice B xv.length b,.slice D co.length d,.slice A3 L c3,.int .i64 (CG x).1] 127)) A3 c3 x) :=
   Hd ⟨.new rfl,(o3.more (base':=w.heap.size) (by have:=X2.out.size;first | exact this | (simp;omega))).ext ((Ext.rf _).alloc _),hL.out,hx0.out,Mod.rf _⟩
  have X5:Hid (Ext w (w3.alloc (.cells #[.int .i64 kind,.int .i64 (L:Int),.int .i64 cap,.slice A xw.length a,.slice B xv.length b,.slice D co.length d,.slice A3 L c3,.int .i64 (CG x).1] 127))):=Hd ((X2.out.tr y3).alloc _);have hgs:w.heap.size<=w3.heap.size:=(X2.out.tr y3).size;clear t0 t1 t2 t3 t4 t5 s0 s1 s2 s3 s4 s5 o3 x3 y3 B2 X2 z2 CL hx0 hL;go_upto_region 5 with(fail);generalize (w3.alloc (.cells #[.int .i64 kind,.int .i64 (L:Int),.int .i64 cap,.slice A xw.length a,.slice B xv.length b,.slice D co.length d,.slice A3 L c3,.int .i64 (CG x).1] 127))=w5 at *;generalize w3.heap.size=gs at *;go_wp2_with (fail);go_loopw [9] (fun v9 wr=>∃ (k:Nat) (A9:Option Addr) (c9:Nat) (y:List Int),v9=.int .i64 k/\k<=50/\Hid (SrSt CG kind (.int .i64 cap) (.slice A xw.length a) (.slice B xv.length b) (.slice D co.length d) w.heap.size gs L w5 wr A9 c9 y)) (fun v9 _=>50-(intOf v9).toNat)
  case atStart=>exact⟨0,A3,c3,x,rfl,by omega,S5⟩
  case round =>
   obtain⟨wo,rfl⟩:∃ wo:World,wo=wr:=⟨_,rfl⟩;obtain⟨k,A9,c9,y,rfl,hk,HS⟩:=hrel
   by_cases hlt:(k:Int)<50
   ·have g1:decide ((k:Int)<50)=true:=decide_eq_true hlt
    go_wp2_with (fail);refine(RO.out gs hgs wo A9 c9 y (X5.out.mod HS.out.m fun z hz h=>by omega) ⟨HS.out.b,HS.out.o,HS.out.l,HS.out.z,Mod.rf _⟩).mono ?_;rintro e w7 ⟨ok,A7,c7,y7,rfl,S7⟩;have T7:Hid (SrSt CG kind (.int .i64 cap) (.slice A xw.length a) (.slice B xv.length b) (.slice D co.length d) w.heap.size gs L w5 w7 A7 c7 y7):=Hd ⟨S7.b,S7.o,S7.l,S7.z,HS.out.m.tr S7.m⟩;clear S7 HS
    cases ok with
    | true =>
     go_wp2_with (fail);go_roundw
     case rel=>exact⟨k+1,A7,c7,y7,by go_num,by omega,T7⟩
     case measure=>(simp only[intOf];omega)
    | false =>
     have d6:=T7.out.b.c6;have X7:=Hd (X5.out.mod T7.out.m fun z hz h=>by omega);go_wp2_with (fail);go_ret2;exact⟨A7,c7,y7,by rw[T7.out.l];rfl,T7.out.o,OUT.out y7 T7.out.l T7.out.z,X7.out⟩
   ·have g1:decide ((k:Int)<50)=false:=decide_eq_false hlt
    have d6:=HS.out.b.c6;have X7:=Hd (X5.out.mod HS.out.m fun z hz h=>by omega);go_wp2_with (fail);go_ret2;exact⟨A9,c9,y,by rw[HS.out.l];rfl,HS.out.o,OUT.out y HS.out.l HS.out.z,X7.out⟩
def J9 (i:InstP)(w:World)(e:Ending)(w':World) : Prop:=∃ (A:Option Addr) (c:Nat) (x:List Int),e=.returned (.tuple #[.slice A x.length c,.int .i64 (ZA i x).1,.int .i64 0])/\(ZA i x).2=0/\Ext w w'
theorem Zcu (i:InstP)(us:List Value)(w:World)(H:RInst w us i)(lw:i.weight.length<=maxLen)(lv:i.value.length<=maxLen)(lwv:i.weight.length+i.value.length<=maxLen)(hc:Zf i=0) :
  Calls Tryz.prog 12 #[.agg (List.toArray us)] w (J9 i w):=by
 have VC:=Hd (fun(W:World) (y:Ext w W) (Q:Option Addr) (c:Nat) (z:List Int) (hQ:RdI W Q z) (hz:z.length<=1000)=>JW i us Q c z W (H.ext y) hQ hz lw lv lwv);have FI:=Hd (fun(W:World) (y:Ext w W)=>Zct i us W (H.ext y) lw lv lwv hc);have BE:=Hd (fun(W:World) (y:Ext w W) (Q:Option Addr) (c:Nat) (z:List Int) (hQ:RdI W Q z) (hz:Y6 i z)=>ZbA i us Q c z W (H.ext y) lw lv lwv hc hQ hz);have OK:Hid (∀ x,Y6 i x->x.length<=100/\(ZA i x).2=0):=fun x h=>h
 unfold Wc at FI BE;unfold J9;generalize Y6 i=KX at *;generalize ZA i=CG at *;clear hc lw lv lwv;obtain⟨kind,nn,cap,xw,xv,co⟩:=i;obtain⟨A,a,B,b,D,d,rfl,-,-,-⟩:=H;simp only at *;have B1:Hid (Blk (w.alloc (.cells #[.int .i64 kind,.int .i64 nn,.int .i64 cap,.slice A xw.length a,.slice B xv.length b,.slice D co.length d] 25)) w.heap.size 25 #[.int .i64 kind,.int .i64 nn,.int .i64 cap,.slice A xw.length a,.slice B xv.length b,.slice D co.length d]):=.new rfl;go_enter Tryz.func12,Tryz.ntmps12;go_wp2_with (fail);refine(FI.out _ (by(repeat (first | assumption | exact Ext.rf _ | apply Ext.drew | apply Ext.drewN | apply Ext.alloc)))).mono ?_;rintro e w1 ⟨A1,c1,x1,rfl,o1,k1,y1⟩;have X1:=Hd (Ext.tr (a:=w) (by(repeat (first | assumption | exact Ext.rf _ | apply Ext.drew | apply Ext.drewN | apply Ext.alloc))) y1);have b1:=Hd (B1.out.ext y1);have R1:=Hd o1.read;have t0:=b1.out.c0;have t1:=b1.out.c1;have t2:=b1.out.c2;have t3:=b1.out.c3;have t4:=b1.out.c4;have t5:=b1.out.c5;replace k1:=Hd k1;clear o1 y1 B1 FI;go_wp2_with (fail);refine(BE.out _ (X1.out.tr (by(repeat (first | assumption | exact Ext.rf _ | apply Ext.drew | apply Ext.drewN | apply Ext.alloc)))) A1 c1 x1 (R1.out.ext (by(repeat (first | assumption | exact Ext.rf _ | apply Ext.drew | apply Ext.drewN | apply Ext.alloc)))) k1.out).mono ?_;rintro e w2 ⟨A2,c2,x2,rfl,o2,k2,y2⟩;have z2:=Ext.tr (a:=w1) (by(repeat (first | assumption | exact Ext.rf _ | apply Ext.drew | apply Ext.drewN | apply Ext.alloc))) y2;have X2:=Hd (X1.out.tr z2);have b2:=Hd (b1.out.ext z2);have R2:=Hd o2.read;clear t0 t1 t2 t3 t4 t5;have t0:=b2.out.c0;have t1:=b2.out.c1;have t2:=b2.out.c2;have t3:=b2.out.c3;have t4:=b2.out.c4;have t5:=b2.out.c5;obtain⟨l2,e2⟩:=OK.out x2 k2;have V2:=Hd (fun(W:World) (y:Ext w2 W)=>VC.out W (X2.out.tr y) A2 c2 x2 (R2.out.ext y) (by omega));rw[e2] at V2;replace e2:=Hd e2;obtain⟨cy,hcy⟩:∃ cy,Hid ((CG x2).1=cy):=⟨_,rfl⟩;rw[hcy.out] at V2;clear y2 z2 o2 k2 X1 b1 R1 k1 BE VC OK;go_wp2_with (fail);refine(V2.out _ (by(repeat (first | assumption | exact Ext.rf _ | apply Ext.drew | apply Ext.drewN | apply Ext.alloc)))).mono ?_;rintro e w3 ⟨rfl,y3⟩;have X3:=Hd (X2.out.tr (Ext.tr (by(repeat (first | assumption | exact Ext.rf _ | apply Ext.drew | apply Ext.drewN | apply Ext.alloc))) y3));clear y3 t0 t1 t2 t3 t4 t5 V2;go_wp2_with (fail);go_ret3;exact⟨A2,c2,x2,by rw[hcy.out];rfl,e2.out,X3.out.tr (by(repeat (first | assumption | exact Ext.rf _ | apply Ext.drew | apply Ext.drewN | apply Ext.alloc)))⟩
theorem OwI.init {w:World}{base c:Nat}{A:Option Addr}{p:List Int}{x:Int}(h:OwI w base A c (p++[x])) : OwI w base A c p:=by
 rcases h.cases with⟨_,_,h⟩ | ⟨g,cur,rfl,hb,hg,hn,hm,hs,ht⟩
 ·simp at h
 ·refine .mk hb hg (by rw[List.length_append] at hn;omega) hm hs ?_
  have e:cur.toList.take (p.length*1)=(cur.toList.take ((p++[x]).length*1)).take (p.length*1):=by
   rw[List.take_take]
   congr 1
   simp
  rw[e,ht,List.map_append,List.take_append_of_le_length (by simp)];exact List.take_of_length_le (by simp)
theorem Ji {D:Nat}{kids:List Int->List Int}{bound:List Int->Int} : ∀ (f:Nat) (p:List Int) (best:Int) (found:List Int) (s:Nat),(Yh D kids bound f p (best,found,s)).1.2.2<=s
 | 0,p,best,found,s=>Nat.le_refl _
 | f+1,p,best,found,s=>by
  unfold Yh;split
  ·exact Nat.zero_le _
  split
  ·exact Nat.sub_le _ _
  split
  ·exact Nat.sub_le _ _
  have key:∀ (l:List Int) (best:Int) (found:List Int) (s:Nat),(Uv (fun n st=>Yh D kids bound f (p++[n]) st) l (best,found,s)).1.2.2<=s:=by
   intro l
   induction l with
   | nil=>intro best found s;exact Nat.le_refl _
   | cons m l ih =>
    intro best found s;have h1:=Ji (D:=D) (kids:=kids) (bound:=bound) f (p++[m]) best found s;simp only[Uv];rcases hg:Yh D kids bound f (p++[m]) (best,found,s) with⟨⟨b',f',s'⟩,ok⟩;rw[hg] at h1
    cases ok with
    | true=>exact Nat.le_trans (ih b' f' s') h1
    | false=>exact h1
  exact Nat.le_trans (key _ _ _ _) (Nat.sub_le _ _)
def Wd (w0:World)(g gs:Nat)(p:List Int)(A:Option Addr)(R:StK×Bool)(w:World)(e:Ending)(w':World) : Prop :=
 ∃ (A':Option Addr) (c':Nat) (F:Option Addr) (fc:Nat),e=.returned (.bool R.2)/\Blk w' gs 87 #[.pointer (some ⟨g,0,none⟩),.slice A' p.length c',.slice F R.1.2.1.length fc,.int .i64 R.1.1,.int .i64 (R.1.2.2:Int)]/\OwI w' w0.heap.size A' c' p/\Mod (fun z=>z=gs\/bl A=some z) w w'/\(bl A'=bl A\/∃ b,bl A'=some b/\w.heap.size<=b)
theorem Zfe (D:Nat)(KE:List Int->List Int)(BE:List Int->Int)(okp:List Int->Prop)(g:Nat)(w0:World)
  (BO:∀ (W:World),Ext w0 W->∀ (P:Option Addr) (c:Nat) (p:List Int),RdI W P p->p.length<=1000->∃ er:Int,Calls Tryz.prog 15 #[.pointer (some ⟨g,0,none⟩),.slice P p.length c] W fun e w'=>e=.returned (.tuple #[.int .i64 (BE p),.int .i64 er])/\Ext W w')
  (DE:∀ (W:World),Ext w0 W->Calls Tryz.prog 16 #[.pointer (some ⟨g,0,none⟩)] W fun e w'=>e=.returned (.int .i64 (D:Int))/\Ext W w')
  (KI:∀ (W:World),Ext w0 W->∀ (P:Option Addr) (c:Nat) (p:List Int),RdI W P p->p.length<=1000->∃ er:Int,Calls Tryz.prog 89 #[.pointer (some ⟨g,0,none⟩),.slice P p.length c] W (YF (KE p) er W))
  (hlen:∀ p,okp p->p.length<=D) (hkid:∀ p,okp p->p.length<D->∀ n∈KE p,okp (p++[n])) (hD:D<=64) :
  ∀ (f:Nat) (p:List Int) (best:Int) (found:List Int) (s:Nat) (w:World) (gs:Nat) (A:Option Addr) (c:Nat) (F:Option Addr) (fc:Nat),f+p.length=D+1->okp p->Ext w0 w->w0.heap.size<=gs->Blk w gs 87 #[.pointer (some ⟨g,0,none⟩),.slice A p.length c,.slice F found.length fc,.int .i64 best,.int .i64 (s:Int)]->OwI w w0.heap.size A c p->s<=2000000 ->
   Calls Tryz.prog 45 #[.pointer (some ⟨gs,0,none⟩)] w (Wd w0 g gs p A (Yh D KE BE f p (best,found,s)) w):=by
 intro f
 induction f with
 | zero=>intro p best found s w gs A c F fc hf ho;have:=hlen p ho;omega
 | succ f ih =>
  intro p best found s w gs A c F fc hf ho x hgs hB oA hs;have hl:=hlen p ho;have hkd:=hkid p ho;have z0:=x.size;have zg:=hB.lt;have c4:=hB.c4;have f4:=hB.free 4
  by_cases hs0:s=0
  ·have e:Yh D KE BE (f+1) p (best,found,s)=((best,found,0),false):=by
    unfold Yh;rw[if_pos hs0]
   rw[e];subst hs0;have P:Hid (Wd w0 g gs p A ((best,found,0),false) w (.returned (.bool false)) w):=⟨A,c,F,fc,rfl,hB,oA,Mod.rf w,.inl rfl⟩;clear BO DE KI hlen hkid hkd hB oA e ih;go_enter Tryz.func45,Tryz.ntmps45;go_wp2_with (fail);go_ret;exact P.out
  ·obtain⟨t,ht⟩:∃ t,s=t+1:=⟨s-1,by omega⟩
   have LK:Yh D KE BE (f+1) p (best,found,s)=if best<=BE p then((best,found,t),true) else if p.length=D then((BE p,p,t),true) else Uv (fun n st=>Yh D KE BE f (p++[n]) st) (KE p) (best,found,t):=by
    rw[ht];exact Zb7 f p best found t
   obtain⟨R0,hR0⟩:∃ R0,Yh D KE BE (f+1) p (best,found,s)=R0:=⟨_,rfl⟩;rw[hR0] at LK ⊢;replace LK:=Hd LK;have e1:((s:Int)==0)=false:=by rw[beq_eq_false_iff_ne];omega
   have wst:IntKind.i64.wrap ((s:Int)-1)=(t:Int):=by rw[show (s:Int)-1=(t:Int) by omega];exact IntWalk.i64_in _ (by omega)
   have ht9:t<=2000000:=by omega
   have B1:Hid (Blk (w.setCell ⟨gs,4,none⟩ (.int .i64 (t:Int))) gs 87 #[.pointer (some ⟨g,0,none⟩),.slice A p.length c,.slice F found.length fc,.int .i64 best,.int .i64 (t:Int)]):=hB.set 4 _;have M1:Hid (Mod (fun z=>z=gs\/bl A=some z) w (w.setCell ⟨gs,4,none⟩ (.int .i64 (t:Int)))):=(Mod.rf w).set (.inl (.inl rfl)) _;have O1:Hid (OwI (w.setCell ⟨gs,4,none⟩ (.int .i64 (t:Int))) w0.heap.size A c p):=oA.far hB (by decide) 4 _;have X1:Hid (Ext w0 (w.setCell ⟨gs,4,none⟩ (.int .i64 (t:Int)))):=x.setNew hgs _;replace BO:=Hd BO;replace DE:=Hd DE;replace KI:=Hd KI;replace ih:=Hd ih;replace hkd:=Hd hkd;have zA:=Hd (fun b hb=>(oA.lt b hb).2);clear hlen hkid hR0 hB oA ho x ht;go_enter Tryz.func45,Tryz.ntmps45;go_upto_region 4 with(fail);generalize (w.setCell ⟨gs,4,none⟩ (.int .i64 (t:Int)))=w1 at *;clear c4 f4 e1 wst;have d0:=B1.out.c0;have d1:=B1.out.c1;obtain⟨b,hb⟩:∃ b,BE p=b:=⟨_,rfl⟩;obtain⟨er,BO1⟩:=BO.out w1.drew X1.out.drew A c p (O1.out.read.ext ((Ext.rf w1).drew)) (by omega);rw[hb] at BO1 LK;replace BO1:=Hd BO1;clear hb;refine wp_region_any (by kernel_rfl) ?_
   change wpAny _ _ _ _ _ _ _ (World.drew _)
   refine Za (i:=0) (op:=Op.move (Operand.tmp 0)) (t:=85) (d:=some 23) (v:=?_) rfl (by decide +kernel) (by decide +kernel) (by decide +kernel) (fun _ _ _ h=>h) ?_ ?_
   case refine_2=>(intro _;unfold Zd;go_simp;try with_reducible rfl)
   try simp only[lay]
   refine Za (i:=1) (op:=Op.nilCheck (Operand.tmp 23)) (t:=0) (d:=some 24) (v:=?_) rfl (by decide +kernel) (by decide +kernel) (by decide +kernel) (fun _ _ _ h=>h) ?_ ?_
   case refine_2=>(intro _;unfold Zd;go_simp;try with_reducible rfl)
   try simp only[lay]
   refine Za (i:=2) (op:=Op.fieldAddr 87 (Operand.tmp 24) 0) (t:=0) (d:=some 25) (v:=?_) rfl (by decide +kernel) (by decide +kernel) (by decide +kernel) (fun _ _ _ h=>h) ?_ ?_
   case refine_2=>(intro _;unfold Zd;go_simp;try with_reducible rfl)
   try simp only[lay]
   refine Za (i:=4) (op:=Op.move (Operand.tmp 0)) (t:=85) (d:=some 27) (v:=?_) rfl (by decide +kernel) (by decide +kernel) (by decide +kernel) (fun _ _ _ h=>h) ?_ ?_
   case refine_2=>(intro _;unfold Zd;go_simp;try with_reducible rfl)
   try simp only[lay]
   refine Za (i:=5) (op:=Op.nilCheck (Operand.tmp 27)) (t:=0) (d:=some 28) (v:=?_) rfl (by decide +kernel) (by decide +kernel) (by decide +kernel) (fun _ _ _ h=>h) ?_ ?_
   case refine_2=>(intro _;unfold Zd;go_simp;try with_reducible rfl)
   try simp only[lay]
   refine Za (i:=6) (op:=Op.fieldAddr 87 (Operand.tmp 28) 1) (t:=0) (d:=some 29) (v:=?_) rfl (by decide +kernel) (by decide +kernel) (by decide +kernel) (fun _ _ _ h=>h) ?_ ?_
   case refine_2=>(intro _;unfold Zd;go_simp;try with_reducible rfl)
   try simp only[lay]
   refine YJ (n:=6) [(3,some 26),(7,some 30)] (fun | 3=>.pointer (some ⟨g,0,none⟩) | 7=>.slice A p.length c | _=>undef) #[true,true,true,true,true,true,true,true,false,false,false,false,false,false] (by decide +kernel) ?_ ?_
   ·intro pS hpm uS hD K hK
    simp only[List.mem_cons,List.not_mem_nil,or_false] at hpm;rcases hpm with rfl | rfl
    ·exact Zp (T:=29) (x:=Operand.tmp 25) (t:=29) (d:=some 26) rfl (.pointer (some ⟨gs,0,none⟩)) (by kernel_rfl) (.pointer (some ⟨g,0,none⟩)) (by go_simp) hK
    ·exact Zp (T:=22) (x:=Operand.tmp 29) (t:=22) (d:=some 30) rfl (.pointer (some ⟨gs,1,none⟩)) (by kernel_rfl) (.slice A p.length c) (by go_simp) hK
   simp only[Zk,Act.put,List.setIfInBounds_toArray,List.set_cons_zero,List.set_cons_succ];refine Zi 8 (by decide +kernel) (Ym (f:=15) (xs:=#[Operand.tmp 26,Operand.tmp 30]) (ts:=#[29,22]) (t:=37) (d:=some 31) rfl #[.pointer (some ⟨g,0,none⟩),.slice A p.length c] (by go_simp) (by kernel_rfl) _ (BO1.out) ?_);rintro e w2 ⟨rfl,x2⟩;refine⟨_,rfl,?_⟩;have y2:=Ext.tr (a:=w1) (by(repeat (first | assumption | exact Ext.rf _ | apply Ext.drew | apply Ext.drewN | apply Ext.alloc))) x2;have B2:=Hd (B1.out.ext y2);have M2:=Hd (M1.out.ext y2);have O2:=Hd (O1.out.ext y2);have X2:=Hd (X1.out.tr y2);clear y2 x2 d0 d1 B1 M1 O1 X1 BO1 BO
   try simp only[lay]
   refine Za (i:=9) (op:=Op.move (Operand.tmp 31)) (t:=37) (d:=some 22) (v:=?_) rfl (by decide +kernel) (by decide +kernel) (by decide +kernel) (fun _ _ _ h=>h) ?_ ?_
   case refine_2=>(intro _;unfold Zd;go_simp;try with_reducible rfl)
   try simp only[lay]
   refine Za (i:=10) (op:=Op.extract (Operand.tmp 22) 0) (t:=3) (d:=some 32) (v:=?_) rfl (by decide +kernel) (by decide +kernel) (by decide +kernel) (fun _ _ _ h=>h) ?_ ?_
   case refine_2=>(intro _;unfold Zd;go_simp;try with_reducible rfl)
   try simp only[lay]
   refine Za (i:=11) (op:=Op.extract (Operand.tmp 22) 1) (t:=30) (d:=some 33) (v:=?_) rfl (by decide +kernel) (by decide +kernel) (by decide +kernel) (fun _ _ _ h=>h) ?_ ?_
   case refine_2=>(intro _;unfold Zd;go_simp;try with_reducible rfl)
   try simp only[lay]
   refine Za (i:=12) (op:=Op.assign (Operand.tmp 32)) (t:=3) (d:=some 3) (v:=?_) rfl (by decide +kernel) (by decide +kernel) (by decide +kernel) (fun _ _ _ h=>h) ?_ ?_
   case refine_2=>(intro _;unfold Zd;go_simp;try with_reducible rfl)
   try simp only[lay]
   refine Za (i:=13) (op:=Op.assign (Operand.tmp 33)) (t:=30) (d:=some 4) (v:=?_) rfl (by decide +kernel) (by decide +kernel) (by decide +kernel) (fun _ _ _ h=>h) ?_ ?_
   case refine_2=>(intro _;unfold Zd;go_simp;try with_reducible rfl)
   try simp only[lay]
   refine wpAny_done (by kernel_rfl) ?_ _;go_simp;have d0:=B2.out.c0;have d1:=B2.out.c1;have d3:=B2.out.c3
   by_cases h1:best<=b
   ·have hR1:=LK.out
    rw[if_pos h1] at hR1;have P:Hid (Wd w0 g gs p A R0 w (.returned (.bool true)) w2):=by rw[hR1];exact⟨A,c,F,fc,rfl,B2.out,O2.out,M2.out,.inl rfl⟩
    clear hR1 LK;have g1:decide (best<=b)=true:=decide_eq_true h1;clear B2 M2 O2 X2 DE KI ih;go_wp2_with (fail);go_ret;exact P.out
   ·have LK2:=LK.out
    rw[if_neg h1] at LK2;replace LK2:=Hd LK2;clear LK;have g1:decide (best<=b)=false:=decide_eq_false h1;go_upto_region 7 with(fail);have zB:=B2.out.lt;refine wp_region_any (by kernel_rfl) ?_
    change wpAny _ _ _ _ _ _ _ (World.drew _)
    refine Za (i:=0) (op:=Op.move (Operand.tmp 0)) (t:=85) (d:=some 42) (v:=?_) rfl (by decide +kernel) (by decide +kernel) (by decide +kernel) (fun _ _ _ h=>h) ?_ ?_
    case refine_2=>(intro _;unfold Zd;go_simp;try with_reducible rfl)
    try simp only[lay]
    refine Za (i:=1) (op:=Op.nilCheck (Operand.tmp 42)) (t:=0) (d:=some 43) (v:=?_) rfl (by decide +kernel) (by decide +kernel) (by decide +kernel) (fun _ _ _ h=>h) ?_ ?_
    case refine_2=>(intro _;unfold Zd;go_simp;try with_reducible rfl)
    try simp only[lay]
    refine Za (i:=2) (op:=Op.fieldAddr 87 (Operand.tmp 43) 1) (t:=0) (d:=some 44) (v:=?_) rfl (by decide +kernel) (by decide +kernel) (by decide +kernel) (fun _ _ _ h=>h) ?_ ?_
    case refine_2=>(intro _;unfold Zd;go_simp;try with_reducible rfl)
    try simp only[lay]
    refine Za (i:=5) (op:=Op.move (Operand.tmp 0)) (t:=85) (d:=some 47) (v:=?_) rfl (by decide +kernel) (by decide +kernel) (by decide +kernel) (fun _ _ _ h=>h) ?_ ?_
    case refine_2=>(intro _;unfold Zd;go_simp;try with_reducible rfl)
    try simp only[lay]
    refine Za (i:=6) (op:=Op.nilCheck (Operand.tmp 47)) (t:=0) (d:=some 48) (v:=?_) rfl (by decide +kernel) (by decide +kernel) (by decide +kernel) (fun _ _ _ h=>h) ?_ ?_
    case refine_2=>(intro _;unfold Zd;go_simp;try with_reducible rfl)
    try simp only[lay]
    refine Za (i:=7) (op:=Op.fieldAddr 87 (Operand.tmp 48) 0) (t:=0) (d:=some 49) (v:=?_) rfl (by decide +kernel) (by decide +kernel) (by decide +kernel) (fun _ _ _ h=>h) ?_ ?_
    case refine_2=>(intro _;unfold Zd;go_simp;try with_reducible rfl)
    try simp only[lay]
    refine Z3 (n:=2) [(3,some 45),(4,some 46),(8,some 50),(9,some 51)] (Ext w2) (VF (fun | 3=>some (.slice A p.length c) | 4=>some (.int .i64 (p.length:Int)) | 8=>some (.pointer (some ⟨g,0,none⟩)) | 9=>some (.int .i64 (D:Int)) | _=>none) (fun i v W=>True)) Ext #[true,true,true,true,true,true,true,true,true,true,false,false] (by decide +kernel) (VF.stab ?_) ?_ ?_ (by first | exact(Ext.rf _).drew | exact Ext.rf _)
    ·intro j v W W' _ _ _;trivial
    ·intro pS hpm uS wS hRW hD K hK
     simp only[List.mem_cons,List.not_mem_nil,or_false] at hpm;rcases hpm with rfl | rfl | rfl | rfl
     ·( have rX:=Zh hRW zB d1;exact Zp (T:=22) (x:=Operand.tmp 44) (t:=22) (d:=some 45) rfl (.pointer (some ⟨gs,1,none⟩)) (by kernel_rfl) (.slice A p.length c) (by go_simp) (hK _ _ (VF.mk rfl) hRW (Ext.rf _)))
     ·(have e3:uS 3=.slice A p.length c:=(hD 3 (Zn (by kernel_rfl))).k rfl;exact ZM (op:=Op.call { callee:=Callee.builtin Builtin.len,args:=#[Operand.tmp 45],argTypes:=#[22] }) (t:=3) (d:=some 46) rfl (.int .i64 (p.length:Int)) (by simp only[Zk,Act.put,List.setIfInBounds_toArray,List.set_cons_zero,List.set_cons_succ];unfold Zd;(try go_simp);(try simp only[e3]);(try go_simp);(try rfl);(try (exact IntWalk.i64_in _ (by omega)))) (hK _ _ (VF.mk rfl) hRW (Ext.rf _)))
     ·( have rX:=Zh hRW zB d0;exact Zp (T:=29) (x:=Operand.tmp 49) (t:=29) (d:=some 50) rfl (.pointer (some ⟨gs,0,none⟩)) (by kernel_rfl) (.pointer (some ⟨g,0,none⟩)) (by go_simp) (hK _ _ (VF.mk rfl) hRW (Ext.rf _)))
     ·(have e8:uS 8=.pointer (some ⟨g,0,none⟩):=(hD 8 (Zn (by kernel_rfl))).k rfl;exact Ym (f:=16) (xs:=#[Operand.tmp 50]) (ts:=#[29]) (t:=3) (d:=some 51) rfl #[.pointer (some ⟨g,0,none⟩)] (by go_simp) (Eq.trans (b:=#[uS 8]) (by kernel_rfl) (by rw[e8])) _ (DE.out _ (X2.out.tr hRW)) (by rintro e w9 ⟨rfl,xx⟩;exact⟨_,rfl,hK _ _ (VF.mk rfl) (hRW.tr xx) xx⟩))
    intro u w3 hR3 hV;have h3:=(hV (3,some 45) (by simp)).k rfl;have h4:=(hV (4,some 46) (by simp)).k rfl;have h8:=(hV (8,some 50) (by simp)).k rfl;have h9:=(hV (9,some 51) (by simp)).k rfl;simp only[Zk,h3,h4,h8,h9];clear hV h3 h4 h8 h9
    try simp only[lay]
    have B3:=Hd (B2.out.ext hR3);have M3:=Hd (M2.out.ext hR3);have O3:=Hd (O2.out.ext hR3);have X3:=Hd (X2.out.tr hR3);clear hR3 d0 d1 d3 B2 M2 O2 X2 zB g1
    try simp only[lay]
    by_cases h2:p.length=D
    ·have hR2:=LK2.out
     rw[if_pos h2] at hR2;have e2:((p.length:Int)==(D:Int))=true:=by rw[beq_iff_eq];omega
     clear h2;refine Za (i:=10) (op:=Op.binOp BinOp.eql 3 (Operand.tmp 46) (Operand.tmp 51) 3) (t:=4) (d:=some 52) (v:=?_) rfl (by decide +kernel) (by decide +kernel) (by decide +kernel) (fun _ _ _ h=>h) ?_ ?_
     case refine_2=>(intro _;unfold Zd;go_simp;try with_reducible rfl)
     try simp only[lay]
     refine Za (i:=11) (op:=Op.assign (Operand.tmp 52)) (t:=4) (d:=some 41) (v:=?_) rfl (by decide +kernel) (by decide +kernel) (by decide +kernel) (fun _ _ _ h=>h) ?_ ?_
     case refine_2=>(intro _;unfold Zd;go_simp;try with_reducible rfl)
     try simp only[lay]
     refine wpAny_done (by kernel_rfl) ?_ _;go_simp;have CL:=Hd (fun(W:World) (y:Ext w3 W)=>Yw A c p W (O3.out.read.ext y) (by omega));have d1:=B3.out.c1;go_wp2_with (fail);refine(CL.out _ (by(repeat (first | assumption | exact Ext.rf _ | apply Ext.drew | apply Ext.drewN | apply Ext.alloc)))).mono ?_;rintro e w5 ⟨A5,c5,rfl,o5,x5⟩;have y5:=Ext.tr (a:=w3) (by(repeat (first | assumption | exact Ext.rf _ | apply Ext.drew | apply Ext.drewN | apply Ext.alloc))) x5;have B5:=Hd (B3.out.ext y5);have M5:=Hd (M3.out.ext y5);have O5:=Hd (O3.out.ext y5);have P:Hid (Wd w0 g gs p A R0 w (.returned (.bool true)) ((w5.setCell ⟨gs,3,none⟩ (.int .i64 b)).setCell ⟨gs,2,none⟩ (.slice A5 p.length c5))) :=
      Hd <| by
      rw[hR2];exact⟨A,c,A5,c5,rfl,(B5.out.set 3 _).set 2 _,(O5.out.far B5.out (by decide) 3 _).far (B5.out.set 3 _) (by decide) 2 _,(M5.out.set (.inl (.inl rfl)) _).set (.inl (.inl rfl)) _,.inl rfl⟩
     have k2:=B5.out.c2;have k3:=B5.out.c3;have f2:=B5.out.free 2;have f3:=B5.out.free 3;clear hR2 LK2 x5 y5 o5 CL d1 B3 M3 O3 X3 B5 M5 O5 DE KI ih;go_wp2_with (fail);go_ret;exact P.out
    ·have LK3:=LK2.out
     rw[if_neg h2] at LK3;have e2:((p.length:Int)==(D:Int))=false:=by rw[beq_eq_false_iff_ne];omega
     refine Za (i:=10) (op:=Op.binOp BinOp.eql 3 (Operand.tmp 46) (Operand.tmp 51) 3) (t:=4) (d:=some 52) (v:=?_) rfl (by decide +kernel) (by decide +kernel) (by decide +kernel) (fun _ _ _ h=>h) ?_ ?_
     case refine_2=>(intro _;unfold Zd;go_simp;try with_reducible rfl)
     try simp only[lay]
     refine Za (i:=11) (op:=Op.assign (Operand.tmp 52)) (t:=4) (d:=some 41) (v:=?_) rfl (by decide +kernel) (by decide +kernel) (by decide +kernel) (fun _ _ _ h=>h) ?_ ?_
     case refine_2=>(intro _;unfold Zd;go_simp;try with_reducible rfl)
     try simp only[lay]
     refine wpAny_done (by kernel_rfl) ?_ _;go_simp;go_upto_region 10 with(fail);have d0:=B3.out.c0;have d1:=B3.out.c1;obtain⟨er2,KI1⟩:=KI.out w3.drew X3.out.drew A c p (O3.out.read.ext ((Ext.rf w3).drew)) (by omega);have hkl:=hkd.out (by omega);obtain⟨l,hl9⟩:∃ l,KE p=l:=⟨_,rfl⟩;rw[hl9] at KI1 hkl LK3;replace LK3:=Hd LK3;unfold YF at KI1;replace KI1:=Hd KI1;replace hkl:=Hd hkl;clear e2 hl9;refine wp_region_any (by kernel_rfl) ?_
     change wpAny _ _ _ _ _ _ _ (World.drew _)
     refine Za (i:=0) (op:=Op.move (Operand.tmp 0)) (t:=85) (d:=some 66) (v:=?_) rfl (by decide +kernel) (by decide +kernel) (by decide +kernel) (fun _ _ _ h=>h) ?_ ?_
     case refine_2=>(intro _;unfold Zd;go_simp;try with_reducible rfl)
     try simp only[lay]
     refine Za (i:=1) (op:=Op.nilCheck (Operand.tmp 66)) (t:=0) (d:=some 67) (v:=?_) rfl (by decide +kernel) (by decide +kernel) (by decide +kernel) (fun _ _ _ h=>h) ?_ ?_
     case refine_2=>(intro _;unfold Zd;go_simp;try with_reducible rfl)
     try simp only[lay]
     refine Za (i:=2) (op:=Op.fieldAddr 87 (Operand.tmp 67) 0) (t:=0) (d:=some 68) (v:=?_) rfl (by decide +kernel) (by decide +kernel) (by decide +kernel) (fun _ _ _ h=>h) ?_ ?_
     case refine_2=>(intro _;unfold Zd;go_simp;try with_reducible rfl)
     try simp only[lay]
     refine Za (i:=4) (op:=Op.move (Operand.tmp 0)) (t:=85) (d:=some 70) (v:=?_) rfl (by decide +kernel) (by decide +kernel) (by decide +kernel) (fun _ _ _ h=>h) ?_ ?_
     case refine_2=>(intro _;unfold Zd;go_simp;try with_reducible rfl)
     try simp only[lay]
     refine Za (i:=5) (op:=Op.nilCheck (Operand.tmp 70)) (t:=0) (d:=some 71) (v:=?_) rfl (by decide +kernel) (by decide +kernel) (by decide +kernel) (fun _ _ _ h=>h) ?_ ?_
     case refine_2=>(intro _;unfold Zd;go_simp;try with_reducible rfl)
     try simp only[lay]
     refine Za (i:=6) (op:=Op.fieldAddr 87 (Operand.tmp 71) 1) (t:=0) (d:=some 72) (v:=?_) rfl (by decide +kernel) (by decide +kernel) (by decide +kernel) (fun _ _ _ h=>h) ?_ ?_
     case refine_2=>(intro _;unfold Zd;go_simp;try with_reducible rfl)
     try simp only[lay]
     refine YJ (n:=6) [(3,some 69),(7,some 73)] (fun | 3=>.pointer (some ⟨g,0,none⟩) | 7=>.slice A p.length c | _=>undef) #[true,true,true,true,true,true,true,true,false,false,false,false,false,false] (by decide +kernel) ?_ ?_
     ·intro pS hpm uS hD K hK
      simp only[List.mem_cons,List.not_mem_nil,or_false] at hpm;rcases hpm with rfl | rfl
      ·exact Zp (T:=29) (x:=Operand.tmp 68) (t:=29) (d:=some 69) rfl (.pointer (some ⟨gs,0,none⟩)) (by kernel_rfl) (.pointer (some ⟨g,0,none⟩)) (by go_simp) hK
      ·exact Zp (T:=22) (x:=Operand.tmp 72) (t:=22) (d:=some 73) rfl (.pointer (some ⟨gs,1,none⟩)) (by kernel_rfl) (.slice A p.length c) (by go_simp) hK
     simp only[Zk,Act.put,List.setIfInBounds_toArray,List.set_cons_zero,List.set_cons_succ];refine Zi 8 (by decide +kernel) (Ym (f:=89) (xs:=#[Operand.tmp 69,Operand.tmp 73]) (ts:=#[29,22]) (t:=82) (d:=some 74) rfl #[.pointer (some ⟨g,0,none⟩),.slice A p.length c] (by go_simp) (by kernel_rfl) _ (KI1.out) ?_);rintro e w4 ⟨L4,lc,rfl,o4,x4⟩;refine⟨_,rfl,?_⟩;have y4:=Ext.tr (a:=w3) (by(repeat (first | assumption | exact Ext.rf _ | apply Ext.drew | apply Ext.drewN | apply Ext.alloc))) x4;have B4:=Hd (B3.out.ext y4);have M4:=Hd (M3.out.ext y4);have O4:=Hd (O3.out.ext y4);have X4:=Hd (X3.out.tr y4);have far4:Hid (∀ b,bl L4=some b->¬(b=gs\/bl A=some b)):=fun b hb h=>by
      have h9:=(o4.lt b hb).1;have h8:w3.drew.heap.size=w3.heap.size:=rfl;have h7:=M3.out.size;rcases h with rfl | h
      ·omega
      ·have:=zA.out b h
       omega
     have ll:=o4.le;have L4o:=Hd o4;have zw4:Hid (w.heap.size<=w4.heap.size/\w0.heap.size<=w4.heap.size):=⟨M4.out.size,X4.out.size⟩;clear y4 x4 o4 d0 d1 B3 M3 O3 X3 KI1 KI hkd
     try simp only[lay]
     refine Za (i:=9) (op:=Op.move (Operand.tmp 74)) (t:=82) (d:=some 65) (v:=?_) rfl (by decide +kernel) (by decide +kernel) (by decide +kernel) (fun _ _ _ h=>h) ?_ ?_
     case refine_2=>(intro _;unfold Zd;go_simp;try with_reducible rfl)
     try simp only[lay]
     refine Za (i:=10) (op:=Op.extract (Operand.tmp 65) 0) (t:=22) (d:=some 75) (v:=?_) rfl (by decide +kernel) (by decide +kernel) (by decide +kernel) (fun _ _ _ h=>h) ?_ ?_
     case refine_2=>(intro _;unfold Zd;go_simp;try with_reducible rfl)
     try simp only[lay]
     refine Za (i:=11) (op:=Op.extract (Operand.tmp 65) 1) (t:=30) (d:=some 76) (v:=?_) rfl (by decide +kernel) (by decide +kernel) (by decide +kernel) (fun _ _ _ h=>h) ?_ ?_
     case refine_2=>(intro _;unfold Zd;go_simp;try with_reducible rfl)
     try simp only[lay]
     refine Za (i:=12) (op:=Op.assign (Operand.tmp 75)) (t:=22) (d:=some 5) (v:=?_) rfl (by decide +kernel) (by decide +kernel) (by decide +kernel) (fun _ _ _ h=>h) ?_ ?_
     case refine_2=>(intro _;unfold Zd;go_simp;try with_reducible rfl)
     try simp only[lay]
     refine Za (i:=13) (op:=Op.assign (Operand.tmp 76)) (t:=30) (d:=some 6) (v:=?_) rfl (by decide +kernel) (by decide +kernel) (by decide +kernel) (fun _ _ _ h=>h) ?_ ?_
     case refine_2=>(intro _;unfold Zd;go_simp;try with_reducible rfl)
     try simp only[lay]
     refine wpAny_done (by kernel_rfl) ?_ _;go_simp;have hR:Hid (Uv (fun n st=>Yh D KE BE f (p++[n]) st) l (best,found,t)=R0):=LK3.out.symm;clear LK3 LK2;have hl9:l.length<=9223372036854775807:=by have:=ll.2;unfold maxLen at this;omega
     clear ll;go_wp2_with (fail);go_loopw [79] (fun v wr=>∃ (k:Nat) (bb:Int) (ff:List Int) (ss:Nat) (Ak:Option Addr) (ck:Nat) (Fk:Option Addr) (fck:Nat),v=.int .i64 k/\k<=l.length/\Hid (Uv (fun n st=>Yh D KE BE f (p++[n]) st) (l.drop k) (bb,ff,ss)=R0)/\ss<=2000000/\Hid (Blk wr gs 87 #[.pointer (some ⟨g,0,none⟩),.slice Ak p.length ck,.slice Fk ff.length fck,.int .i64 bb,.int .i64 (ss:Int)])/\Hid (OwI wr w0.heap.size Ak ck p)/\Hid (Mod (fun z=>z=gs\/bl A=some z) w4 wr)/\Hid (bl Ak=bl A\/∃ b,bl Ak=some b/\w4.heap.size<=b)/\Hid (Ext w0 wr)) (fun v _=>l.length-(intOf v).toNat)
     case atStart=>exact⟨0,best,found,t,A,c,F,fc,rfl,by omega,hR,ht9,B4,O4,Mod.rf w4,.inl rfl,X4⟩
     case round =>
      obtain⟨wo,rfl⟩:∃ wo:World,wo=wr:=⟨_,rfl⟩;obtain⟨k,bb,ff,ss,Ak,ck,Fk,fck,rfl,hk,HS,hss,Bo,Oo,Mo,Ho,Xo⟩:=hrel;have zo:=Mo.out.size
      by_cases hkl9:(k:Int)<(l.length:Int)
      ·have hk2:k<l.length:=by omega
       obtain⟨pb,po,n,rfl,zb,cx,ex,dx⟩:=((L4o.out.mod Mo.out far4.out).read).at hk2;have okn:=hkl.out n (List.mem_of_getElem? ex.out);have IH:=fun(W:World) (A8:Option Addr) (c8:Nat)=>ih.out (p++[n]) bb ff ss W gs A8 c8 Fk fck (by simp;omega) okn
       have HS2:Hid (Uv (fun n st=>Yh D KE BE f (p++[n]) st) (n::l.drop (k+1)) (bb,ff,ss)=R0):=by
        have h:=HS.out;rw[dx.out] at h;exact h
       have stp:=Ji (D:=D) (kids:=KE) (bound:=BE) f (p++[n]) bb ff ss;rcases hg:Yh D KE BE f (p++[n]) (bb,ff,ss) with⟨⟨b1,f1,s1⟩,ok1⟩;have SQ:Hid (if ok1=true then Uv (fun n st=>Yh D KE BE f (p++[n]) st) (l.drop (k+1)) (b1,f1,s1)=R0 else R0=((b1,f1,s1),false)):=by
        have h:=HS2.out;simp only[Uv,hg] at h
        cases ok1 with
        | true=>exact h
        | false=>exact h.symm
       rw[hg] at IH stp;simp only at stp;have zl9:(p++[n]).length=p.length+1:=by simp
       simp only[zl9] at IH;clear zl9;replace IH:=Hd IH;have zl:(p++[n]).length=p.length+1:=by simp
       have d1:=Bo.out.c1;clear hg HS HS2 ex dx okn;go_wp2_with (at_builtin;(refine Z7 _ rfl _ _ rfl w0.heap.size Ak p.length ck p [n] (some ⟨wo.heap.size,0,none⟩) 1 rfl rfl rfl ?_ ?_ ?_ ?_ ?_;(exact Oo.out.ext ((Ext.rf _).alloc _));(exact .blk (.new (by simp)) rfl);(simp;omega);(simp;have:=zw4.out;omega);rintro A8 c8 w8 o8 g8 h8;have FG:=Hd (Zbz (A2:=none) (ys:=[]) (c2:=0) (Bo.out.ext ((Ext.rf _).alloc _)) (by decide) (Oo.out.ext ((Ext.rf _).alloc _)) (OwI.nil _ _) (fun _ _ h=>by cases h) g8 o8 h8 1 (.slice A8 (p.length+1) c8));replace g8:=Hd g8;replace h8:=Hd h8;have k1:=FG.out.1.cell 1;have fz1:=FG.out.1.free 1));obtain⟨B8,B9,O9,-,-,XT⟩:=FG.out;have M8:Hid (Mod (fun z=>z=gs\/bl A=some z) w4 w8):=(Mo.out.tr (Mod.of_ext ((Ext.rf _).alloc _))).tr' (Mod.grown (S:=fun b=>bl Ak=some b) g8.out fun _ h=>h) fun z hz h=>by
        rcases Ho.out with h9 | ⟨b9,h9,h10⟩
        ·exact .inr (by rw[<-h9];exact h)
        ·rw[h9] at h
         injection h with h
         omega
       have H8:Hid (bl A8=bl Ak\/∃ b,bl A8=some b/\w4.heap.size<=b):=h8.out.imp id (fun⟨b9,h9,h10⟩=>⟨b9,h9,by simp at h10;omega⟩);have X9:=XT w0 (Xo.out.alloc _) (Nat.le_refl _) hgs;have M9:=M8.out.set (p:=⟨gs,1,none⟩) (.inl (.inl rfl)) (.slice A8 (p.length+1) c8);have H9:bl A8=bl A\/∃ b,bl A8=some b/\w4.heap.size<=b:=by
        rcases H8.out with h | h
        ·rw[h];exact Ho.out
        ·exact .inr h
       have z9:=M9.size;refine(IH.out _ A8 c8 X9 hgs B9 O9 hss).mono ?_;rintro e wa ⟨A',c',F',fc',rfl,Ba,Oa,Ma,Ha⟩;have Xa:=Hd (X9.mod Ma fun z hz h=>by
        rcases h with rfl | h
        ·omega
        ·have:=(O9.lt z h).1
         omega)
       have Mw:Hid (Mod (fun z=>z=gs\/bl A=some z) w4 wa):=M9.tr' Ma fun z hz h=>by
        rcases h with rfl | h
        ·exact .inl rfl
        ·rcases H9 with h9 | ⟨b9,h9,h10⟩
         ·exact .inr (by rw[<-h9];exact h)
         ·rw[h9] at h
          injection h with h
          omega
       have Hw:Hid (bl A'=bl A\/∃ b,bl A'=some b/\w4.heap.size<=b):=by
        rcases Ha with h | ⟨b9,h9,h10⟩
        ·rw[h];exact H9
        ·exact .inr ⟨b9,h9,by omega⟩
       have lc':=Oa.le;rw[zl] at lc';obtain⟨m,hm⟩:∃ m,(p++[n]).length=m:=⟨_,rfl⟩;rw[hm] at Ba;have hm2:m=p.length+1:=by omega
       have lc2:p.length<=c':=by omega
       have wm:IntKind.i64.wrap ((m:Int)-1)=(p.length:Int):=by rw[show (m:Int)-1=(p.length:Int) by omega];exact IntWalk.i64_in _ (by omega)
       have q1:(0:Int)<=(p.length:Int):=by omega
       have q2:(p.length:Int)<=(c':Int):=by omega
       have Oi:=Hd Oa.init;have Ba9:=Hd Ba;have zB:=Ba.lt;have d1:=Ba.c1;clear B8 B9 O9 XT X9 M9 H9 z9 FG M8 H8 k1 fz1 g8 h8 Ma Ha Oa Ba IH cx;go_upto_region 16 with(fail);refine wp_region_any (by kernel_rfl) ?_
       change wpAny _ _ _ _ _ _ _ (World.drew _)
       refine Za (i:=0) (op:=Op.move (Operand.tmp 0)) (t:=85) (d:=some 95) (v:=?_) rfl (by decide +kernel) (by decide +kernel) (by decide +kernel) (fun _ _ _ h=>h) ?_ ?_
       case refine_2=>(intro _;unfold Zd;go_simp;try with_reducible rfl)
       try simp only[lay]
       refine Za (i:=1) (op:=Op.move (Operand.tmp 0)) (t:=85) (d:=some 96) (v:=?_) rfl (by decide +kernel) (by decide +kernel) (by decide +kernel) (fun _ _ _ h=>h) ?_ ?_
       case refine_2=>(intro _;unfold Zd;go_simp;try with_reducible rfl)
       try simp only[lay]
       refine Za (i:=2) (op:=Op.nilCheck (Operand.tmp 96)) (t:=0) (d:=some 97) (v:=?_) rfl (by decide +kernel) (by decide +kernel) (by decide +kernel) (fun _ _ _ h=>h) ?_ ?_
       case refine_2=>(intro _;unfold Zd;go_simp;try with_reducible rfl)
       try simp only[lay]
       refine Za (i:=3) (op:=Op.fieldAddr 87 (Operand.tmp 97) 1) (t:=0) (d:=some 98) (v:=?_) rfl (by decide +kernel) (by decide +kernel) (by decide +kernel) (fun _ _ _ h=>h) ?_ ?_
       case refine_2=>(intro _;unfold Zd;go_simp;try with_reducible rfl)
       try simp only[lay]
       refine Za (i:=5) (op:=Op.move (Operand.tmp 0)) (t:=85) (d:=some 100) (v:=?_) rfl (by decide +kernel) (by decide +kernel) (by decide +kernel) (fun _ _ _ h=>h) ?_ ?_
       case refine_2=>(intro _;unfold Zd;go_simp;try with_reducible rfl)
       try simp only[lay]
       refine Za (i:=6) (op:=Op.nilCheck (Operand.tmp 100)) (t:=0) (d:=some 101) (v:=?_) rfl (by decide +kernel) (by decide +kernel) (by decide +kernel) (fun _ _ _ h=>h) ?_ ?_
       case refine_2=>(intro _;unfold Zd;go_simp;try with_reducible rfl)
       try simp only[lay]
       refine Za (i:=7) (op:=Op.fieldAddr 87 (Operand.tmp 101) 1) (t:=0) (d:=some 102) (v:=?_) rfl (by decide +kernel) (by decide +kernel) (by decide +kernel) (fun _ _ _ h=>h) ?_ ?_
       case refine_2=>(intro _;unfold Zd;go_simp;try with_reducible rfl)
       try simp only[lay]
       refine Z3 (n:=3) [(4,some 99),(8,some 103),(9,some 104),(10,some 105),(11,some 106)] (Ext wa) (VF (fun | 4=>some (.slice A' m c') | 8=>some (.slice A' m c') | 9=>some (.int .i64 (m:Int)) | 10=>some (.int .i64 (p.length:Int)) | 11=>some (.slice A' p.length c') | _=>none) (fun i v W=>True)) Ext #[true,true,true,true,true,true,true,true,true,true,true,true,false,false,false] (by decide +kernel) (VF.stab ?_) ?_ ?_ (by first | exact(Ext.rf _).drew | exact Ext.rf _)
       ·intro j v W W' _ _ _;trivial
       ·intro pS hpm uS wS hRW hD K hK
        simp only[List.mem_cons,List.not_mem_nil,or_false] at hpm;rcases hpm with rfl | rfl | rfl | rfl | rfl
        ·( have rX:=Zh hRW zB d1;exact Zp (T:=22) (x:=Operand.tmp 98) (t:=22) (d:=some 99) rfl (.pointer (some ⟨gs,1,none⟩)) (by kernel_rfl) (.slice A' m c') (by go_simp) (hK _ _ (VF.mk rfl) hRW (Ext.rf _)))
        ·( have rX:=Zh hRW zB d1;exact Zp (T:=22) (x:=Operand.tmp 102) (t:=22) (d:=some 103) rfl (.pointer (some ⟨gs,1,none⟩)) (by kernel_rfl) (.slice A' m c') (by go_simp) (hK _ _ (VF.mk rfl) hRW (Ext.rf _)))
        ·(have e8:uS 8=.slice A' m c':=(hD 8 (Zn (by kernel_rfl))).k rfl;exact ZM (op:=Op.call { callee:=Callee.builtin Builtin.len,args:=#[Operand.tmp 103],argTypes:=#[22] }) (t:=3) (d:=some 104) rfl (.int .i64 (m:Int)) (by simp only[Zk,Act.put,List.setIfInBounds_toArray,List.set_cons_zero,List.set_cons_succ];unfold Zd;(try go_simp);(try simp only[e8]);(try go_simp);(try rfl);(try (exact IntWalk.i64_in _ (by omega)))) (hK _ _ (VF.mk rfl) hRW (Ext.rf _)))
        ·(have e9:uS 9=.int .i64 (m:Int):=(hD 9 (Zn (by kernel_rfl))).k rfl;exact ZM (op:=Op.binOp BinOp.sub 3 (Operand.tmp 104) (Operand.const (Value.int IntKind.i64 1)) 3) (t:=3) (d:=some 105) rfl (.int .i64 (p.length:Int)) (by simp only[Zk,Act.put,List.setIfInBounds_toArray,List.set_cons_zero,List.set_cons_succ];unfold Zd;(try go_simp);(try simp only[e9]);(try go_simp);(try rfl);(try (exact IntWalk.i64_in _ (by omega)))) (hK _ _ (VF.mk rfl) hRW (Ext.rf _)))
        ·(have e4:uS 4=.slice A' m c':=(hD 4 (Zn (by kernel_rfl))).k rfl;have e10:uS 10=.int .i64 (p.length:Int):=(hD 10 (Zn (by kernel_rfl))).k rfl;exact ZM (op:=Op.slice 22 (Operand.tmp 99) none (some (Operand.tmp 105)) none) (t:=22) (d:=some 106) rfl (.slice A' p.length c') (by simp only[Zk,Act.put,List.setIfInBounds_toArray,List.set_cons_zero,List.set_cons_succ];unfold Zd;(try go_simp);(try simp only[e4,e10]);(try go_simp);(try rfl);(try (exact IntWalk.i64_in _ (by omega)))) (hK _ _ (VF.mk rfl) hRW (Ext.rf _)))
       intro u wb hRb hV;have h4:=(hV (4,some 99) (by simp)).k rfl;have h8:=(hV (8,some 103) (by simp)).k rfl;have h9:=(hV (9,some 104) (by simp)).k rfl;have h10:=(hV (10,some 105) (by simp)).k rfl;have h11:=(hV (11,some 106) (by simp)).k rfl;simp only[Zk,h4,h8,h9,h10,h11];clear hV h4 h8 h9 h10 h11
       try simp only[lay]
       have Bb:=Ba9.out.ext hRb;have k1:=Bb.c1;have fz1:=Bb.free 1;have Bc:Hid (Blk (wb.setCell ⟨gs,1,none⟩ (.slice A' p.length c')) gs 87 #[.pointer (some ⟨g,0,none⟩),.slice A' p.length c',.slice F' f1.length fc',.int .i64 b1,.int .i64 (s1:Int)]):=Bb.set 1 _;have Oc:Hid (OwI (wb.setCell ⟨gs,1,none⟩ (.slice A' p.length c')) w0.heap.size A' c' p):=(Oi.out.ext hRb).far Bb (by decide) 1 _;have Mc:Hid (Mod (fun z=>z=gs\/bl A=some z) w4 (wb.setCell ⟨gs,1,none⟩ (.slice A' p.length c'))):=(Mw.out.ext hRb).set (.inl (.inl rfl)) _;have Xc:Hid (Ext w0 (wb.setCell ⟨gs,1,none⟩ (.slice A' p.length c'))):=(Xa.out.tr hRb).setNew hgs _;clear hRb Bb Ba9 Oi Mw Xa d1
       try simp only[lay]
       refine Za (i:=12) (op:=Op.nilCheck (Operand.tmp 95)) (t:=0) (d:=some 107) (v:=?_) rfl (by decide +kernel) (by decide +kernel) (by decide +kernel) (fun _ _ _ h=>h) ?_ ?_
       case refine_2=>(intro _;unfold Zd;go_simp;try with_reducible rfl)
       try simp only[lay]
       refine Za (i:=13) (op:=Op.fieldAddr 87 (Operand.tmp 107) 1) (t:=0) (d:=some 108) (v:=?_) rfl (by decide +kernel) (by decide +kernel) (by decide +kernel) (fun _ _ _ h=>h) ?_ ?_
       case refine_2=>(intro _;unfold Zd;go_simp;try with_reducible rfl)
       try simp only[lay]
       refine Zi 14 (by decide +kernel) (Yl rfl (.pointer (some ⟨gs,1,none⟩)) (.slice A' p.length c') (by kernel_rfl) (by kernel_rfl) (by go_simp;rfl) ?_)
       try simp only[lay]
       refine wpAny_done (by kernel_rfl) ?_ _;generalize (wb.setCell ⟨gs,1,none⟩ (.slice A' p.length c'))=wc at *;clear k1 fz1;go_simp
       cases ok1 with
       | false =>
        have hR9:R0=((b1,f1,s1),false):=by have h:=SQ.out;simpa using h
        have P:Hid (Wd w0 g gs p A R0 w (.returned (.bool false)) wc):=by
         rw[hR9];exact⟨A',c',F',fc',rfl,Bc.out,Oc.out,M4.out.tr Mc.out,Hw.out.imp id fun⟨b9,h9,h10⟩=>⟨b9,h9,by have:=zw4.out.1;omega⟩⟩
        clear hR9 SQ Bc Oc Mc Xc Hw;go_wp2_with (fail);go_ret;exact P.out
       | true =>
        have SQ2:Hid (Uv (fun n st=>Yh D KE BE f (p++[n]) st) (l.drop (k+1)) (b1,f1,s1)=R0):=Hd (by have h:=SQ.out;simpa using h);clear SQ;go_wp2_with (fail);go_roundw
        case rel=>exact⟨k+1,b1,f1,s1,A',c',F',fc',by go_num,by omega,SQ2,by omega,Bc,Oc,Mc,Hw,Xc⟩
        case measure=>(simp only[intOf];omega)
      ·obtain rfl:k=l.length:=by omega
       have hR9:R0=((bb,ff,ss),true):=by
        have h:=HS.out;rw[List.drop_length] at h;exact h.symm
       have P:Hid (Wd w0 g gs p A R0 w (.returned (.bool true)) wo):=by
        rw[hR9];exact⟨Ak,ck,Fk,fck,rfl,Bo.out,Oo.out,M4.out.tr Mo.out,Ho.out.imp id fun⟨b9,h9,h10⟩=>⟨b9,h9,by have:=zw4.out.1;omega⟩⟩
       clear hR9 HS;go_wp2_with (fail);go_ret;exact P.out
def Ub (i:InstP)(cost:Int)(s:Nat)(w:World)(e:Ending)(w':World) : Prop:=∃ (F:Option Addr) (fc:Nat),e=.returned (.tuple #[.slice F (UH i cost s).1.2.1.length fc,.int .i64 (UH i cost s).1.1,.bool (UH i cost s).2])/\Ext w w'
theorem ZbB (i:InstP)(g:Nat)(cost:Int)(s:Nat)(w:World)(K:KernI w g i)(hT:Tab w)(hs:s<=2000000) :
  Calls Tryz.prog 14 #[.pointer (some ⟨g,0,none⟩),.int .i64 cost,.int .i64 (s:Int)] w (Ub i cost s w):=by
 have KR:=Zgb K.1;have LG:=Zfe (ZB i) (fun p=>(XU i p).1) (fun p=>(Yv i p).1) (okI i) g w
  (fun W x P c p hP lp=>⟨_,Q7 P c p (K.ext x) (hT.ext x) hP (by omega)⟩)
  (fun W x=>Q6 (K.ext x))
  (fun W x P c p hP lp=>⟨_,Zb9 P c p (K.ext x) (hT.ext x) hP (by omega)⟩)
  KR.len KR.kid (Zd0 K.1) (ZB i+1) [] cost [] s
  (w.alloc (.cells #[.pointer (some ⟨g,0,none⟩),.slice none 0 0,.slice none 0 0,.int .i64 cost,.int .i64 (s:Int)] 87)) w.heap.size none 0 none 0 (by simp) (Qt K.1) ((Ext.rf w).alloc _) (Nat.le_refl _) (.new rfl) (OwI.nil _ _) hs
 have e1:¬(s:Int)<0:=by omega
 unfold Ub UH;generalize Yh (ZB i) (fun p=>(XU i p).1) (fun p=>(Yv i p).1) (ZB i+1) [] (cost,[],s)=R at *;obtain⟨⟨b1,f1,s1⟩,ok1⟩:=R;unfold Wd at LG;simp only[List.length_nil] at LG ⊢;replace LG:=Hd LG;clear KR K hT;go_enter Tryz.func14,Tryz.ntmps14;go_wp2_with (fail);refine LG.out.mono ?_;rintro e w2 ⟨A',c',F,fc,rfl,B2,-,M2,-⟩;have X2:=Hd (((Ext.rf w).alloc _).mod M2 fun z hz h=>by
  rcases h with rfl | h
  ·omega
  ·cases h)
 have d2:=B2.c2;have d3:=B2.c3;clear B2 M2 LG;go_upto_region 5 with(fail);go_quiet (fail);go_wp2_with (fail);go_ret3;exact⟨F,fc,rfl,X2.out.tr (by(repeat (first | assumption | exact Ext.rf _ | apply Ext.drew | apply Ext.drewN | apply Ext.alloc)))⟩
section
variable {H:Type} {enc:TypeId×Value->H} {W:World}
theorem Zaa {fuel:Nat}{c:Value}{A:Option Addr}{n cap:Nat}{x:DataW H×List MemPlace}(h:DataW.trod enc Tryz.prog W 0 (fun _=>true) true fuel 22 [c]=some x)(hc:[c]=[Value.slice A n cap]) : ∃ m,n<=m/\(n=0\/m*Tryz.prog.bytesOf 3∈x.1.weights Tryz.prog 22):=by
 rcases open_ints Tryz.underlying22 Tryz.underlying3 Wo h with⟨hcs,hx⟩ | ⟨a,len',cap',zs,hcs,_,hl,hm,hz,hx,hcell,hwz⟩
 ·rw[hcs] at hc
  simp at hc;exact⟨0,by omega,.inl (by omega)⟩
 ·rw[hcs] at hc
  simp at hc;obtain⟨_,rfl,_⟩:=hc;simp only[if_true] at hz;refine⟨len'+(zs.length-len'),by omega,.inr ?_⟩;rw[hx];have e1:(lits (H:=H) .i64 (zs.take len')).length=len':=by simp[lits];omega
  have e2:(lits (H:=H) .i64 (zs.drop len')).length=zs.length-len':=by simp[lits]
  simp only[DataW.weights,Tryz.underlying22,e1,e2];exact List.mem_cons_self
theorem Zcv {base:Nat}{v:Value}{d:DataW H}{p:List MemPlace}(hd:DataW.Trod enc Tryz.prog W 0 (fun _=>true) true 25 v d p)(hv:Value.okWide Tryz.prog W .any base 25 v) :
  ∃ vs i,v=.agg (List.toArray vs)/\RInst W vs i/\Zeg i/\∀ R,(∀ n∈d.weights Tryz.prog 25,n<=R)->i.weight.length*8<=R/\i.value.length*8<=R:=by
 obtain⟨cs,rfl,hsz⟩:=okWide_struct Tryz.underlying25 hv;rw[ZbH] at hsz;obtain⟨l⟩:=cs
 match l,hsz with
 | [c0,c1,c2,c3,c4,c5],_ =>
  obtain⟨fuel,h⟩:=hd;obtain⟨n0,y0,h0⟩:=Ud Tryz.underlying25 h 0 3 0 1 rfl Wo;obtain⟨n1,y1,h1⟩:=Ud Tryz.underlying25 h 1 3 1 1 rfl Wo;obtain⟨n2,y2,h2⟩:=Ud Tryz.underlying25 h 2 3 2 1 rfl Wo;obtain⟨n5,y5,h5⟩:=Ud Tryz.underlying25 h 5 23 5 1 rfl ZcZ;obtain⟨xs,n,rfl,hx,_,hlen,hf⟩:=DataW.trod_struct Tryz.underlying25 h;have f3:=hf 3 _ rfl;have f4:=hf 4 _ rfl;simp only[List.size_toArray,List.length_cons,List.length_nil] at hlen;obtain⟨y3,e3x⟩:∃ y3,xs[3]?=some y3:=⟨xs[3]'(by omega),List.getElem?_eq_getElem _⟩;obtain⟨y4,e4x⟩:∃ y4,xs[4]?=some y4:=⟨xs[4]'(by omega),List.getElem?_eq_getElem _⟩;have h3:DataW.trod enc Tryz.prog W 0 (fun _=>true) true n 22 [c3]=some y3:=by rw[<-e3x,<-f3];rfl
  have h4:DataW.trod enc Tryz.prog W 0 (fun _=>true) true n 22 [c4]=some y4:=by rw[<-e4x,<-f4];rfl
  obtain⟨x0,e0,b0⟩:=Vs _ _ _ h0;obtain⟨x1,e1,b1⟩:=Vs _ _ _ h1;obtain⟨x2,e2,b2⟩:=Vs _ _ _ h2;obtain⟨l3,A3,a3,e3,r3⟩:=VN _ _ _ h3;obtain⟨l4,A4,a4,e4,r4⟩:=VN _ _ _ h4;obtain⟨A5,l5,a5,e5,r5⟩:=Zeb Tryz.underlying23 Zeh (by omega) VN h5;obtain⟨m3,s3,s3'⟩:=Zaa h3 e3;obtain⟨m4,s4,s4'⟩:=Zaa h4 e4;have hd9:d=.agg (xs.map (·.1)):=by have:=congrArg Prod.fst hx;exact this
  injection e0 with e0
  injection e1 with e1
  injection e2 with e2
  injection e3 with e3
  injection e4 with e4
  injection e5 with e5
  subst e0 e1 e2 e3 e4 e5;refine⟨_,⟨x0,x1,x2,l3,l4,l5⟩,rfl,⟨A3,a3,A4,a4,A5,a5,rfl,r3,r4,r5⟩,⟨b0,b1,b2⟩,fun R hR=>?_⟩;have by8:Tryz.prog.bytesOf 3=8:=by kernel_rfl
  have MEM:∀ (j:Nat) (y:DataW H×List MemPlace) (t:TypeId),xs[j]?=some y->([3,3,3,22,22,23]:List TypeId)[j]?=some t->∀ z∈y.1.weights Tryz.prog t,z<=R:=fun j y t hj ht z hz=>by
   refine hR z ?_;rw[hd9];simp only[DataW.weights,Tryz.underlying25];exact DataW.weights_mem_each (j:=j) (t:=t) (d:=y.1) ht (by rw[List.getElem?_map,hj];rfl) z hz
  constructor
  ·rcases s3' with h | h
   ·simp only at h ⊢;omega
   ·have:=MEM 3 y3 _ e3x rfl _ h
    rw[by8] at this;simp only;omega
  ·rcases s4' with h | h
   ·simp only at h ⊢;omega
   ·have:=MEM 4 y4 _ e4x rfl _ h
    rw[by8] at this;simp only;omega
end
end Go.Proofs.YtmojhhlcocjoaaaGreatDoor
namespace Go.Proofs.YtmojhhlcocjoaaaGreatDoor
open Go.RowKit Go.ChangeShapes Go.WideShapes Go.ChangeAt Go.Deep
def Zcw (i:InstP)(w:World)(e:Ending)(w':World) : Prop:=∃ A3 c3 B3 d3 C cc us,e=.returned (.agg #[.int .i64 i.kind,.int .i64 i.n,.int .i64 i.cap,.slice A3 i.weight.length c3,.slice B3 i.value.length d3,.slice C i.cost.length cc])/\OwI w' w.heap.size A3 c3 i.weight/\OwI w' w.heap.size B3 d3 i.value/\(∀ g,bl A3=some g->bl B3≠some g)/\OwV w' w.heap.size 22 1 C i.cost.length cc us/\RowsO w' w.heap.size us i.cost/\RowsD us/\Ext w w'
theorem Zcx (i:InstP)(vs:List Value)(w:World)(H:RInst w vs i)(lw:i.weight.length<=1000000000)(lv:i.value.length<=1000000000)(lc:i.cost.length<=1000000)(lr:∀ r∈i.cost,r.length<=1000000000) :
  Calls Tryz.prog 10 #[.agg (List.toArray vs)] w (Zcw i w):=by
 obtain⟨A,a,B,b,C,c,rfl,⟨rA,iA,lA,mA⟩,⟨rB,iB,lB,mB⟩,⟨rC,lC,mC⟩⟩:=H;obtain⟨kind,nn,cap,xw,xv,co⟩:=i;simp only at *;obtain⟨i0,hi,hz0,hz1,hz2⟩:=info_parts Qy;replace hi:=Hd hi;replace hz0:=Hd hz0;replace hz1:=Hd hz1;replace hz2:=Hd hz2;replace lr:=Hd lr;have X:Ext w ((w.alloc (.cells #[.int .i64 kind,.int .i64 nn,.int .i64 cap,.slice A xw.length a,.slice B xv.length b,.slice C co.length c] 25)).alloc (.cells #[.int .i64 0,.int .i64 0,.int .i64 0,.slice none 0 0,.slice none 0 0,.slice none 0 0] 25)):=((Ext.rf _).alloc _).alloc _;have B1:Blk ((w.alloc (.cells #[.int .i64 kind,.int .i64 nn,.int .i64 cap,.slice A xw.length a,.slice B xv.length b,.slice C co.length c] 25)).alloc (.cells #[.int .i64 0,.int .i64 0,.int .i64 0,.slice none 0 0,.slice none 0 0,.slice none 0 0] 25)) w.heap.size 25 #[.int .i64 kind,.int .i64 nn,.int .i64 cap,.slice A xw.length a,.slice B xv.length b,.slice C co.length c]:=.alloc (.new rfl) _;have B2:Blk ((w.alloc (.cells #[.int .i64 kind,.int .i64 nn,.int .i64 cap,.slice A xw.length a,.slice B xv.length b,.slice C co.length c] 25)).alloc (.cells #[.int .i64 0,.int .i64 0,.int .i64 0,.slice none 0 0,.slice none 0 0,.slice none 0 0] 25)) (w.heap.size+1) 25 #[.int .i64 0,.int .i64 0,.int .i64 0,.slice none 0 0,.slice none 0 0,.slice none 0 0]:=.new (by simp);replace X:=Hd X;replace B1:=Hd B1;replace B2:=Hd B2;replace rA:=Hd rA;replace rB:=Hd rB;replace rC:=Hd rC;replace iA:=Hd iA;replace iB:=Hd iB;replace mA:=Hd mA;replace mB:=Hd mB;replace mC:=Hd mC;go_enter Tryz.func10,Tryz.ntmps10;go_wp2_with (fail);generalize (w.alloc (.cells #[.int .i64 kind,.int .i64 nn,.int .i64 cap,.slice A xw.length a,.slice B xv.length b,.slice C co.length c] 25)).alloc (.cells #[.int .i64 0,.int .i64 0,.int .i64 0,.slice none 0 0,.slice none 0 0,.slice none 0 0] 25)=wr at *;have z1:=B1.out.lt;have zw:=X.out.size;refine wp_region_any (by kernel_rfl) ?_
 change wpAny _ _ _ _ _ _ _ (World.drew _)
 refine Za (i:=0) (op:=Op.fieldAddr 25 (Operand.tmp 1) 3) (t:=0) (d:=some 6) (v:=?_) rfl (by decide +kernel) (by decide +kernel) (by decide +kernel) (fun _ _ _ h=>h) ?_ ?_
 case refine_2=>(intro _;unfold Zd;go_simp;try with_reducible rfl)
 try simp only[lay]
 refine Za (i:=3) (op:=Op.fieldAddr 25 (Operand.tmp 1) 4) (t:=0) (d:=some 9) (v:=?_) rfl (by decide +kernel) (by decide +kernel) (by decide +kernel) (fun _ _ _ h=>h) ?_ ?_
 case refine_2=>(intro _;unfold Zd;go_simp;try with_reducible rfl)
 try simp only[lay]
 refine Wl (n:=3) (σ:=Nat->Nat) [(1,some 7),(2,some 8),(4,some 10),(5,some 11),(6,some 12)] (fun _ W=>Ext wr W)
  (fun j v T W=>(j=1->v=.slice A xw.length a)/\(j=4->v=.slice B xv.length b)/\(j=6->v=.pointer (some ⟨w.heap.size,3,none⟩))/\(j=2->∃ A' c',v=.slice A' xw.length c'/\OwI W w.heap.size A' c' xw/\∀ g,bl A'=some g->T g=2)/\(j=5->∃ A' c',v=.slice A' xv.length c'/\OwI W w.heap.size A' c' xv/\∀ g,bl A'=some g->T g=5))
  (fun T W T' W'=>Ext W W'/\∀ h,h<W.heap.size->T' h=T h) #[true,true,true,true,true,true,true,false,false,false] (by decide +kernel) ?_ ?_ ?_ (s0:=fun _=>0) ((Ext.rf _).drew)
 ·rintro j v T W T' W' ⟨h1,h4,h6,h2,h5⟩ ⟨hx,hT⟩
  refine⟨h1,h4,h6,fun hj=>?_,fun hj=>?_⟩
  ·obtain⟨A',c',k1,k2,k3⟩:=h2 hj
   exact⟨A',c',k1,k2.ext hx,fun g hg=>by rw[hT g (k2.lt g hg).2];exact k3 g hg⟩
  ·obtain⟨A',c',k1,k2,k3⟩:=h5 hj
   exact⟨A',c',k1,k2.ext hx,fun g hg=>by rw[hT g (k2.lt g hg).2];exact k3 g hg⟩
 ·intro pq hpm u T w2 hRW hD K hK
  have b2:=B1.out.ext hRW;have r3:=b2.c3;have r4:=b2.c4;have xe:=X.out.tr hRW;have zxe:=xe.size;have ID:Ext w2 w2/\∀ h,h<w2.heap.size->T h=T h:=⟨Ext.rf _,fun _ _=>rfl⟩;have TG:∀ (n:Nat) (w3:World),Ext w2 w3->Ext w2 w3/\∀ h,h<w2.heap.size->(fun x=>if w2.heap.size<=x then n else T x) h=T h:=fun n w3 x=>⟨x,fun h hh=>if_neg (by omega)⟩
  simp only[List.mem_cons,List.not_mem_nil,or_false] at hpm;rcases hpm with rfl | rfl | rfl | rfl | rfl
  ·exact Zp (T:=22) rfl (.pointer (some ⟨w.heap.size,3,none⟩)) (by kernel_rfl) (.slice A xw.length a) (by go_simp) (hK _ T w2 ⟨fun _=>rfl,(fun h=>by cases h),(fun h=>by cases h),(fun h=>by cases h),(fun h=>by cases h)⟩ hRW ID)
  ·refine Ym rfl #[.slice A xw.length a] (by go_simp) (Eq.trans (b:=#[u 1]) (by kernel_rfl) (by rw[(hD 1 (Zn (by kernel_rfl))).1 rfl])) _ (Yw A a xw w2 (rA.out.ext xe) (by omega)) ?_
   rintro e w3 ⟨A3,c3,rfl,o3,x3⟩;exact⟨_,rfl,hK _ (fun x=>if w2.heap.size<=x then 2 else T x) _ ⟨(fun h=>by cases h),(fun h=>by cases h),(fun h=>by cases h),fun _=>⟨A3,c3,rfl,o3.more (by omega),fun g hg=>if_pos (o3.lt g hg).1⟩,(fun h=>by cases h)⟩ (hRW.tr x3) (TG 2 _ x3)⟩
  ·exact Zp (T:=22) rfl (.pointer (some ⟨w.heap.size,4,none⟩)) (by kernel_rfl) (.slice B xv.length b) (by go_simp) (hK _ T w2 ⟨(fun h=>by cases h),fun _=>rfl,(fun h=>by cases h),(fun h=>by cases h),(fun h=>by cases h)⟩ hRW ID)
  ·refine Ym rfl #[.slice B xv.length b] (by go_simp) (Eq.trans (b:=#[u 4]) (by kernel_rfl) (by rw[(hD 4 (Zn (by kernel_rfl))).2.1 rfl])) _ (Yw B b xv w2 (rB.out.ext xe) (by omega)) ?_
   rintro e w3 ⟨A3,c3,rfl,o3,x3⟩;exact⟨_,rfl,hK _ (fun x=>if w2.heap.size<=x then 5 else T x) _ ⟨(fun h=>by cases h),(fun h=>by cases h),(fun h=>by cases h),(fun h=>by cases h),fun _=>⟨A3,c3,rfl,o3.more (by omega),fun g hg=>if_pos (o3.lt g hg).1⟩⟩ (hRW.tr x3) (TG 5 _ x3)⟩
  ·exact ZfQ (T:=25) (f:=3) rfl (.pointer (some ⟨w.heap.size,0,none⟩)) (by kernel_rfl) (.pointer (some ⟨w.heap.size,3,none⟩)) (by go_simp) (hK _ T w2 ⟨(fun h=>by cases h),(fun h=>by cases h),fun _=>rfl,(fun h=>by cases h),(fun h=>by cases h)⟩ hRW ID)
 ·intro u T9 w3 hRW hV
  have h1:=(hV (1,some 7) (by simp)).1 rfl;have h4:=(hV (4,some 10) (by simp)).2.1 rfl;obtain⟨A3,c3,h2,oA,tA⟩:=(hV (2,some 8) (by simp)).2.2.2.1 rfl;obtain⟨B3,d3,h5,oB,tB⟩:=(hV (5,some 11) (by simp)).2.2.2.2 rfl;have h6:=(hV (6,some 12) (by simp)).2.2.1 rfl;have DJ:Hid (∀ g,bl A3=some g->bl B3≠some g):=fun g h1 h2=>by
   have e1:=tA g h1;have e2:=tB g h2;omega
  simp only[Zk,h1,h2,h4,h5,h6];have b1:=B1.out.ext hRW;have b2:=B2.out.ext hRW;have g3:=b1.c3;have k3:=b1.free 3;have b1a:=b1.set 3 (.slice A3 xw.length c3);have g4:=b1a.c4;have k4:=b1a.free 4;have b1b:=Hd (b1a.set 4 (.slice B3 xv.length d3));have b2b:=Hd ((b2.far (p:=⟨w.heap.size,3,none⟩) (by simp) (.slice A3 xw.length c3)).far (p:=⟨w.heap.size,4,none⟩) (by simp) (.slice B3 xv.length d3));have m3:ModT w.heap.size [25] w3 (w3.setCell ⟨w.heap.size,3,none⟩ (.slice A3 xw.length c3)):=ModT.set w3 b1 (by simp) (Nat.le_refl _) 3 _;have m4:ModT w.heap.size [25] (w3.setCell ⟨w.heap.size,3,none⟩ (.slice A3 xw.length c3)) ((w3.setCell ⟨w.heap.size,3,none⟩ (.slice A3 xw.length c3)).setCell ⟨w.heap.size,4,none⟩ (.slice B3 xv.length d3)):=ModT.set _ b1a (by simp) (Nat.le_refl _) 4 _;have OAB:=Hd (And.intro ((oA.modT m3 (by decide)).modT m4 (by decide)) ((oB.modT m3 (by decide)).modT m4 (by decide)));have Xb:=Hd (((X.out.tr hRW).setNew (p:=⟨w.heap.size,3,none⟩) (Nat.le_refl _) (.slice A3 xw.length c3)).setNew (p:=⟨w.heap.size,4,none⟩) (Nat.le_refl _) (.slice B3 xv.length d3));clear h1 h2 h4 h5 h6 hV oA oB tA tB m3 m4
  try simp only[lay]
  refine Zi 7 (by decide +kernel) (Yl rfl (.pointer (some ⟨w.heap.size,3,none⟩)) (.slice A3 xw.length c3) (by kernel_rfl) (by kernel_rfl) (by go_simp;rfl) ?_);refine Za (i:=8) (op:=Op.fieldAddr 25 (Operand.tmp 1) 4) (t:=0) (d:=some 13) (v:=?_) rfl (by decide +kernel) (by decide +kernel) (by decide +kernel) (fun _ _ _ h=>h) ?_ ?_
  case refine_2=>(intro _;unfold Zd;go_simp;try with_reducible rfl)
  try simp only[lay]
  refine Zi 9 (by decide +kernel) (Yl rfl (.pointer (some ⟨w.heap.size,4,none⟩)) (.slice B3 xv.length d3) (by kernel_rfl) (by kernel_rfl) (by go_simp;rfl) ?_);refine wpAny_done (by kernel_rfl) ?_ _;clear g3 g4 k3 k4 b1 b2 b1a hRW;generalize (w3.setCell ⟨w.heap.size,3,none⟩ (.slice A3 xw.length c3)).setCell ⟨w.heap.size,4,none⟩ (.slice B3 xv.length d3)=w4 at *;clear w3;have q5:=b1b.out.c5;go_simp;go_wp2_with (fail);have lct:=Hd lc;have START:Hid (OwV w4 w.heap.size 22 1 none 0 0 []/\RowsO w4 w.heap.size [] (co.take 0)/\Ext w w4/\Blk w4 w.heap.size 25 #[.int .i64 kind,.int .i64 nn,.int .i64 cap,.slice A3 xw.length c3,.slice B3 xv.length d3,.slice C co.length c]/\Blk w4 (w.heap.size+1) 25 #[.int .i64 0,.int .i64 0,.int .i64 0,.slice none 0 0,.slice none 0 0,.slice none 0 0]/\OwI w4 w.heap.size A3 c3 xw/\OwI w4 w.heap.size B3 d3 xv/\RowsD []):=⟨OwV.nil _ _ _ _,by simpa using RowsO.nil w4 w.heap.size,Xb.out,b1b.out,b2b.out,OAB.out.1,OAB.out.2,RowsD.nil⟩;clear b1b b2b Xb q5 OAB;go_loopw [3,17] (fun v3 v17 wr=>∃ (k:Nat) (C':Option Addr) (cc:Nat) (us:List Value),v17=.int .i64 k/\v3=.slice C' k cc/\k<=co.length/\Hid (OwV wr w.heap.size 22 1 C' k cc us/\RowsO wr w.heap.size us (co.take k)/\Ext w wr/\Blk wr w.heap.size 25 #[.int .i64 kind,.int .i64 nn,.int .i64 cap,.slice A3 xw.length c3,.slice B3 xv.length d3,.slice C co.length c]/\Blk wr (w.heap.size+1) 25 #[.int .i64 0,.int .i64 0,.int .i64 0,.slice none 0 0,.slice none 0 0,.slice none 0 0]/\OwI wr w.heap.size A3 c3 xw/\OwI wr w.heap.size B3 d3 xv/\RowsD us)) (fun _ v17 _=>co.length-(intOf v17).toNat)
  case atStart=>exact⟨0,none,0,[],rfl,rfl,by omega,START⟩
  case round =>
   obtain⟨wo,rfl⟩:∃ wo:World,wo=wr:=⟨_,rfl⟩;clear START;obtain⟨k,C',cc,us,rfl,rfl,hk,HH⟩:=hrel;obtain⟨oV,oR,Y,b1,b2,oA,oB,rD⟩:=HH.out;replace oA:=Hd oA;replace oB:=Hd oB;replace rD:=Hd rD
   by_cases hlt:k<co.length
   ·obtain⟨b',off,D,row,d,rfl,zd,hcd,her,_,rrow,_,ld,md⟩:=(rC.out.ext Y (fun _ _ h=>h.ext Y)).ints hlt
    have lrow:=lr.out row (List.mem_of_getElem? her.out);have etk:Hid (co.take (k+1)=co.take k++[row]):=Hd (by rw[List.take_add_one,her.out];rfl);have q1:(k:Int)<(co.length:Int):=by omega
    replace oV:=Hd oV;replace oR:=Hd oR;replace Y:=Hd Y;replace b1:=Hd b1;replace b2:=Hd b2;replace rrow:=Hd rrow;clear HH her;go_wp2_with (fail);refine(Yw D d row _ rrow.out (by omega)).mono ?_;rintro e w5 ⟨D2,e2,rfl,o5,x5⟩;have oV5:=oV.out.ext x5;have zw5:=Y.out.size;go_wp2_with (at_builtin;refine Vt _ (e:=22) Tryz.underlying23 hi.out hz0.out hz1.out hz2.out (by simp[Value.cells]) (by omega) rfl _ _ rfl w.heap.size C' k cc us (some ⟨w5.heap.size,0,none⟩) 1 1 [.slice D2 row.length e2] rfl rfl (oV5.ext ((Ext.rf _).alloc _)) (RdV.blk (.new (by simp))).rdC (by simp) (by simp[Value.oneCell']) (by simp only[maxLen];omega) (by omega) (by have:=x5.size;simp;omega) ?_;rintro C6 c6 w6 o6 g6 _);have M6:=(oV5.ext ((Ext.rf w5).alloc (.cells #[.slice D2 row.length e2] 22))).grownT g6;have X6:Ext wo (w5.alloc (.cells #[.slice D2 row.length e2] 22)):=x5.tr ((Ext.rf _).alloc _);have NEW:Hid (OwV w6 w.heap.size 22 1 C6 (k+1) c6 (us++[.slice D2 row.length e2])/\RowsO w6 w.heap.size (us++[.slice D2 row.length e2]) (co.take (k+1))/\Ext w w6/\Blk w6 w.heap.size 25 #[.int .i64 kind,.int .i64 nn,.int .i64 cap,.slice A3 xw.length c3,.slice B3 xv.length d3,.slice (some ⟨b',off,none⟩) co.length c]/\Blk w6 (w.heap.size+1) 25 #[.int .i64 0,.int .i64 0,.int .i64 0,.slice none 0 0,.slice none 0 0,.slice none 0 0]/\OwI w6 w.heap.size A3 c3 xw/\OwI w6 w.heap.size B3 d3 xv/\RowsD (us++[.slice D2 row.length e2])):=by
     refine⟨o6,?_,(Y.out.tr X6).modT M6 (Nat.le_refl _),(b1.out.ext X6).modT M6 (by decide),(b2.out.ext X6).modT M6 (by decide),(oA.out.ext X6).modT M6 (by decide),(oB.out.ext X6).modT M6 (by decide),RowsD.snoc rD.out oR.out o5⟩;rw[etk.out];exact((oR.out.ext X6).modT M6 (by decide)).snoc (((o5.more zw5).ext ((Ext.rf _).alloc _)).modT M6 (by decide))
    clear oV5 o5 x5 o6 g6 M6 X6 hcd;go_wp2_with (fail);go_roundw
    case rel=>exact⟨k+1,C6,c6,_,by go_num,rfl,by omega,NEW⟩
    case measure=>simp[intOf];omega
   ·obtain rfl:k=co.length:=by omega
    rw[List.take_length] at oR;have c0:=b1.c0;have c1:=b1.c1;have c2:=b1.c2;have c3':=b1.c3;have c4:=b1.c4;have c5:=b1.c5;have k5:=b1.free 5;have r0:=b2.c0;have r1:=b2.c1;have r2:=b2.c2;have r3:=b2.c3;have r4:=b2.c4;have r5:=b2.c5;have f0:=b2.free 0;have f1:=b2.free 1;have f2:=b2.free 2;have f3:=b2.free 3;have f4:=b2.free 4;have f5:=b2.free 5;have m1:ModT w.heap.size [25] wo (wo.setCell ⟨w.heap.size,5,none⟩ (.slice C' co.length cc)):=ModT.set wo b1 (by simp) (Nat.le_refl _) 5 _;have b2':=b2.far (p:=⟨w.heap.size,5,none⟩) (by simp) (.slice C' co.length cc);have m2:=(ZfU b2' (base:=w.heap.size) (by omega) (.int .i64 kind) (.int .i64 nn) (.int .i64 cap) (.slice A3 xw.length c3) (.slice B3 xv.length d3) (.slice C' co.length cc)).2;have F:=Hd (And.intro ((oV.modT m1 (by decide)).modT m2 (by decide)) (And.intro ((oR.modT m1 (by decide)).modT m2 (by decide)) (And.intro ((Y.modT m1 (Nat.le_refl _)).modT m2 (Nat.le_refl _)) (And.intro ((oA.out.modT m1 (by decide)).modT m2 (by decide)) ((oB.out.modT m1 (by decide)).modT m2 (by decide))))));have hRD:=rD;clear HH oV oR Y b1 b2 m1 m2 b2';go_wp2_with (fail);exact bodyPost_ret (v:=.agg #[.int .i64 kind,.int .i64 nn,.int .i64 cap,.slice A3 xw.length c3,.slice B3 xv.length d3,.slice C' co.length cc]) (by simp[results,Tryz.results10,go_sem, *]) rfl ⟨A3,c3,B3,d3,C',cc,us,rfl,F.out.2.2.2.1,F.out.2.2.2.2,DJ.out,F.out.1,F.out.2.1,hRD.out,F.out.2.2.1⟩
def Zff : List (String×DataW Unit):=[("math/bits.deBruijn64tab",Rows.laid_math_bits_deBruijn64tab)]
theorem ZfO : (Rows.laid_math_bits_deBruijn64tab:DataW Unit)=.agg (Lib.deBruijn64tab.map fun n:Nat=>.lit (.int .u8 (n:Int))):=by kernel_rfl
theorem ZbC {W:World}(h:laidMetH Tryz.prog Zff W) : Tab W:=by
 rw[MakeChecks.laidMetH_plain _ _ _ (by kernel_rfl)] at h;obtain⟨ps,⟨g,t,cs,fuel,p,q,hg,ht,hv,hd,_,_⟩,_,_⟩:=h;obtain rfl:=Option.some.inj ((show Tryz.prog.globalNamed "math/bits.deBruijn64tab" = some 0 by kernel_rfl).symm.trans hg);obtain rfl:=Option.some.inj ((show (Tryz.prog.globals[0]?).map (·.type)=some 241 by kernel_rfl).symm.trans ht);rw[show (Rows.laid_math_bits_deBruijn64tab:DataW Unit)=.agg (Lib.deBruijn64tab.map fun n:Nat=>.lit (.int .u8 (n:Int))) from ZfO] at hd;obtain⟨xs,m,_,ex,_,hl,hel⟩:=DataW.trod_array Tryz.underlying241 hd;intro r hr;have hlen:Lib.deBruijn64tab.length=64:=by kernel_rfl
 rw[hlen] at hr;have c5:Tryz.prog.cellsOf 5=1:=by kernel_rfl
 have hE:=hel r hr;rw[c5,Nat.mul_one,List.getElem?_eq_getElem (by omega)] at hE;obtain⟨z,e1,e2,_⟩:=DataW.trod_int Tryz.underlying5 hE;have e3:(xs.map (·.1))=Lib.deBruijn64tab.map fun n:Nat=>.lit (.int .u8 (n:Int)):=(DataW.agg.inj (Prod.mk.inj ex).1).symm
 have e4:(xs.map (·.1))[r]?=(Lib.deBruijn64tab.map fun n:Nat=>(DataW.lit (.int .u8 (n:Int)):DataW Unit))[r]?:=by rw[e3]
 rw[List.getElem?_map,List.getElem?_map,List.getElem?_eq_getElem (by omega:r<xs.length),List.getElem?_eq_getElem (by omega:r<Lib.deBruijn64tab.length),e2] at e4;have hz:z=((Lib.deBruijn64tab.getD r 0:Nat):Int):=by
  simp only[Option.map_some,Option.some.injEq,DataW.lit.injEq,Lit.int.injEq,true_and] at e4;rw[e4,List.getD,List.getElem?_eq_getElem (by omega:r<Lib.deBruijn64tab.length)];rfl
 rw[World.var?_cell hg hv r,<-hz];have:cs.toList[r]?=some (.int .u8 z):=by
  have h0:((cs.toList.drop r).take 1)[0]?=some (.int .u8 z):=by rw[e1];rfl
  simpa using h0
 simpa using this
end Go.Proofs.YtmojhhlcocjoaaaGreatDoor
