/- packed and squeezed by programs (see wip/) -/
import Derived.Test.YtmojhhlcocjoaaaGreatDoorExactSearchP5
import Derived.Lib.Hide
set_option maxRecDepth 100000
set_option maxHeartbeats 16000000
set_option linter.unusedVariables false
set_option linter.unusedSimpArgs false
namespace Go.Proofs.YtmojhhlcocjoaaaGreatDoor
open Go.RowKit Go.ChangeShapes Go.WideShapes Go.ChangeAt Go.Deep
theorem Zby (i:InstP)(us:List Value)(P:Option Addr)(c:Nat)(q:List Nat)(w:World)(H:RInst w us i)(hc:Zl i=0)(hk:i.kind=3)(hP:RdI w P (Ze (0::q)))(hl:(0::q).Perm (List.range i.cost.length)) :
  Calls Tryz.prog 41 #[.agg (List.toArray us),.slice P i.cost.length c] w fun e w'=>e=.returned (.tuple #[.int .i64 (Zx i.cost 0 q),.int .i64 0])/\Ext w w':=by
 have sq:=Zt hc (by omega);have rok:=ZZ sq;have CH:=fun(W:World) (x:Ext w W)=>ZA i us W (H.ext x) (by rw[sq.w];simp) (by rw[sq.v];simp)
 have OY:=fun(W:World) (x:Ext w W)=>Jb P c i.cost.length (0::q) hl (by have:=rok.n2;omega) W (hP.ext x)
 rw[hc] at CH;have hnn:i.n=(i.cost.length:Int):=sq.len.symm;have hlt:Hid (∀ x∈0::q,x<i.cost.length):=fun x hx=>List.mem_range.1 (hl.mem_iff.1 hx)
 have hlen:Hid ((0::q).length=i.cost.length):=Hd (by rw[hl.length_eq,List.length_range]);have n24:=rok.n2;have n1:=rok.n1;clear hl hc sq;obtain⟨kind,nn,cap,xw,xv,co⟩:=i;obtain⟨A,a,B,b,D,d,rfl,-,-,hC,-⟩:=H;simp only at *;subst hk hnn;obtain⟨cb,cof,_,_,_,rfl,_,_⟩:=Ww rok hC (r:=0) (c:=0) (by omega) (by omega);have num:=Xe rok;have CA:=Hd (fun(W:World) (x:Ext w W) (r c:Nat) (hr:r<co.length) (hc:c<co.length)=>ZeC rok (hC.ext x fun _ _ h=>h.ext x) hr hc);obtain⟨tot,htot⟩:∃ tot,Hid (Zx co 0 q=tot):=⟨_,rfl⟩;rw[htot.out];have bt:0<=tot/\tot<=2147483647*24:=by
  have h1:=QE num q 0 (by omega) fun x hx=>hlt.out x (by simp[hx])
  have h2:=hlen.out;rw[List.length_cons] at h2;rw[htot.out] at h1;omega
 have START:Hid ((0:Int)+W4 co ((0::q).drop 0)=tot):=Hd (by rw[<-htot.out];simp[W4]);obtain⟨l,hll⟩:∃ l,Hid (0::q=l):=⟨_,rfl⟩;have h00:Hid (l[0]?=some 0):=Hd (by rw[<-hll.out];rfl);rw[hll.out] at hP hlt hlen START;obtain⟨pb,po,x0,rfl,zp0,cp0,ep0,_⟩:=hP.at (k:=0) (by rw[Zn,hlen.out];omega);obtain rfl:x0=0:=by
  have h:=ep0.out;rw[QF h00.out] at h;exact(Option.some.inj h).symm
 replace cp0:w.cell? ⟨pb,po,none⟩=some (.int .i64 0):=cp0;have DR:Hid (∀ k,k<co.length->∃ u,l[k]?=some u/\u<co.length/\l.drop k=u::l.drop (k+1)):=fun k hk=>by
  have h:k<l.length:=by rw[hlen.out];exact hk
  exact⟨l[k],List.getElem?_eq_getElem h,hlt.out _ (List.getElem_mem h),List.drop_eq_getElem_cons h⟩
 replace CH:=Hd CH;replace OY:=Hd OY;replace hP:=Hd hP;replace hC:=Hd hC;replace rok:=Hd rok;replace num:=Hd num;have B1:Hid (Blk (w.alloc (.cells #[.int .i64 3,.int .i64 co.length,.int .i64 cap,.slice A xw.length a,.slice B xv.length b,.slice (some ⟨cb,cof,none⟩) co.length d] 25)) w.heap.size 25 #[.int .i64 3,.int .i64 co.length,.int .i64 cap,.slice A xw.length a,.slice B xv.length b,.slice (some ⟨cb,cof,none⟩) co.length d]):=.new rfl;have q00:(0:Int)<(co.length:Int):=by omega
 clear ep0;go_enter Tryz.func41,Tryz.ntmps41;go_wp2_with (fail);refine(CH.out _ (by(repeat (first | assumption | exact Ext.rf _ | apply Ext.drew | apply Ext.drewN | apply Ext.alloc)))).mono ?_;rintro e w1 ⟨rfl,x1⟩;have X1:=Hd (Ext.tr (a:=w) (by(repeat (first | assumption | exact Ext.rf _ | apply Ext.drew | apply Ext.drewN | apply Ext.alloc))) x1);have b1:=Hd (B1.out.ext x1);have t0:=b1.out.c0;have t1:=b1.out.c1;clear x1 B1;go_wp2_with (fail);refine(OY.out _ (X1.out.tr (by(repeat (first | assumption | exact Ext.rf _ | apply Ext.drew | apply Ext.drewN | apply Ext.alloc))))).mono ?_;rintro e w2 ⟨rfl,x2⟩;have X2:=Hd (X1.out.tr (Ext.tr (by(repeat (first | assumption | exact Ext.rf _ | apply Ext.drew | apply Ext.drewN | apply Ext.alloc))) x2));have BC:=Hd (b1.out.ext (Ext.tr (by(repeat (first | assumption | exact Ext.rf _ | apply Ext.drew | apply Ext.drewN | apply Ext.alloc))) x2));have s0:=BC.out.c0;have e2:w2.cell? ⟨pb,po,none⟩=some (.int .i64 0):=Zg X2.out zp0 cp0;clear x2 b1 X1 t0 t1;go_wp2_with (fail);go_loopw [7,44] (fun s v wr=>∃ (k:Nat) (su:Int),v=.int .i64 k/\s=.int .i64 su/\k<=co.length/\Hid (0<=su/\su+W4 co (l.drop k)=tot)/\Hid (Ext w2 wr)) (fun _ v _=>co.length-(intOf v).toNat)
 case atStart=>exact⟨0,0,rfl,rfl,by omega,by exact(show (0:Int)<=0/\(0:Int)+W4 co (l.drop 0)=tot from⟨by omega,START.out⟩),Ext.rf _⟩
 case round =>
  clear s0;obtain⟨wo,rfl⟩:∃ wo:World,wo=wr:=⟨_,rfl⟩;obtain⟨k,su,rfl,rfl,hk,HS,Y⟩:=hrel;have s0:wo.cell? ⟨w.heap.size,0,none⟩=some (.int .i64 3):=(BC.out.ext Y.out).cell 0;have d1:wo.cell? ⟨w.heap.size,1,none⟩=some (.int .i64 co.length):=(BC.out.ext Y.out).cell 1;have d5:wo.cell? ⟨w.heap.size,5,none⟩=some (.slice (some ⟨cb,cof,none⟩) co.length d):=(BC.out.ext Y.out).cell 5;have XW:=Hd (X2.out.tr Y.out);clear e2 START
  by_cases hkl:k<co.length
  ·obtain⟨u,ek,hun,edr⟩:=DR.out k hkl
   obtain⟨pb',po',xu,hPq,zpk,cpk,epk,_⟩:=(hP.out.ext XW.out).at (k:=k) (by rw[Zn,hlen.out];exact hkl);obtain⟨rfl,rfl⟩:pb=pb'/\po=po':=by simpa using hPq
   obtain rfl:xu=(u:Int):=by
    have h:=epk.out;rw[QF ek] at h;exact(Option.some.inj h).symm
   have HS1:=HS.out;rw[edr] at HS1;have q1:(k:Int)<(co.length:Int):=by omega
   have q2:(u:Int)<(co.length:Int):=by omega
   have hw0:IntKind.i64.wrap ((k:Int)+1)=(k:Int)+1:=IntWalk.i64_in _ (by omega);clear ek edr hPq epk HS
   by_cases hlast:k+1=co.length
   ·have e1:l.drop (k+1)=[]:=List.drop_of_length_le (by rw[hlen.out];omega)
    rw[e1] at HS1;obtain⟨rb,ro,d',c1,c2⟩:=CA.out _ XW.out u 0 hun (by omega);have nu:=num.out u 0 hun (by omega);obtain⟨y,hy⟩:∃ y,Hid (Zb co u 0=y):=⟨_,rfl⟩;simp only[W4,Zx] at HS1;rw[hy.out] at c2 nu HS1;replace c2:wo.cell? ⟨rb,ro,none⟩=some (.int .i64 y):=c2;have hrem:((k:Int)+1).tmod (co.length:Int)=0:=by
     have h:(k:Int)+1=(co.length:Int):=by omega
     rw[h,Int.tmod_self]
    have hw1:IntKind.i64.wrap 0=0:=IntWalk.i64_in _ (by omega);have hw:IntKind.i64.wrap (su+y)=su+y:=IntWalk.i64_in _ (by omega);have p0:wo.cell? ⟨pb,po,none⟩=some (.int .i64 0):=Zg XW.out zp0 cp0;have NEW:Hid (0<=su+y/\su+y+W4 co (l.drop (k+1))=tot):=Hd (by
     rw[e1];simp only[W4];omega)
    have hnz:((co.length:Int)==0)=false:=by rw[beq_eq_false_iff_ne];omega
    clear HS1 e1;replace hlast:=Hd hlast;go_wp2_with (fail);go_quiet (fail);go_wp2_with (fail);go_roundw
    case rel=>exact⟨k+1,su+y,by go_num,rfl,by omega,NEW,Y.out.drewN _⟩
    case measure=>simp[intOf];omega
   ·have hk1:k+1<co.length:=by omega
    obtain⟨v,ek1,hvn,edr1⟩:=DR.out (k+1) hk1;obtain⟨pb',po',xu,hPq,zpk1,cpk1,epk1,_⟩:=(hP.out.ext XW.out).at (k:=k+1) (by rw[Zn,hlen.out];exact hk1);obtain⟨rfl,rfl⟩:pb=pb'/\po=po':=by simpa using hPq
    obtain rfl:xu=(v:Int):=by
     have h:=epk1.out;rw[QF ek1] at h;exact(Option.some.inj h).symm
    rw[edr1] at HS1;obtain⟨rb,ro,d',c1,c2⟩:=CA.out _ XW.out u v hun hvn;have nu:=num.out u v hun hvn;obtain⟨y,hy⟩:∃ y,Hid (Zb co u v=y):=⟨_,rfl⟩;simp only[W4,Zx] at HS1;rw[hy.out] at c2 nu HS1;have hpp:=(QE num.out (l.drop (k+1+1)) v hvn fun x hx=>hlt.out x (List.mem_of_mem_drop hx)).1;have hrem:((k:Int)+1).tmod (co.length:Int)=((k+1:Nat):Int):=by
     rw[Int.tmod_eq_emod_of_nonneg (by omega),Int.emod_eq_of_lt (by omega) (by omega)];omega
    have hw1:IntKind.i64.wrap ((k+1:Nat):Int)=((k+1:Nat):Int):=IntWalk.i64_in _ (by omega);have hw:IntKind.i64.wrap (su+y)=su+y:=IntWalk.i64_in _ (by omega);have NEW:Hid (0<=su+y/\su+y+W4 co (l.drop (k+1))=tot):=Hd (by
     rw[edr1];simp only[W4];omega)
    have q3:(v:Int)<(co.length:Int):=by omega
    have q4:((k+1:Nat):Int)<(co.length:Int):=by omega
    have hnz:((co.length:Int)==0)=false:=by rw[beq_eq_false_iff_ne];omega
    clear HS1 edr1 ek1 hPq epk1 hpp;replace hlast:=Hd hlast;go_wp2_with (fail);go_quiet (fail);go_wp2_with (fail);go_roundw
    case rel=>exact⟨k+1,su+y,by go_num,rfl,by omega,NEW,Y.out.drewN _⟩
    case measure=>simp[intOf];omega
  ·have q1:¬(k:Int)<(co.length:Int):=by omega
   have HS2:Hid (su=tot):=by
    have h:=HS.out.2;rw[List.drop_of_length_le (by rw[hlen.out];omega)] at h;simp only[W4] at h;have h2:su=tot:=by omega
    exact h2
   go_wp2_with (fail);go_ret2;rw[HS2.out];exact⟨rfl,XW.out⟩
theorem Zbz (i:InstP)(us:List Value)(w:World)(H:RInst w us i)(hc:Zl i=0)(hk:i.kind=3)(h12:i.n<=12) :
  Calls Tryz.prog 80 #[.agg (List.toArray us),.int .i64 3] w fun e w'=>e=.returned (.int .i64 0)/\Ext w w':=by
 have sq:=Zt hc (by omega);have CH:=fun(W:World) (x:Ext w W)=>ZA i us W (H.ext x) (by rw[sq.w];simp) (by rw[sq.v];simp)
 rw[hc] at CH;obtain⟨kind,nn,cap,xw,xv,co⟩:=i;obtain⟨A,a,B,b,D,d,rfl,-,-,-⟩:=H;simp only at *;subst hk;have B1:Hid (Blk (w.alloc (.cells #[.int .i64 3,.int .i64 nn,.int .i64 cap,.slice A xw.length a,.slice B xv.length b,.slice D co.length d] 25)) w.heap.size 25 #[.int .i64 3,.int .i64 nn,.int .i64 cap,.slice A xw.length a,.slice B xv.length b,.slice D co.length d]):=.new rfl;replace CH:=Hd CH;clear hc sq;have hq:¬12<nn:=by omega
 go_enter Tryz.func80,Tryz.ntmps80;go_wp2_with (fail);refine(CH.out _ (by(repeat (first | assumption | exact Ext.rf _ | apply Ext.drew | apply Ext.drewN | apply Ext.alloc)))).mono ?_;rintro e w1 ⟨rfl,x1⟩;have X1:=Hd (Ext.tr (a:=w) (by(repeat (first | assumption | exact Ext.rf _ | apply Ext.drew | apply Ext.drewN | apply Ext.alloc))) x1);have b1:=Hd (B1.out.ext x1);have t0:=b1.out.c0;have t1:=b1.out.c1;clear x1 B1;go_wp2_with (fail);go_ret;exact⟨rfl,X1.out.tr (by(repeat (first | assumption | exact Ext.rf _ | apply Ext.drew | apply Ext.drewN | apply Ext.alloc)))⟩
theorem ZcW (i:InstP)(us:List Value)(P:Option Addr)(c:Nat)(q:List Nat)(w:World)(H:RInst w us i)(hc:Zl i=0)(hk:i.kind=3)(hP:RdI w P (Ze (0::q)))(hl:(0::q).Perm (List.range i.cost.length)) :
  Calls Tryz.prog 83 #[.agg (List.toArray us),.slice P i.cost.length c] w fun e w'=>e=.returned (.tuple #[.slice P i.cost.length c,.int .i64 (Zx i.cost 0 q),.int .i64 0])/\Ext w w':=by
 have VC:=fun(W:World) (x:Ext w W)=>Zby i us P c q W (H.ext x) hc hk (hP.ext x) hl
 obtain⟨kind,nn,cap,xw,xv,co⟩:=i;obtain⟨A,a,B,b,D,d,rfl,-,-,-⟩:=H;simp only at *;generalize Zx co 0 q=cc at *;replace VC:=Hd VC;clear hc hk hP hl;go_enter Tryz.func83,Tryz.ntmps83;go_wp2_with (fail);refine(VC.out _ (by(repeat (first | assumption | exact Ext.rf _ | apply Ext.drew | apply Ext.drewN | apply Ext.alloc)))).mono ?_;rintro e w1 ⟨rfl,x1⟩;have X1:=Hd (Ext.tr (a:=w) (by(repeat (first | assumption | exact Ext.rf _ | apply Ext.drew | apply Ext.drewN | apply Ext.alloc))) x1);clear x1;go_wp2_with (fail);go_ret3;exact⟨rfl,X1.out.tr (by(repeat (first | assumption | exact Ext.rf _ | apply Ext.drew | apply Ext.drewN | apply Ext.alloc)))⟩
abbrev Ld := Int×Int×Nat
def Zy : List Ld->List Value
 | []=>[]
 | d::l=>.int .i64 d.1::.int .i64 d.2.1::.int .u64 (d.2.2:Int)::.int .u64 0::Zy l
theorem Yn : ∀ l:List Ld,(Zy l).length=l.length*4
 | []=>rfl
 | d::l=>by simp only[Zy,List.length_cons,Yn l];omega
theorem Jd : ∀ l:List Ld,∀ u∈Zy l,u.oneCell'=true
 | [],u,h=>by cases h
 | d::l,u,h=>by
  simp only[Zy,List.mem_cons] at h;rcases h with rfl | rfl | rfl | rfl | h
  ·rfl
  ·rfl
  ·rfl
  ·rfl
  ·exact Jd l u h
theorem YN : ∀ l m:List Ld,Zy (l++m)=Zy l++Zy m
 | [],m=>rfl
 | d::l,m=>by simp only[List.cons_append,Zy,YN l m]
theorem YU : ∀ {l:List Ld} {k:Nat} {d:Ld},l[k]?=some d->(Zy l)[k*4]?=some (.int .i64 d.1)/\(Zy l)[k*4+1]?=some (.int .i64 d.2.1)/\(Zy l)[k*4+2]?=some (.int .u64 (d.2.2:Int))/\(Zy l)[k*4+3]?=some (.int .u64 0)
 | [],k,d,h=>by simp at h
 | e::l,0,d,h=>by
  obtain rfl:e=d:=by simpa using h
  exact⟨rfl,rfl,rfl,rfl⟩
 | e::l,k+1,d,h=>by
  have ih:=YU (l:=l) (k:=k) (d:=d) (by simpa using h);have e1:∀ j,(Zy (e::l))[(k+1)*4+j]?=(Zy l)[k*4+j]?:=fun j=>by
   rw[show (k+1)*4+j=k*4+j+1+1+1+1 by omega]
   rfl
  have e0:=e1 0;simp only[Nat.add_zero] at e0;rw[e0,e1 1,e1 2,e1 3];exact ih
def Z4 (l:List Ld)(k:Nat)(wt vl room:Int) : List Ld:=(l.filter fun d=>decide (d.1+wt<=room)).map fun d=>(d.1+wt,d.2.1+vl,d.2.2 ||| 2^k)
theorem ZbA (l:List Ld)(d:Ld)(k:Nat)(wt vl room:Int) : Z4 (l++[d]) k wt vl room=Z4 l k wt vl room++(if d.1+wt<=room then [(d.1+wt,d.2.1+vl,d.2.2 ||| 2^k)] else []):=by
 unfold Z4;rw[List.filter_append,List.map_append]
 congr 1
 by_cases h:d.1+wt<=room
 ·simp[h]
 ·simp[h]
theorem Je (l:List Ld)(k:Nat)(wt vl room:Int) : (Z4 l k wt vl room).length<=l.length:=by
 unfold Z4;rw[List.length_map];exact List.length_filter_le _ _
def Uw (d m:Ld) : Bool:=decide (m.1<=d.1)&&decide (d.2.1<=m.2.1)
def YE : List Ld->List Ld->List Ld
 | acc,[]=>acc
 | acc,d::r=>YE (match acc.getLast? with
  | none=>[d]
  | some m=>if Uw d m=true then acc else acc++[d]) r
theorem Jf : ∀ {r acc:List Ld} {d:Ld},d∈YE acc r->d∈acc\/d∈r
 | [],acc,d,h=>.inl h
 | e::r,acc,d,h=>by
  unfold YE at h;rcases Jf h with h | h
  ·split at h
   ·exact .inr (by simpa using .inl (List.mem_singleton.1 h))
   ·split at h
    ·exact .inl h
    ·rcases List.mem_append.1 h with h | h
     ·exact .inl h
     ·exact .inr (by simpa using .inl (List.mem_singleton.1 h))
  ·exact .inr (List.mem_cons_of_mem _ h)
def Dom (l:List Ld)(d:Ld) : Prop:=∃ m∈l,m.1<=d.1/\d.2.1<=m.2.1
theorem Jg : ∀ {r acc:List Ld} {d:Ld},Dom acc d\/d∈r->Dom (YE acc r) d
 | [],acc,d,h=>by
  rcases h with h | h
  ·exact h
  ·cases h
 | e::r,acc,d,h=>by
  unfold YE;refine Jg ?_;rcases h with⟨m,h1,h2⟩ | h
  ·left
   split
   ·rename_i hn
    rw[List.getLast?_eq_none_iff.1 hn] at h1
    cases h1
   ·split
    ·exact⟨m,h1,h2⟩
    ·exact⟨m,List.mem_append_left _ h1,h2⟩
  ·rcases List.mem_cons.1 h with rfl | h
   ·left
    split
    ·exact⟨d,by simp,Int.le_refl _,Int.le_refl _⟩
    ·rename_i m hm
     split
     ·rename_i hw
      simp only[Uw,Bool.and_eq_true,decide_eq_true_eq] at hw;exact⟨m,List.mem_of_getLast? hm,hw.1,hw.2⟩
     ·exact⟨d,by simp,Int.le_refl _,Int.le_refl _⟩
   ·exact .inr h
theorem Jh : ∀ {r acc:List Ld},(YE acc r).length<=acc.length+r.length
 | [],acc=>by simp[YE]
 | e::r,acc=>by
  unfold YE;refine Nat.le_trans Jh ?_;split
  ·rename_i hn
   rw[List.getLast?_eq_none_iff.1 hn];simp;omega
  ·split<;>simp<;>omega
def ZT (f:Nat->Int)(k s:Nat) : Int:=Zi ((List.range k).map fun j=>if s.testBit j=true then f j else 0)
theorem ZP (f:Nat->Int)(k s:Nat) : ZT f (k+1) s=ZT f k s+(if s.testBit k=true then f k else 0):=by
 unfold ZT;rw[List.range_succ,List.map_append,XI];simp[Zi]
theorem Wx {f:Nat->Int}{k s t:Nat}(h:∀ j,j<k->s.testBit j=t.testBit j) : ZT f k s=ZT f k t:=by
 unfold ZT
 congr 1
 exact List.map_congr_left fun j hj=>by rw[h j (List.mem_range.1 hj)]
structure Good (k:Nat)(wf vf:Nat->Int)(cap:Int)(l:List Ld) : Prop where
 each:∀ d∈l,d.2.2<2^k/\d.1=ZT wf k d.2.2/\d.2.1=ZT vf k d.2.2/\d.1<=cap
 dom:∀ s,s<2^k->ZT wf k s<=cap->∃ d∈l,d.1<=ZT wf k s/\ZT vf k s<=d.2.1
 len:l.length<=2^k
theorem Good.start {wf vf:Nat->Int}{cap:Int}(h:0<=cap) : Good 0 wf vf cap [(0,0,0)] where
 each:=fun d hd=>by
  obtain rfl:=List.mem_singleton.1 hd;exact⟨by simp,rfl,rfl,h⟩
 dom:=fun s hs _=>⟨(0,0,0),by simp,by simp[ZT,Zi],by simp[ZT,Zi]⟩
 len:=by simp
theorem ZeE {s k:Nat}(h:s<2^k) : s.testBit k=false:=Nat.testBit_lt_two_pow h
theorem Good.step {k:Nat}{wf vf:Nat->Int}{cap:Int}{l l2:List Ld}(h:Good k wf vf cap l)(hw:0<=wf k)(hp:l2.Perm (l++Z4 l k (wf k) (vf k) cap)) : Good (k+1) wf vf cap (YE [] l2):=by
 have e2:2^(k+1)=2^k+2^k:=by rw[Nat.pow_succ];omega
 have hl:∀ d∈l,d.2.2<2^(k+1)/\d.1=ZT wf (k+1) d.2.2/\d.2.1=ZT vf (k+1) d.2.2/\d.1<=cap:=fun d hd=>by
  obtain⟨h1,h2,h3,h4⟩:=h.each d hd;rw[ZP,ZP,ZeE h1];exact⟨by omega,by simpa using h2,by simpa using h3,h4⟩
 have hb:∀ s:Nat,s<2^k->(∀ j,j<k->(s ||| 2^k).testBit j=s.testBit j)/\(s ||| 2^k).testBit k=true:=fun s _=>by
  refine⟨fun j hj=>?_,?_⟩
  ·rw[Nat.testBit_or,Nat.testBit_two_pow_of_ne (by omega),Bool.or_false]
  ·rw[Nat.testBit_or,Nat.testBit_two_pow_self,Bool.or_true]
 have hm:∀ d∈YE [] l2,d∈l\/d∈Z4 l k (wf k) (vf k) cap:=fun d hd=>by
  rcases Jf hd with h1 | h1
  ·cases h1
  ·exact List.mem_append.1 (hp.mem_iff.1 h1)
 refine⟨fun d hd=>?_,fun s hs hc=>?_,?_⟩
 ·rcases hm d hd with h1 | h1
  ·exact hl d h1
  ·obtain⟨q,hq,rfl⟩:=List.mem_map.1 h1
   obtain⟨hq,hf⟩:=List.mem_filter.1 hq;obtain⟨h1,h2,h3,_⟩:=h.each q hq;obtain⟨b1,b2⟩:=hb q.2.2 h1;have hlt:q.2.2 ||| 2^k<2^(k+1):=Nat.or_lt_two_pow (by omega) (by omega)
   refine⟨hlt,?_,?_,by simpa using hf⟩
   ·show q.1+wf k=ZT wf (k+1) (q.2.2 ||| 2^k)
    rw[ZP,b2,Wx b1,if_pos rfl,h2]
   ·show q.2.1+vf k=ZT vf (k+1) (q.2.2 ||| 2^k)
    rw[ZP,b2,Wx b1,if_pos rfl,h3]
 ·have fin:∀ d:Ld,d∈l++Z4 l k (wf k) (vf k) cap->d.1<=ZT wf (k+1) s->ZT vf (k+1) s<=d.2.1->∃ d∈YE [] l2,d.1<=ZT wf (k+1) s/\ZT vf (k+1) s<=d.2.1:=fun d hd h1 h2=>by
   obtain⟨m,m1,m2,m3⟩:=Jg (acc:=[]) (.inr (hp.mem_iff.2 hd));exact⟨m,m1,by omega,by omega⟩
  rw[ZP] at hc
  by_cases hk:s.testBit k=true
  ·rw[if_pos hk] at hc
   have hs':s%2^k<2^k:=Nat.mod_lt _ (Nat.two_pow_pos k);have hbits:∀ j,j<k->(s%2^k).testBit j=s.testBit j:=fun j hj=>by rw[Nat.testBit_mod_two_pow];simp[hj]
   have e3:=Wx (f:=wf) hbits;have e4:=Wx (f:=vf) hbits;obtain⟨d,d1,d2,d3⟩:=h.dom (s%2^k) hs' (by omega);refine fin (d.1+wf k,d.2.1+vf k,d.2.2 ||| 2^k) (List.mem_append_right _ (List.mem_map.2 ⟨d,List.mem_filter.2 ⟨d1,by simp;omega⟩,rfl⟩)) ?_ ?_
   ·show d.1+wf k<=_
    rw[ZP,if_pos hk];omega
   ·show _<=d.2.1+vf k
    rw[ZP,if_pos hk];omega
  ·rw[if_neg hk] at hc
   have hs2:s<2^k:=by
    refine Nat.lt_pow_two_of_testBit (n:=k) _ fun i hi=>?_
    by_cases e:i=k
    ·rw[e];simpa using hk
    ·exact Nat.testBit_lt_two_pow (Nat.lt_of_lt_of_le hs (Nat.pow_le_pow_right (by omega) (by omega)))
   obtain⟨d,d1,d2,d3⟩:=h.dom s hs2 (by omega);refine fin d (List.mem_append_left _ d1) ?_ ?_
   ·rw[ZP,if_neg hk];omega
   ·rw[ZP,if_neg hk];omega
 ·refine Nat.le_trans Jh ?_
  rw[hp.length_eq,List.length_append];have:=Je l k (wf k) (vf k) cap;have:=h.len;simp;omega
def JJ : Ld->List Ld->Ld
 | t,[]=>t
 | t,d::l=>JJ (if t.2.1<d.2.1 then d else t) l
theorem Zb4 : ∀ {l:List Ld} {t:Ld},t.2.1<=(JJ t l).2.1/\(∀ d∈l,d.2.1<=(JJ t l).2.1)/\(JJ t l=t\/JJ t l∈l)
 | [],t=>⟨Int.le_refl _,(fun d h=>by cases h),Or.inl rfl⟩
 | e::l,t=>by
  have ih:=Zb4 (l:=l) (t:=if t.2.1<e.2.1 then e else t);unfold JJ
  by_cases h:t.2.1<e.2.1
  ·rw[if_pos h] at ih ⊢
   refine⟨by have:=ih.1;omega,fun d hd=>?_,?_⟩
   ·rcases List.mem_cons.1 hd with rfl | hd
    ·exact ih.1
    ·exact ih.2.1 d hd
   ·rcases ih.2.2 with h2 | h2
    ·right
     rw[h2];simp
    ·exact .inr (List.mem_cons_of_mem _ h2)
  ·rw[if_neg h] at ih ⊢
   refine⟨ih.1,fun d hd=>?_,?_⟩
   ·rcases List.mem_cons.1 hd with rfl | hd
    ·have:=ih.1
     omega
    ·exact ih.2.1 d hd
   ·rcases ih.2.2 with h2 | h2
    ·exact .inl h2
    ·exact .inr (List.mem_cons_of_mem _ h2)
def xB (m n:Nat) : List Int:=(List.range n).map fun j=>if m.testBit j=true then 1 else 0
theorem Wy (m n:Nat) : (xB m n).length=n:=by simp[xB]
theorem ZbB {m n j:Nat}(h:j<n) : (xB m n)[j]?=some (if m.testBit j=true then 1 else 0):=by
 rw[xB,List.getElem?_map,List.getElem?_range h]
 rfl
def YO (f:Nat->Int)(k s:Nat) : Int:=Zi ((List.range k).map fun j=>if s.testBit j=true then 0 else f j)
theorem Ux (f:Nat->Int)(k s:Nat) : YO f (k+1) s=YO f k s+(if s.testBit k=true then 0 else f k):=by
 unfold YO;rw[List.range_succ,List.map_append,XI];simp[Zi]
theorem V9 {f:Nat->Int}{n:Nat}(hf:∀ j,j<n->0<=f j/\f j<=2147483647)(s:Nat) : ∀ k,k<=n->(0<=ZT f k s/\ZT f k s<=k*2147483647)/\(0<=YO f k s/\YO f k s<=k*2147483647)
 | 0,_=>by simp[ZT,YO,Zi]
 | k+1,h=>by
  have ih:=V9 hf s k (by omega);have h1:=hf k (by omega);rw[ZP,Ux];split<;>omega
theorem QG (f:Nat->Int)(s:Nat) : ∀ k,ZT f k s+YO f k s=Zi ((List.range k).map f)
 | 0=>rfl
 | k+1=>by
  have ih:=QG f s k;rw[ZP,Ux,List.range_succ,List.map_append,XI];simp only[List.map_cons,List.map_nil,Zi];split<;>omega
def atF (xs:List Int)(j:Nat) : Int:=xs.getD j 0
theorem Uy {xs:List Int}(h:Small31 xs)(j:Nat) : 0<=atF xs j/\atF xs j<=2147483647:=by
 unfold atF
 cases e:xs[j]? with
 | none=>simp[List.getD,e]
 | some x =>
  rw[getD_some e];exact h.get e
theorem ZcX (i:InstP)(us:List Value)(P:Option Addr)(c m n:Nat)(w:World)(H:RInst w us i)(hc:Zl i=0)(hk:i.kind=1)(hn:i.n=n)(hP:RdI w P (xB m n))(hcap:ZT (atF i.weight) n m<=i.cap) :
  Calls Tryz.prog 78 #[.agg (List.toArray us),.slice P n c] w fun e w'=>e=.returned (.tuple #[.int .i64 (YO (atF i.value) n m),.int .i64 0])/\Ext w w':=by
 have ok:=Z3 hc hk;have okw:=ok.w;have okv:=ok.v;have okn:=ok.n2;have okc:=ok.cap;have BW:=V9 (f:=atF i.weight) (n:=n) (fun j _=>Uy ok.sw j) m;have BV:=V9 (f:=atF i.value) (n:=n) (fun j _=>Uy ok.sv j) m;obtain⟨kind,nn,cap,xw,xv,co⟩:=i;obtain⟨A,a,B,b,D,d,rfl,⟨rA,-⟩,⟨rB,-⟩,-⟩:=H;simp only at *;subst hk hn;have lw:xw.length=n:=by omega
 have lv:xv.length=n:=by omega
 rw[lw,lv];have GW:∀ j,j<n->∃ b' o',A=some ⟨b',o',none⟩/\b'<w.heap.size/\w.cell? ⟨b',o'+j,none⟩=some (.int .i64 (atF xw j)):=fun j hj=>by
  obtain⟨b',o',x,h1,h2,h3,h4,_⟩:=rA.at (k:=j) (by omega);exact⟨b',o',h1,h2,by rw[h3];unfold atF;rw[getD_some h4.out]⟩
 have GV:∀ j,j<n->∃ b' o',B=some ⟨b',o',none⟩/\b'<w.heap.size/\w.cell? ⟨b',o'+j,none⟩=some (.int .i64 (atF xv j)):=fun j hj=>by
  obtain⟨b',o',x,h1,h2,h3,h4,_⟩:=rB.at (k:=j) (by omega);exact⟨b',o',h1,h2,by rw[h3];unfold atF;rw[getD_some h4.out]⟩
 have B1:Hid (Blk (w.alloc (.cells #[.int .i64 1,.int .i64 n,.int .i64 cap,.slice A n a,.slice B n b,.slice D co.length d] 25)) w.heap.size 25 #[.int .i64 1,.int .i64 n,.int .i64 cap,.slice A n a,.slice B n b,.slice D co.length d]):=.new rfl;have X0:Hid (Ext w (w.alloc (.cells #[.int .i64 1,.int .i64 n,.int .i64 cap,.slice A n a,.slice B n b,.slice D co.length d] 25))):=(Ext.rf _).alloc _;replace GW:=Hd GW;replace GV:=Hd GV;replace BW:=Hd BW;replace BV:=Hd BV;replace hP:=Hd hP;replace hcap:=Hd hcap;have nn0:((n:Int) != (n:Int))=false:=by simp
 clear hc ok rA rB okw okv lw lv;go_enter Tryz.func78,Tryz.ntmps78;go_wp2_with (fail);go_loopw [6,7,17] (fun v6 v7 v17 wr=>∃ k:Nat,v6=.int .i64 (ZT (atF xw) k m)/\v7=.int .i64 (YO (atF xv) k m)/\v17=.int .i64 k/\k<=n/\Hid (Ext (w.alloc (.cells #[.int .i64 1,.int .i64 n,.int .i64 cap,.slice A n a,.slice B n b,.slice D co.length d] 25)) wr)) (fun _ _ v17 _=>n-(intOf v17).toNat)
 case atStart=>exact⟨0,rfl,rfl,rfl,by omega,Ext.rf _⟩
 case round =>
  obtain⟨wo,rfl⟩:∃ wo:World,wo=wr:=⟨_,rfl⟩;obtain⟨k,rfl,rfl,rfl,hk,X⟩:=hrel;have XW:=X0.out.tr X.out;have b1:=B1.out.ext X.out;have bw:=BW.out k hk;have bv:=BV.out k hk
  by_cases hlt:k<n
  ·obtain⟨b1',o1,rfl,z1,c1⟩:=GW.out k hlt
   obtain⟨b2',o2,rfl,z2,c2⟩:=GV.out k hlt;have k1:=Zg XW z1 c1;have k2:=Zg XW z2 c2;obtain⟨pb,po,x,rfl,_,cp,ex,_⟩:=(hP.out.ext XW).at (k:=k) (by rw[Wy];exact hlt);have t3:=b1.c3;have t4:=b1.c4;have e1:=ZP (atF xw) k m;have e2:=Ux (atF xv) k m;have ex':=ex.out;rw[ZbB hlt] at ex';have q1:(k:Int)<(n:Int):=by omega
   have b3:=BW.out (k+1) (by omega);have b4:=BV.out (k+1) (by omega)
   cases hb:m.testBit k
   ·rw[hb] at ex' e1 e2
    simp only[Bool.false_eq_true,if_false,Int.add_zero] at ex' e1 e2;obtain rfl:x=0:=(Option.some.inj ex').symm;have HB:Hid (ZT (atF xw) (k+1) m=ZT (atF xw) k m/\YO (atF xv) (k+1) m=YO (atF xv) k m+atF xv k):=⟨e1,e2⟩;rw[e2] at b4;clear e1 e2 ex ex' b1 XW b3;generalize ZT (atF xw) k m=sw at *;generalize YO (atF xv) k m=sv at *;generalize atF xv k=fv at *;have wv:IntKind.i64.wrap (sv+fv)=sv+fv:=IntWalk.i64_in _ (by omega);go_wp2_with (fail);go_roundw
    case rel=>exact⟨k+1,by rw[HB.out.1],by rw[HB.out.2],by go_num,by omega,X.out.tr (by(repeat (first | assumption | exact Ext.rf _ | apply Ext.drew | apply Ext.drewN | apply Ext.alloc)))⟩
    case measure=>simp[intOf];omega
   ·rw[hb] at ex' e1 e2
    simp only[if_true,Int.add_zero] at ex' e1 e2;obtain rfl:x=1:=(Option.some.inj ex').symm;have HB:Hid (ZT (atF xw) (k+1) m=ZT (atF xw) k m+atF xw k/\YO (atF xv) (k+1) m=YO (atF xv) k m):=⟨e1,e2⟩;rw[e1] at b3;clear e1 e2 ex ex' b1 XW b4;generalize ZT (atF xw) k m=sw at *;generalize YO (atF xv) k m=sv at *;generalize atF xw k=fv at *;have wv:IntKind.i64.wrap (sw+fv)=sw+fv:=IntWalk.i64_in _ (by omega);go_wp2_with (fail);go_roundw
    case rel=>exact⟨k+1,by rw[HB.out.1],by rw[HB.out.2],by go_num,by omega,X.out.tr (by(repeat (first | assumption | exact Ext.rf _ | apply Ext.drew | apply Ext.drewN | apply Ext.alloc)))⟩
    case measure=>simp[intOf];omega
  ·obtain rfl:n=k:=by omega
   have t2:=b1.c2;have hq:¬cap<ZT (atF xw) n m:=by have:=hcap.out;omega
   replace XW:=Hd XW;clear b1 bw bv;go_wp2_with (fail);go_ret2;exact⟨rfl,XW.out.tr (by(repeat (first | assumption | exact Ext.rf _ | apply Ext.drew | apply Ext.drewN | apply Ext.alloc)))⟩
theorem ZbC (i:InstP)(us:List Value)(P:Option Addr)(c m n:Nat)(w:World)(H:RInst w us i)(hc:Zl i=0)(hk:i.kind=1)(hn:i.n=n)(hP:RdI w P (xB m n))(hcap:ZT (atF i.weight) n m<=i.cap) :
  Calls Tryz.prog 41 #[.agg (List.toArray us),.slice P n c] w fun e w'=>e=.returned (.tuple #[.int .i64 (YO (atF i.value) n m),.int .i64 0])/\Ext w w':=by
 have ok:=Z3 hc hk;have CH:=fun(W:World) (x:Ext w W)=>ZA i us W (H.ext x) (by have:=ok.w;have:=ok.n2;omega) (by have:=ok.v;have:=ok.n2;omega)
 have VK:=fun(W:World) (x:Ext w W)=>ZcX i us P c m n W (H.ext x) hc hk hn (hP.ext x) hcap
 rw[hc] at CH;clear ok hcap hP hc;obtain⟨kind,nn,cap,xw,xv,co⟩:=i;obtain⟨A,a,B,b,D,d,rfl,-,-,-⟩:=H;simp only at *;subst hk hn;generalize YO (atF xv) n m=sv at *;have B1:Hid (Blk (w.alloc (.cells #[.int .i64 1,.int .i64 n,.int .i64 cap,.slice A xw.length a,.slice B xv.length b,.slice D co.length d] 25)) w.heap.size 25 #[.int .i64 1,.int .i64 n,.int .i64 cap,.slice A xw.length a,.slice B xv.length b,.slice D co.length d]):=.new rfl;replace CH:=Hd CH;replace VK:=Hd VK;go_enter Tryz.func41,Tryz.ntmps41;go_wp2_with (fail);refine(CH.out _ (by(repeat (first | assumption | exact Ext.rf _ | apply Ext.drew | apply Ext.drewN | apply Ext.alloc)))).mono ?_;rintro e w1 ⟨rfl,x1⟩;have X1:=Hd (Ext.tr (a:=w) (by(repeat (first | assumption | exact Ext.rf _ | apply Ext.drew | apply Ext.drewN | apply Ext.alloc))) x1);have b1:=B1.out.ext x1;have t0:=b1.c0;have t1:=b1.c1;have t2:=b1.c2;have t3:=b1.c3;have t4:=b1.c4;have t5:=b1.c5;clear x1 B1 b1;go_wp2_with (fail);refine(VK.out _ X1.out).mono ?_;rintro e w2 ⟨rfl,x2⟩;have X2:=Hd (X1.out.tr x2);clear x2 t0 t1 t2 t3 t4 t5;go_wp2_with (fail);go_ret2;exact⟨rfl,X2.out.tr (by(repeat (first | assumption | exact Ext.rf _ | apply Ext.drew | apply Ext.drewN | apply Ext.alloc)))⟩
theorem ZbD (i:InstP)(us:List Value)(w:World)(H:RInst w us i)(hc:Zl i=0)(hk:i.kind=1)(hn:i.n<=18) :
  Calls Tryz.prog 80 #[.agg (List.toArray us),.int .i64 1] w fun e w'=>e=.returned (.int .i64 0)/\Ext w w':=by
 have ok:=Z3 hc hk;have CH:=fun(W:World) (x:Ext w W)=>ZA i us W (H.ext x) (by have:=ok.w;have:=ok.n2;omega) (by have:=ok.v;have:=ok.n2;omega)
 rw[hc] at CH;clear ok hc;obtain⟨kind,nn,cap,xw,xv,co⟩:=i;obtain⟨A,a,B,b,D,d,rfl,-,-,-⟩:=H;simp only at *;subst hk;have B1:Hid (Blk (w.alloc (.cells #[.int .i64 1,.int .i64 nn,.int .i64 cap,.slice A xw.length a,.slice B xv.length b,.slice D co.length d] 25)) w.heap.size 25 #[.int .i64 1,.int .i64 nn,.int .i64 cap,.slice A xw.length a,.slice B xv.length b,.slice D co.length d]):=.new rfl;replace CH:=Hd CH;have hq:¬18<nn:=by omega
 go_enter Tryz.func80,Tryz.ntmps80;go_wp2_with (fail);refine(CH.out _ (by(repeat (first | assumption | exact Ext.rf _ | apply Ext.drew | apply Ext.drewN | apply Ext.alloc)))).mono ?_;rintro e w1 ⟨rfl,x1⟩;have X1:=Hd (Ext.tr (a:=w) (by(repeat (first | assumption | exact Ext.rf _ | apply Ext.drew | apply Ext.drewN | apply Ext.alloc))) x1);have b1:=Hd (B1.out.ext x1);have t0:=b1.out.c0;have t1:=b1.out.c1;clear x1 B1;go_wp2_with (fail);go_ret;exact⟨rfl,X1.out.tr (by(repeat (first | assumption | exact Ext.rf _ | apply Ext.drew | apply Ext.drewN | apply Ext.alloc)))⟩
theorem ZcY (i:InstP)(us:List Value)(P:Option Addr)(c m n:Nat)(w:World)(H:RInst w us i)(hc:Zl i=0)(hk:i.kind=1)(hn:i.n=n)(hP:RdI w P (xB m n))(hcap:ZT (atF i.weight) n m<=i.cap) :
  Calls Tryz.prog 83 #[.agg (List.toArray us),.slice P n c] w fun e w'=>e=.returned (.tuple #[.slice P n c,.int .i64 (YO (atF i.value) n m),.int .i64 0])/\Ext w w':=by
 have VC:=fun(W:World) (x:Ext w W)=>ZbC i us P c m n W (H.ext x) hc hk hn (hP.ext x) hcap
 obtain⟨kind,nn,cap,xw,xv,co⟩:=i;obtain⟨A,a,B,b,D,d,rfl,-,-,-⟩:=H;simp only at *;subst hn;generalize YO (atF xv) n m=cc at *;replace VC:=Hd VC;clear hc hk hP hcap;go_enter Tryz.func83,Tryz.ntmps83;go_wp2_with (fail);refine(VC.out _ (by(repeat (first | assumption | exact Ext.rf _ | apply Ext.drew | apply Ext.drewN | apply Ext.alloc)))).mono ?_;rintro e w1 ⟨rfl,x1⟩;have X1:=Hd (Ext.tr (a:=w) (by(repeat (first | assumption | exact Ext.rf _ | apply Ext.drew | apply Ext.drewN | apply Ext.alloc))) x1);clear x1;go_wp2_with (fail);go_ret3;exact⟨rfl,X1.out.tr (by(repeat (first | assumption | exact Ext.rf _ | apply Ext.drew | apply Ext.drewN | apply Ext.alloc)))⟩
theorem ZbE {i:InstP}(ok:KnapOk i)(p:List Int) : -1000000000000<=(Yf i.cap (wsP i) (vsP i) p).1/\(Yf i.cap (wsP i) (vsP i) p).1<=1000000000000:=by
 obtain⟨f1,f2,f3,f4,f5⟩:=VD ok;unfold Yf
 cases hst:stP i.cap 0 (wsP i) (vsP i) p with
 | none=>simp
 | some q =>
  obtain⟨room,out⟩:=q;simp only;have n2:=ok.n2;have hle:p.length<=(wsP i).length:=by
   by_cases h:(wsP i).length<p.length
   ·rw[WK h] at hst;cases hst
   ·omega
  have bR:=WM f3 ok.cap.1 hst;have bO:=UV f4 hst;have bS:=JA (vs:=vsP i) f4 p.length;have bN:=Xv (room:=room) (ws:=(wsP i).drop p.length) (vs:=(vsP i).drop p.length) bR.1 (fun x hx=>f3 x (List.mem_of_mem_drop hx)) (fun x hx=>(f4 x (List.mem_of_mem_drop hx)).1);have bL:=Wp (room:=room) (ws:=(wsP i).drop p.length) (vs:=(vsP i).drop p.length) bR.1 (fun x hx=>f3 x (List.mem_of_mem_drop hx)) (fun x hx=>(f4 x (List.mem_of_mem_drop hx)).1);omega
theorem ZbF {rows:List (List Int)}(ok:RowsOk rows)(p:List Int) : -1000000000000<=(Z8 rows p).1/\(Z8 rows p).1<=1000000000000:=by
 have n2:=ok.n2;unfold Z8
 cases hr:ZO rows.length p with
 | none=>simp
 | some m =>
  obtain⟨hpl,hin,hS⟩:=Y8 n2 hr;simp only;have h1:=VX (B:=2147483647) (rows:=rows) (p:=p) (by omega) fun row hr c hc=>by
   have:=hin c hc;exact ok.get hr (by omega)
  have RB:=Qt (rows:=rows.drop p.length) (m:=m) (by rw[List.length_drop];omega) (fun row hr c hc=>ok.get (List.mem_of_mem_drop hr) (hS.2 c hc));split<;>omega
theorem ZbG {rows:List (List Int)}{mi:Bool}(ok:RowsOk rows)(p:List Int) : -1000000000000<=(Z9 rows mi p).1/\(Z9 rows mi p).1<=1000000000000:=by
 have l1:=ok.n1;have l2:=ok.n2;unfold Z9
 cases hr:Z1 rows p with
 | none=>simp
 | some s =>
  obtain⟨m,last,cost⟩:=s;obtain⟨pl,WO⟩:=YW l1 l2 hr;simp only;have hS:=WO.sub;have hla:=Ut l1 WO;have hlen:(Zc m).length<=24:=by have:=WO.len;omega
  have num:∀ a b,a<rows.length->b<rows.length->0<=Zb rows a b/\Zb rows a b<=2147483647:=fun a b ha hb=>by
   have e1:rows[a]?=some rows[a]:=List.getElem?_eq_getElem ha;have e2:=ok.row _ (List.getElem_mem ha);have e3:(rows[a])[b]?=some (rows[a])[b]:=List.getElem?_eq_getElem (by omega);unfold Zb;rw[getD_some e1,getD_some e3];exact ok.num _ (List.getElem_mem ha) _ (List.getElem_mem _)
  have bcost:0<=cost/\cost<=2147483647*24:=by
   have h1:=JF num pl 0 (by omega) fun x hx=>(WO.inn x hx).1
   have h2:=WO.len;rw[WO.cost];omega
  have bred:=QD num (by omega) hla hS.2 hlen;have n0:=num last 0 hla (by omega);split
  ·omega
  ·rename_i hne
   have bend:=Zav num (by omega) hla hS.2 hlen hne;split<;>omega
theorem VE {f:Int->Int} : ∀ {l:List Int} {b:Int},(∀ x∈l,0<=f x)->(∀ x∈l,ZF f b l<=f x)/\(0<=b->ZF f b l<=b)
 | [],b,_=>⟨(fun x h=>by simp at h),fun _=>Int.le_refl _⟩
 | x::l,b,h=>by
  have hx:=h x (by simp);have ih:=VE (f:=f) (l:=l) (b:=if b<0 then f x else if f x<b then f x else b) (fun y hy=>h y (by simp[hy]));have h2:=ih.2 (by split<;>(try split)<;>omega);unfold ZF;refine⟨fun y hy=>?_,fun hb=>?_⟩
  ·rcases List.mem_cons.1 hy with rfl | hy
   ·refine Int.le_trans h2 ?_
    split<;>(try split)<;>omega
   ·exact ih.1 y hy
  ·refine Int.le_trans h2 ?_
   split<;>(try split)<;>omega
theorem Ji {m c:Nat}(hm:m<18446744073709551616){q:List Nat}(h:(c::q).Perm (Zc m)) : q.Perm (Zc (Zv m c)):=by
 have hnd:(c::q).Nodup:=h.nodup_iff.2 ((Zw m).imp fun h=>Nat.ne_of_lt h);obtain⟨h1,h2⟩:=List.nodup_cons.1 hnd;refine(List.perm_ext_iff_of_nodup h2 ((Zw _).imp fun h=>Nat.ne_of_lt h)).2 fun x=>?_
 rw[Yt hm,<-h.mem_iff,List.mem_cons]
 constructor
 ·intro hx
  exact⟨.inr hx,fun e=>h1 (e ▸ hx)⟩
 ·rintro ⟨rfl | hx,hne⟩
  ·exact absurd rfl hne
  ·exact hx
theorem ZaG {rows:List (List Int)}(h24:rows.length<=24)(num:∀ row∈rows,∀ c,c<rows.length->0<=row.getD c 0) : ∀ (f:Nat) (p:List Int) (m:Nat),ZO rows.length p=some m->f=rows.length-p.length->∀ q:List Nat,q.Perm (Zc m)->YD rows rows.length f p<=Zr rows (p++Ze q)
 | 0,p,m,hp,hf=>fun q hq=>by
  have hlen:=Yb h24 hp;have h0:q=[]:=List.eq_nil_of_length_eq_zero (by rw[hq.length_eq];omega);subst h0;simp[YD,Ze]
 | f+1,p,m,hp,hf=>fun q hq=>by
  have hlen:=Yb h24 hp;have hsub:=(Y8 h24 hp).2.2;have hpos:∀ x∈Ze (Zc m),0<=YD rows rows.length f (p++[x]):=fun x hx=>by
   obtain⟨c,hc,rfl⟩:=List.mem_map.1 hx;obtain⟨q',h1,h2⟩:=Vk h24 num f _ _ (Xy h24 hp hc) (by rw[List.length_append,List.length_singleton];omega);rw[h2];have hin:=(Y8 h24 hp).2.1;have:∀ (rs:List (List Int)) (l:List Int),(∀ row∈rs,row∈rows)->(∀ x∈l,0<=x/\x<rows.length)->0<=Zr rs l:=by
    intro rs
    induction rs with
    | nil=>intro l _ _;simp[Zr]
    | cons r rs ihr =>
     intro l h3 h4
     cases l with
     | nil=>simp[Zr]
     | cons d l =>
      have h5:=h4 d (by simp);have h6:=num r (h3 r (by simp)) d.toNat (by omega);have h7:=ihr l (fun y hy=>h3 y (by simp[hy])) (fun y hy=>h4 y (by simp[hy]));simp only[Zr];omega
   refine this rows _ (fun _ h=>h) fun y hy=>?_
   rcases List.mem_append.1 hy with hy | hy
   ·rcases List.mem_append.1 hy with hy | hy
    ·exact hin y hy
    ·obtain rfl:=List.mem_singleton.1 hy
     have:=hsub.2 c hc;omega
   ·obtain⟨d,hd,rfl⟩:=List.mem_map.1 hy
    have:=hsub.2 d (((Yt hsub.1).1 (h1.mem_iff.1 hd)).1);omega
  have e:YD rows rows.length (f+1) p=ZF (fun x=>YD rows rows.length f (p++[x])) (-1) (Ze (Zc m)):=by
   show ZF _ (-1) (match ZO rows.length p with | none=>[] | some m=>Ze (Zc m))=_;rw[hp]
  rw[e]
  cases q with
  | nil =>
   have:=hq.length_eq;simp at this;omega
  | cons c q =>
   have hc:c∈Zc m:=hq.mem_iff.1 (by simp);refine Int.le_trans ((VE hpos).1 (c:Int) (List.mem_map.2 ⟨c,hc,rfl⟩)) ?_;have h:=ZaG h24 num f _ _ (Xy h24 hp hc) (by rw[List.length_append,List.length_singleton];omega) q (Ji hsub.1 hq);have e2:p++Ze (c::q)=p++[(c:Int)]++Ze q:=by simp[Ze]
   rw[e2];exact h
theorem ZaH {rows:List (List Int)}(h1:1<=rows.length)(h24:rows.length<=24)(num:∀ a b,a<rows.length->b<rows.length->0<=Zb rows a b) : ∀ (f:Nat) (p:List Int) (m last:Nat) (cost:Int) (l:List Nat),Z1 rows p=some (m,last,cost)->WalkOk rows p m last cost l->f=rows.length-1-p.length->∀ q:List Nat,q.Perm (Zc m)->YJ rows f p<=Zx rows 0 (l++q)
 | 0,p,m,last,cost,l,hp,W,hf=>fun q hq=>by
  have hlen:=W.len;have hpl:p.length=l.length:=by rw[W.eq,Zn]
  have h0:q=[]:=List.eq_nil_of_length_eq_zero (by rw[hq.length_eq];omega);subst h0;rw[List.append_nil];show Zx rows 0 (p.map Int.toNat)<=_;rw[W.eq,Yh];exact Int.le_refl _
 | f+1,p,m,last,cost,l,hp,W,hf=>fun q hq=>by
  have hlen:=W.len;have hpl:p.length=l.length:=by rw[W.eq,Zn]
  have nx:∀ c∈Zc m,∃ (m' last':Nat) (cost':Int),Z1 rows (p++[(c:Int)])=some (m',last',cost')/\m'=Zv m c/\WalkOk rows (p++[(c:Int)]) m' last' cost' (l++[c]):=fun c hc=>by
   have hs:=Wt h1 h24 hp hc;obtain⟨l',W'⟩:=YW h1 h24 hs;have e:l'=l++[c]:=by
    have:=W'.eq;rw[W.eq] at this;have h2:=congrArg (List.map Int.toNat) this;rw[Yh] at h2;rw[<-h2,List.map_append,Yh]
    rfl
   subst e;exact⟨_,_,_,hs,rfl,W'⟩
  have hpos:∀ x∈Ze (Zc m),0<=YJ rows f (p++[x]):=fun x hx=>by
   obtain⟨c,hc,rfl⟩:=List.mem_map.1 hx;obtain⟨m',last',cost',hs,rfl,W'⟩:=nx c hc;obtain⟨q',a1,a2⟩:=Wu h1 h24 num f _ _ _ _ _ hs W' (by rw[List.length_append,List.length_singleton];omega);rw[a2];refine Vo num _ _ (by omega) fun y hy=>?_
   rcases List.mem_append.1 hy with hy | hy
   ·exact(W'.inn y hy).1
   ·exact((W'.rest y).1 (a1.mem_iff.1 hy)).1.1
  have e:YJ rows (f+1) p=ZF (fun x=>YJ rows f (p++[x])) (-1) (Ze (Zc m)):=by
   show ZF _ (-1) (match Z1 rows p with | none=>[] | some (m,_,_)=>Ze (Zc m))=_;rw[hp]
  rw[e]
  cases q with
  | nil =>
   have:=hq.length_eq;simp at this;omega
  | cons c q =>
   have hc:c∈Zc m:=hq.mem_iff.1 (by simp);refine Int.le_trans ((VE hpos).1 (c:Int) (List.mem_map.2 ⟨c,hc,rfl⟩)) ?_;obtain⟨m',last',cost',hs,rfl,W'⟩:=nx c hc;have h:=ZaH h1 h24 num f _ _ _ _ _ hs W' (by rw[List.length_append,List.length_singleton];omega) q (Ji W.sub.1 hq);rw[List.append_assoc] at h;exact h
def pkB (b c:Int) : Int:=if 0<=c/\(b<0\/c<b) then c else b
def Xi (cap:Int)(ws vs:List Int) : Nat->List Int->Int
 | 0,x=>if cap<Z0 x ws then -1 else Yq x vs
 | f+1,x=>pkB (pkB (-1) (Xi cap ws vs f (x++[0]))) (Xi cap ws vs f (x++[1]))
def JK (n:Nat)(x y:List Int) : Prop:=(∃ s,y=x++s)/\y.length=n/\∀ v∈y,v=0\/v=1
theorem ZcZ {n:Nat}{x y:List Int}(h:JK n x y)(hl:x.length<n) : JK n (x++[0]) y\/JK n (x++[1]) y:=by
 obtain⟨⟨s,rfl⟩,h1,h2⟩:=h
 cases s with
 | nil=>simp at h1;omega
 | cons a s =>
  rcases h2 a (by simp) with rfl | rfl
  ·exact .inl ⟨⟨s,by simp⟩,h1,h2⟩
  ·exact .inr ⟨⟨s,by simp⟩,h1,h2⟩
theorem Jj {n:Nat}{x y:List Int}{b:Int}(h:JK n (x++[b]) y) : JK n x y:=by
 obtain⟨⟨s,rfl⟩,h1,h2⟩:=h;exact⟨⟨b::s,by simp⟩,h1,h2⟩
theorem Uz {vs:List Int}(hv:∀ x∈vs,0<=x) : ∀ (x:List Int),0<=Yq x vs:=fun x=>by
 unfold Yq;refine Yy fun z hz=>?_
 obtain⟨k,hk,rfl⟩:=List.mem_iff_getElem.1 hz;rw[List.getElem_zipWith];have:=hv _ (List.getElem_mem (by simp at hk;omega:k<vs.length));split<;>omega
theorem Vp {cap:Int}{ws vs:List Int}{n:Nat}(hv:∀ x∈vs,0<=x) : ∀ (f:Nat) (x:List Int),(∀ v∈x,v=0\/v=1)->x.length+f=n ->
  (Xi cap ws vs f x=-1\/∃ y,JK n x y/\Z0 y ws<=cap/\Xi cap ws vs f x=Yq y vs)/\∀ y,JK n x y->Z0 y ws<=cap->0<=Xi cap ws vs f x/\Xi cap ws vs f x<=Yq y vs
 | 0,x,h01,hl=>by
  unfold Xi
  by_cases hc:cap<Z0 x ws
  ·rw[if_pos hc]
   refine⟨.inl rfl,fun y hy hy2=>?_⟩;obtain⟨⟨s,rfl⟩,h1,h2⟩:=hy;have:s=[]:=List.eq_nil_of_length_eq_zero (by simp at h1;omega);subst this;rw[List.append_nil] at hy2;omega
  ·rw[if_neg hc]
   refine⟨.inr ⟨x,⟨⟨[],by simp⟩,by omega,h01⟩,by omega,rfl⟩,fun y hy hy2=>?_⟩;obtain⟨⟨s,rfl⟩,h1,h2⟩:=hy;have:s=[]:=List.eq_nil_of_length_eq_zero (by simp at h1;omega);subst this;rw[List.append_nil];exact⟨Uz hv x,Int.le_refl _⟩
 | f+1,x,h01,hl=>by
  have g0:∀ v∈x++[0],v=0\/v=1:=fun v hv=>by
   rcases List.mem_append.1 hv with h | h
   ·exact h01 v h
   ·exact .inl (List.mem_singleton.1 h)
  have g1:∀ v∈x++[1],v=0\/v=1:=fun v hv=>by
   rcases List.mem_append.1 hv with h | h
   ·exact h01 v h
   ·exact .inr (List.mem_singleton.1 h)
  obtain⟨a1,a2⟩:=Vp (cap:=cap) (ws:=ws) (n:=n) hv f (x++[0]) g0 (by simp;omega);obtain⟨b1,b2⟩:=Vp (cap:=cap) (ws:=ws) (n:=n) hv f (x++[1]) g1 (by simp;omega);have e:Xi cap ws vs (f+1) x=pkB (pkB (-1) (Xi cap ws vs f (x++[0]))) (Xi cap ws vs f (x++[1])):=rfl;rw[e];have a3:-1<=Xi cap ws vs f (x++[0]):=by
   rcases a1 with h | ⟨y,_,_,h⟩
   ·omega
   ·have:=Uz hv y;omega
  have b3:-1<=Xi cap ws vs f (x++[1]):=by
   rcases b1 with h | ⟨y,_,_,h⟩
   ·omega
   ·have:=Uz hv y;omega
  generalize Xi cap ws vs f (x++[0])=a at *;generalize Xi cap ws vs f (x++[1])=b at *;have e1:pkB (-1) a=a:=by
   unfold pkB;split<;>omega
  rw[e1];have e2:(pkB a b=a/\(b=-1\/(0<=a/\a<=b)))\/(pkB a b=b/\0<=b/\(a=-1\/b<a)):=by
   unfold pkB;split<;>omega
  constructor
  ·rcases e2 with⟨h,_⟩ | ⟨h,_⟩
   ·rw[h]
    rcases a1 with h2 | ⟨y,h3,h4,h5⟩
    ·exact .inl h2
    ·exact .inr ⟨y,Jj h3,h4,h5⟩
   ·rw[h]
    rcases b1 with h2 | ⟨y,h3,h4,h5⟩
    ·exact .inl h2
    ·exact .inr ⟨y,Jj h3,h4,h5⟩
  ·intro y hy hc
   rcases ZcZ hy (by omega) with h | h
   ·have:=a2 y h hc
    omega
   ·have:=b2 y h hc
    omega
theorem Zb5 : ∀ (n:Nat) (y:List Int),y.length=n->(∀ v∈y,v=0\/v=1)->∃ m,m<2^n/\y=xB m n
 | 0,y,h,_=>⟨0,by simp,by rw[List.eq_nil_of_length_eq_zero h];rfl⟩
 | n+1,y,h,h01=>by
  obtain⟨z,b,rfl⟩:∃ z b,y=z++[b]:=by
   have hne:y≠[]:=fun e=>by rw[e] at h;simp at h
   exact⟨y.dropLast,y.getLast hne,(List.dropLast_concat_getLast hne).symm⟩
  obtain⟨m,hm,rfl⟩:=Zb5 n z (by simpa using h) (fun v hv=>h01 v (by simp[hv]));have e0:m.testBit n=false:=Nat.testBit_lt_two_pow hm;have hp:2^(n+1)=2^n+2^n:=by rw[Nat.pow_succ];omega
  rcases h01 b (by simp) with rfl | rfl
  ·refine⟨m,by omega,?_⟩
   unfold xB;rw[List.range_succ,List.map_append,List.map_singleton,e0]
   rfl
  ·refine⟨2^n+m,by omega,?_⟩
   unfold xB;rw[List.range_succ,List.map_append,List.map_singleton,Nat.testBit_two_pow_add_eq,e0]
   congr 1
   refine List.map_congr_left fun j hj=>?_
   rw[Nat.testBit_two_pow_add_gt (List.mem_range.1 hj)]
theorem VG (x v:Int)(p vs:List Int) : Yq (x::p) (v::vs)=(if x=1 then 0 else v)+Yq p vs:=by simp[Yq,Zi]
theorem W5 (x w:Int)(p ws:List Int) : Z0 (x::p) (w::ws)=(if x=1 then w else 0)+Z0 p ws:=by simp[Z0,Zi]
theorem UA : ∀ (ws vs p:List Int) (room out:Int),p.length=ws.length->ws.length=vs.length->(∀ x∈p,x=0\/x=1)->(∀ w∈ws,0<=w)->Z0 p ws<=room->ZV room out ws vs<=out+Yq p vs
 | [],[],p,room,out,h,_,_,_,_=>by
  have:p=[]:=List.eq_nil_of_length_eq_zero (by simpa using h);subst this;simp[ZV,Yq,Zi]
 | [],_::_,_,_,_,_,h,_,_,_=>by simp at h
 | _::_,[],_,_,_,_,h,_,_,_=>by simp at h
 | _::_,_::_,[],_,_,h,_,_,_,_=>by simp at h
 | w::ws,v::vs,x::p,room,out,h1,h2,h3,h4,h5=>by
  rw[W5] at h5;rw[VG];have hw:=h4 w (by simp);have hp:0<=Z0 p ws:=by
   unfold Z0;refine Yy fun z hz=>?_
   obtain⟨k,hk,rfl⟩:=List.mem_iff_getElem.1 hz;rw[List.getElem_zipWith];have:=h4 _ (List.mem_cons_of_mem _ (List.getElem_mem (show k<ws.length by simp at hk;omega)));split<;>omega
  have i0:=UA ws vs p room (out+v) (by simpa using h1) (by simpa using h2) (fun y hy=>h3 y (by simp[hy])) (fun y hy=>h4 y (by simp[hy]));have i1:=UA ws vs p (room-w) out (by simpa using h1) (by simpa using h2) (fun y hy=>h3 y (by simp[hy])) (fun y hy=>h4 y (by simp[hy]));rcases h3 x (by simp) with rfl | rfl
  ·rw[if_neg (show ¬(0:Int)=1 by decide)] at h5 ⊢
   have:=i0 (by omega);unfold ZV;split
   ·split<;>omega
   ·omega
  ·rw[if_pos rfl] at h5 ⊢
   have:=i1 (by omega);unfold ZV;rw[if_pos (show w<=room by omega)];split<;>omega
theorem QH : ∀ (ws vs:List Int) (room out:Int),ws.length=vs.length->0<=room->∃ p:List Int,p.length=ws.length/\(∀ x∈p,x=0\/x=1)/\Z0 p ws<=room/\ZV room out ws vs=out+Yq p vs
 | [],[],room,out,_,h0=>⟨[],rfl,by simp,by simpa [Z0,Zi] using h0,by simp[ZV,Yq,Zi]⟩
 | [],_::_,_,_,h,_=>by simp at h
 | _::_,[],_,_,h,_=>by simp at h
 | w::ws,v::vs,room,out,h,h0=>by
  obtain⟨p0,a1,a2,a3,a4⟩:=QH ws vs room (out+v) (by simpa using h) h0;have no:∃ p:List Int,p.length=(w::ws).length/\(∀ x∈p,x=0\/x=1)/\Z0 p (w::ws)<=room/\ZV room (out+v) ws vs=out+Yq p (v::vs) :=
   ⟨0::p0,by simp[a1],fun x hx=>by
    rcases List.mem_cons.1 hx with h | h
    ·exact .inl h
    ·exact a2 x h,by rw[W5,if_neg (by decide)];omega,by rw[VG,if_neg (by decide)];omega⟩
  unfold ZV
  by_cases hw:w<=room
  ·rw[if_pos hw]
   obtain⟨p1,b1,b2,b3,b4⟩:=QH ws vs (room-w) out (by simpa using h) (by omega);split
   ·exact no
   ·exact⟨1::p1,by simp[b1],fun x hx=>by
     rcases List.mem_cons.1 hx with h | h
     ·exact .inr h
     ·exact b2 x h,by rw[W5,if_pos rfl];omega,by rw[VG,if_pos rfl];omega⟩
  ·rw[if_neg hw]
   exact no
theorem Jk (f:Int->Int->Int){l:List Nat}{n:Nat}(hp:l.Perm (List.range n)){y w:List Int}(ly:y.length=n)(lw:w.length=n) : Zi (List.zipWith f (Zk l y) (Zk l w))=Zi (List.zipWith f y w):=by
 rw[YG f y w (by omega),ly,<-Yz (hp.map _)];unfold Zk;rw[List.zipWith_map]
 congr 1
 apply List.ext_getElem
 ·simp
 ·intro k h1 h2
  simp
def Ua (i:InstP) : Int:=if i.kind=1 then Xi i.cap i.weight i.value i.n.toNat [] else bxI i []
theorem ZeF {i:InstP}(hc:Zl i=0) : bxI i []=Ua i:=by
 unfold Ua
 by_cases h:i.kind=1
 ·rw[if_pos h]
  have ok:=Z3 hc h;obtain⟨f1,f2,f3,f4,f5⟩:=VD ok;have hv:∀ x∈i.value,0<=x:=fun x hx=>(ok.sv x hx).1
  have hn:i.weight.length=i.n.toNat:=by have:=ok.w;omega
  have hnv:i.value.length=i.n.toNat:=by have:=ok.v;omega
  have hperm:(Yi i).Perm (List.range i.n.toNat):=by
   have:=WH i.value i.weight;rw[hnv] at this;exact this
  have hwl:(wsP i).length=i.n.toNat:=by omega
  obtain⟨L1,L2⟩:=Vp (cap:=i.cap) (ws:=i.weight) (n:=i.n.toNat) hv i.n.toNat [] (by simp) (by simp);have e:bxI i []=ZV i.cap 0 (wsP i) (vsP i):=by
   unfold bxI;rw[if_pos h];unfold Xg;have:stP i.cap 0 (wsP i) (vsP i) []=some (i.cap,0):=by cases wsP i<;>cases vsP i<;>rfl
   rw[this]
   rfl
  rw[e];obtain⟨p,p1,p2,p3,p4⟩:=QH (wsP i) (vsP i) i.cap 0 f1 ok.cap.1;have T:=VR (fun x w=>if x=1 then w else 0) hperm (p:=p) (w:=i.weight) (by omega) hn;have V:=VR (fun x w=>if x=1 then 0 else w) hperm (p:=p) (w:=i.value) (by omega) hnv;have E1:JK i.n.toNat [] (Ul (Yi i) p i.n.toNat):=⟨⟨_,rfl⟩,by rw[VQ,hperm.length_eq,List.length_range],ZbP p2 _⟩;have T':Z0 (Ul (Yi i) p i.n.toNat) i.weight=Z0 p (wsP i):=T;have V':Yq (Ul (Yi i) p i.n.toNat) i.value=Yq p (vsP i):=V;have B1:=L2 _ E1 (by omega);rw[V'] at B1;have low:∀ y,JK i.n.toNat [] y->Z0 y i.weight<=i.cap->ZV i.cap 0 (wsP i) (vsP i)<=Yq y i.value:=fun y hy ht=>by
   have t1:=Jk (fun x w=>if x=1 then w else 0) hperm (y:=y) (w:=i.weight) hy.2.1 hn;have t2:=Jk (fun x w=>if x=1 then 0 else w) hperm (y:=y) (w:=i.value) hy.2.1 hnv;have h01:∀ x∈Zk (Yi i) y,x=0\/x=1:=fun x hx=>by
    obtain⟨k,hk,rfl⟩:=List.mem_map.1 hx;have:k<y.length:=by rw[hy.2.1];exact List.mem_range.1 (hperm.mem_iff.1 hk)
    rw[List.getD,List.getElem?_eq_getElem this];exact hy.2.2 _ (List.getElem_mem this)
   have t1':Z0 (Zk (Yi i) y) (wsP i)=Z0 y i.weight:=t1;have t2':Yq (Zk (Yi i) y) (vsP i)=Yq y i.value:=t2;have:=UA (wsP i) (vsP i) (Zk (Yi i) y) i.cap 0 (by rw[ZY];have:=hperm.length_eq;rw[List.length_range] at this;omega) f1 h01 f3 (by omega);omega
  rcases L1 with L1 | ⟨y,y1,y2,y3⟩
  ·omega
  ·have:=low y y1 y2
   omega
 ·rw[if_neg h]
def Ub : Int:=1152921504606846976
section
variable {rows:List (List Int)} {n G:Nat} {T:Nat->Nat->Int} {Bk:Nat->Nat->Nat}
structure WayAt (rows:List (List Int))(n:Nat)(T:Nat->Nat->Int)(Bk:Nat->Nat->Nat)(g l:Nat) : Prop where
 one:Zv g l=0->T g l=Zb rows 0 (l+1)
 le:Zv g l≠0->∀ a,a<n->(Zv g l).testBit a=true->T g l<=T (Zv g l) a+Zb rows (a+1) (l+1)
 eq:Zv g l≠0->Bk g l<n/\(Zv g l).testBit (Bk g l)=true/\T g l=T (Zv g l) (Bk g l)+Zb rows (Bk g l+1) (l+1)
def WayOk (rows:List (List Int))(n:Nat)(T:Nat->Nat->Int)(Bk:Nat->Nat->Nat)(G:Nat) : Prop:=∀ g l,g<G->l<n->g.testBit l=true->WayAt rows n T Bk g l
theorem ZeG {n g:Nat}(hn:n<=24)(h:g<2^n) : g<18446744073709551616:=by
 have:2^n<=2^24:=Nat.pow_le_pow_right (by omega) hn;omega
theorem Uc {n g l j:Nat}(hn:n<=24)(h:g<2^n) : (Zv g l).testBit j=(g.testBit j&&decide (l≠j)):=Zab (ZeG hn h)
theorem W6 {n g l:Nat}(hn:n<=24)(h:g<2^n)(hl:g.testBit l=true) : Zv g l<g:=by
 have e:g &&& Zv g l=Zv g l:=Nat.eq_of_testBit_eq fun j=>by
  rw[Nat.testBit_and,Uc hn h]
  cases g.testBit j<;>simp
 have h1:Zv g l<=g:=by
  rw[<-e];exact Nat.and_le_left
 have h2:Zv g l≠g:=fun e2=>by
  have h3:=Uc (l:=l) (j:=l) hn h;rw[e2,hl] at h3;simp at h3
 omega
theorem Zfa {n g l:Nat}(hn:n<=24)(h:g<2^n)(hl:l<n)(hb:g.testBit l=false) : Zv (g ||| 2^l) l=g/\g ||| 2^l<2^n:=by
 have h2:g ||| 2^l<2^n:=Nat.or_lt_two_pow h (Nat.pow_lt_pow_right (by omega) hl)
 refine⟨Nat.eq_of_testBit_eq fun j=>?_,h2⟩;rw[Uc hn h2,Nat.testBit_or]
 by_cases e:l=j
 ·subst e
  simp[hb]
 ·rw[Nat.testBit_two_pow_of_ne e]
  simp[e]
theorem WayOk.bd (hn:n<=24)(hG:G<=2^n)(h:WayOk rows n T Bk G)(num:∀ a b,a<n+1->b<n+1->0<=Zb rows a b/\Zb rows a b<=2147483647) : ∀ (g l:Nat),g<G->l<n->g.testBit l=true->0<=T g l/\T g l<=g*2147483647:=by
 intro g
 induction g using Nat.strongRecOn with
 | ind g ih =>
  intro l hg hl hb;have w:=h g l hg hl hb;have g0:0<g:=Nat.pos_of_ne_zero fun e=>by rw[e] at hb;simp at hb
  by_cases e:Zv g l=0
  ·rw[w.one e]
   have:=num 0 (l+1) (by omega) (by omega);omega
  ·obtain⟨h1,h2,h3⟩:=w.eq e
   have h4:=W6 hn (by omega:g<2^n) hb;have h5:=ih (Zv g l) h4 (Bk g l) (by omega) h1 h2;have h6:=num (Bk g l+1) (l+1) (by omega) (by omega);rw[h3];have h7:((Zv g l:Nat):Int)+1<=(g:Int):=by omega
   generalize ((Zv g l:Nat):Int)=z at *;omega
theorem Zd3 (hn:n<=24)(h:WayOk rows n T Bk (2^n)) : ∀ (r:List Nat) (g a:Nat),g<2^n->a<n->g.testBit a=true->r.Nodup->(∀ y∈r,1<=y/\y<=n/\g.testBit (y-1)=false) ->
  ∃ g' l',g'<2^n/\l'<n/\g'.testBit l'=true/\(∀ j,g'.testBit j=true↔g.testBit j=true\/j+1∈r)/\T g' l'+Zb rows (l'+1) 0<=T g a+Zx rows (a+1) r
 | [],g,a,hg,ha,hb,_,_=>⟨g,a,hg,ha,hb,(fun j=>by simp),Int.le_refl _⟩
 | y::r,g,a,hg,ha,hb,hd,hr=>by
  obtain⟨y1,y2,y3⟩:=hr y (by simp);obtain⟨hd1,hd2⟩:=List.nodup_cons.1 hd;obtain⟨e1,e2⟩:=Zfa hn hg (l:=y-1) (by omega) y3;have hyb:(g ||| 2^(y-1)).testBit (y-1)=true:=by rw[Nat.testBit_or,Nat.testBit_two_pow_self,Bool.or_true]
  have w:=h _ _ e2 (by omega) hyb;have hg0:g≠0:=fun e=>by rw[e] at hb;simp at hb
  have hle:=w.le (by rw[e1];exact hg0) a ha (by rw[e1];exact hb);rw[e1,show y-1+1=y by omega] at hle;obtain⟨g',l',k1,k2,k3,k4,k5⟩:=Zd3 hn h r (g ||| 2^(y-1)) (y-1) e2 (by omega) hyb hd2 (fun z hz=>by
   obtain⟨z1,z2,z3⟩:=hr z (by simp[hz]);refine⟨z1,z2,?_⟩;have hne:y≠z:=fun e=>hd1 (e ▸ hz)
   rw[Nat.testBit_or,z3,Nat.testBit_two_pow_of_ne (by omega)]
   rfl)
  rw[show y-1+1=y by omega] at k5;refine⟨g',l',k1,k2,k3,fun j=>?_,?_⟩
  ·rw[k4,Nat.testBit_or,Bool.or_eq_true,List.mem_cons,or_assoc]
   refine or_congr Iff.rfl (or_congr ?_ Iff.rfl);rw[Nat.testBit_two_pow,decide_eq_true_iff];omega
  ·show _<=T g a+(Zb rows (a+1) y+Zx rows y r)
   omega
theorem Ud {n j:Nat} : (2^n-1).testBit j=decide (j<n):=Nat.testBit_two_pow_sub_one n j
theorem Zc0 (hn:n<=24)(h:WayOk rows n T Bk (2^n)){q:List Nat}(hq:(0::q).Perm (List.range (n+1)))(n1:1<=n) : ∃ l,l<n/\T (2^n-1) l+Zb rows (l+1) 0<=Zx rows 0 q:=by
 have hmem:∀ y,y∈0::q↔y<n+1:=fun y=>by rw[hq.mem_iff,List.mem_range]
 have hnd:(0::q).Nodup:=hq.nodup_iff.2 List.nodup_range;obtain⟨h0,hd⟩:=List.nodup_cons.1 hnd
 match q,hq,hmem,h0,hd with
 | [],hq,_,_,_ =>
  have:=hq.length_eq;simp at this;omega
 | x::r,hq,hmem,h0,hd =>
  have hx:x<n+1:=(hmem x).1 (by simp);have hx0:x≠0:=fun e=>h0 (by simp[e])
  have hg:2^(x-1)<2^n:=Nat.pow_lt_pow_right (by omega) (by omega);have hb:(2^(x-1)).testBit (x-1)=true:=Nat.testBit_two_pow_self;obtain⟨hd1,hd2⟩:=List.nodup_cons.1 hd;have e0:Zv (2^(x-1)) (x-1)=0:=Nat.eq_of_testBit_eq fun j=>by
   rw[Uc hn hg,Nat.testBit_two_pow]
   by_cases e:x-1=j<;>simp[e]
  have e1:=(h _ _ hg (by omega:x-1<n) hb).one e0;rw[show x-1+1=x by omega] at e1;obtain⟨g',l',k1,k2,k3,k4,k5⟩:=Zd3 hn h r (2^(x-1)) (x-1) hg (by omega) hb hd2 (fun z hz=>by
   have hz2:z<n+1:=(hmem z).1 (by simp[hz]);have hz0:z≠0:=fun e=>h0 (by simp[<-e,hz])
   have hne:x≠z:=fun e=>hd1 (e ▸ hz)
   exact⟨by omega,by omega,Nat.testBit_two_pow_of_ne (by omega)⟩)
  have eg:g'=2^n-1:=Nat.eq_of_testBit_eq fun j=>by
   rw[Ud,Bool.eq_iff_iff,k4,decide_eq_true_iff,Nat.testBit_two_pow,decide_eq_true_iff]
   constructor
   ·rintro (h1 | h1)
    ·omega
    ·have:=(hmem (j+1)).1 (by simp[h1])
     omega
   ·intro hj
    have h1:=(hmem (j+1)).2 (by omega);simp only[List.mem_cons] at h1;rcases h1 with h1 | h1 | h1
    ·omega
    ·left;omega
    ·exact .inr h1
  rw[eg] at k5;rw[show x-1+1=x by omega,e1] at k5;exact⟨l',k2,k5⟩
structure Trail (rows:List (List Int))(n:Nat)(T:Nat->Nat->Int)(C:Int)(g l:Nat)(ys:List Nat) : Prop where
 nod:ys.Nodup
 mem:∀ y,y∈ys↔1<=y/\y<=n/\g.testBit (y-1)=false
 lt:g<2^n
 go:g≠0->l<n/\g.testBit l=true/\C=T g l+Zx rows (l+1) ys
 fin:g=0->C=Zx rows 0 ys
theorem Trail.start {l:Nat}(n1:1<=n)(hl:l<n) : Trail rows n T (T (2^n-1) l+Zb rows (l+1) 0) (2^n-1) l [] where
 nod:=List.nodup_nil
 mem:=fun y=>by
  rw[Ud,decide_eq_false_iff_not];simp;omega
 lt:=by have:=Nat.two_pow_pos n;omega
 go:=fun _=>⟨hl,by rw[Ud];simpa using hl,rfl⟩
 fin:=fun e=>by
  have:2^1<=2^n:=Nat.pow_le_pow_right (by omega) n1;omega
theorem Trail.step {C:Int}{g l:Nat}{ys:List Nat}(hn:n<=24)(h:WayOk rows n T Bk (2^n))(t:Trail rows n T C g l ys)(hg:g≠0) : Trail rows n T C (Zv g l) (Bk g l) ((l+1)::ys)/\Zv g l<g:=by
 obtain⟨h1,h2,h3⟩:=t.go hg;have w:=h g l t.lt h1 h2;have hless:=W6 hn t.lt h2;have hlt:=t.lt;refine⟨⟨List.nodup_cons.2 ⟨fun hm=>?_,t.nod⟩,fun y=>?_,by omega,fun e=>?_,fun e=>?_⟩,hless⟩
 ·have:=((t.mem (l+1)).1 hm).2.2
  rw[Nat.add_sub_cancel,h2] at this
  cases this
 ·rw[List.mem_cons,t.mem,Uc hn t.lt]
  by_cases e:y=l+1
  ·subst e
   simp;omega
  ·by_cases e2:l=y-1
   ·have:y=0:=by omega
    subst this;simp
   ·simp[e,e2]
 ·obtain⟨k1,k2,k3⟩:=w.eq e
  refine⟨k1,k2,?_⟩;show C=T (Zv g l) (Bk g l)+(Zb rows (Bk g l+1) (l+1)+Zx rows (l+1) ys);rw[h3,k3];omega
 ·show C=Zb rows 0 (l+1)+Zx rows (l+1) ys
  rw[h3,w.one e]
theorem Trail.end {C:Int}{l:Nat}{ys:List Nat}(t:Trail rows n T C 0 l ys) : (0::ys).Perm (List.range (n+1))/\C=Zx rows 0 ys:=by
 refine⟨(List.perm_ext_iff_of_nodup (List.nodup_cons.2 ⟨fun hm=>?_,t.nod⟩) List.nodup_range).2 fun y=>?_,t.fin rfl⟩
 ·have:=((t.mem 0).1 hm).1
  omega
 ·rw[List.mem_cons,t.mem,List.mem_range]
  simp;omega
end
end Go.Proofs.YtmojhhlcocjoaaaGreatDoor
namespace Go.Proofs.YtmojhhlcocjoaaaGreatDoor
open Go.RowKit Go.ChangeShapes Go.WideShapes Go.ChangeAt Go.Deep
def Arr (w:World)(g n:Nat)(u:Nat->Int) : Prop:=Blk w g 3 (List.toArray ((List.range n).map fun i=>Value.int .i64 (u i)))
def ArrB (w:World)(g n:Nat)(u:Nat->Bool) : Prop:=Blk w g 4 (List.toArray ((List.range n).map fun i=>Value.bool (u i)))
section
variable {w w':World} {g n:Nat} {u v:Nat->Int} {p q:Nat->Bool}
theorem Arr.cell (h:Arr w g n u){k:Nat}(hk:k<n) : w.cell? ⟨g,k,none⟩=some (.int .i64 (u k)):=by
 rw[Blk.cell h];simp[hk]
theorem Arr.free (h:Arr w g n u)(k:Nat) : w.frozen? ⟨g,k,none⟩=false:=Blk.free h k
theorem Arr.lt (h:Arr w g n u) : g<w.heap.size:=Blk.lt h
theorem Arr.ext (h:Arr w g n u)(x:Ext w w') : Arr w' g n u:=Blk.ext h x
theorem Arr.mod {S:Nat->Prop}(h:Arr w g n u)(hm:Mod S w w')(hg:¬S g) : Arr w' g n u:=Blk.mod h hm hg
theorem Arr.far (h:Arr w g n u){a:Addr}(hp:g≠a.block)(x:Value) : Arr (w.setCell a x) g n u:=Blk.far h hp x
theorem Jl {α:Type}(f:Nat->α)(n k:Nat)(x:α) : ((List.range n).map f).set k x=(List.range n).map fun i=>if i=k then x else f i:=by
 refine List.ext_getElem? fun i=>?_
 rw[List.getElem?_set]
 by_cases hi:i<n
 ·by_cases e:k=i
  ·subst e;simp[hi]
  ·have e':¬i=k:=fun h=>e h.symm
   simp[e,e',hi]
 ·by_cases e:k=i
  ·subst e;simp[hi]
  ·simp[e,hi]
theorem Arr.set (h:Arr w g n u)(k:Nat)(x:Int) : Arr (w.setCell ⟨g,k,none⟩ (.int .i64 x)) g n (fun i=>if i=k then x else u i):=by
 have h1:=Blk.set h k (.int .i64 x);have e:(List.toArray ((List.range n).map fun i=>Value.int .i64 (u i))).setIfInBounds k (.int .i64 x)=List.toArray ((List.range n).map fun i=>Value.int .i64 (if i=k then x else u i)):=by
  rw[List.setIfInBounds_toArray,Jl]
  congr 1
  refine List.map_congr_left fun i _=>?_
  split<;>rfl
 rw[e] at h1;exact h1
theorem Arr.congr (h:Arr w g n u)(e:∀ i,i<n->u i=v i) : Arr w g n v:=by
 unfold Arr at h ⊢;have:((List.range n).map fun i=>Value.int .i64 (u i))=(List.range n).map fun i=>Value.int .i64 (v i):=List.map_congr_left fun i hi=>by rw[e i (List.mem_range.1 hi)]
 rwa [this] at h
theorem Arr.rdI (h:Arr w g n u) : RdI w (some ⟨g,0,none⟩) ((List.range n).map u):=RdI.blk h (by simp[Function.comp_def])
theorem Arr.ne {g':Nat}{t':TypeId}{cs':Array Value}(h:Arr w g n u)(h':Blk w g' t' cs')(hne:3≠t') : g≠g':=Blk.ne h h' hne
theorem Arr.of_own {base:Nat}{x:Int}(h:OwI w base (some ⟨g,0,none⟩) n (List.replicate n x)) : Arr w g n (fun _=>x):=by
 rcases h.cases with⟨e,_⟩ | ⟨g',cur,e,_,hg,_,_,hs,ht⟩
 ·cases e
 ·obtain rfl:g=g':=by simpa using e
  have hl:cur.toList.length=n:=by simpa using hs
  have h2:cur.toList=(List.replicate n x).map (Value.int .i64):=by
   rw[<-ht,List.length_replicate,Nat.mul_one,List.take_of_length_le (by omega)]
  have h3:cur=List.toArray ((List.range n).map fun _=>Value.int .i64 x):=Array.ext' (by rw[h2];simp[List.map_const']);unfold Arr Blk;rw[hg,h3]
theorem ArrB.cell (h:ArrB w g n p){k:Nat}(hk:k<n) : w.cell? ⟨g,k,none⟩=some (.bool (p k)):=by
 rw[Blk.cell h];simp[hk]
theorem ArrB.free (h:ArrB w g n p)(k:Nat) : w.frozen? ⟨g,k,none⟩=false:=Blk.free h k
theorem ArrB.lt (h:ArrB w g n p) : g<w.heap.size:=Blk.lt h
theorem ArrB.ext (h:ArrB w g n p)(x:Ext w w') : ArrB w' g n p:=Blk.ext h x
theorem ArrB.mod {S:Nat->Prop}(h:ArrB w g n p)(hm:Mod S w w')(hg:¬S g) : ArrB w' g n p:=Blk.mod h hm hg
theorem ArrB.far (h:ArrB w g n p){a:Addr}(hp:g≠a.block)(x:Value) : ArrB (w.setCell a x) g n p:=Blk.far h hp x
theorem ArrB.set (h:ArrB w g n p)(k:Nat)(x:Bool) : ArrB (w.setCell ⟨g,k,none⟩ (.bool x)) g n (fun i=>if i=k then x else p i):=by
 have h1:=Blk.set h k (.bool x);have e:(List.toArray ((List.range n).map fun i=>Value.bool (p i))).setIfInBounds k (.bool x)=List.toArray ((List.range n).map fun i=>Value.bool (if i=k then x else p i)):=by
  rw[List.setIfInBounds_toArray,Jl]
  congr 1
  refine List.map_congr_left fun i _=>?_
  split<;>rfl
 rw[e] at h1;exact h1
theorem ArrB.congr (h:ArrB w g n p)(e:∀ i,i<n->p i=q i) : ArrB w g n q:=by
 unfold ArrB at h ⊢;have:((List.range n).map fun i=>Value.bool (p i))=(List.range n).map fun i=>Value.bool (q i):=List.map_congr_left fun i hi=>by rw[e i (List.mem_range.1 hi)]
 rwa [this] at h
end
theorem Zc1 : (Tryz.prog.info? 4).map (fun i=>(i.zero,i.size,i.bytes))=some (some (.bool false),1,1):=by kernel_rfl
theorem ZbH (w:World){ops:Array Oper}{rest:List Oper}{o:Oper}{a:Act}{Q:Exit->Act->World->Prop}(hgd:o.guard=none)(l c:Operand)(hop:o.op=Op.makeSlice 188 l c)
  (L C:Int) (n:Nat) (hl:a.eval l=.int .i64 L) (hc:a.eval c=.int .i64 C) (hL:L=(n:Int)) (hC:C=(n:Int)) (hn:n<=2^44)
  (hK:∀ w',ArrB w' w.heap.size n (fun _=>false)->w.grownBy w' none->wpList Tryz.prog ops Q rest (a.put o.dst (.slice (some ⟨w.heap.size,0,none⟩) n n)) w') :
  wpList Tryz.prog ops Q (o::rest) a w:=by
 obtain⟨i0,hi,hz0,hz1,hz2⟩:=info_parts Zc1;refine wpList_make_full w hgd l c _ hop w.heap.size 4 i0 _ 1 Tryz.underlying188 hi hz0 hz1 .i64 .i64 L C n hl hc hL hC (by rw[hz2];omega) (by simp only[maxLen];omega) (Nat.le_refl _) (fun w' h2 h3=>hK w' ?_ h3);have e:(madeCells (Value.bool false).cells (n*1)).toList=(List.range n).map fun _=>Value.bool false:=by
  simp[madeCells,Value.cells,List.map_const',Nat.mod_one]
 rw[e] at h2;rcases(OwV.cases (e:=4) (size:=1) h2) with⟨e1,_⟩ | ⟨g',cur,e1,_,hg,_,_,hs,ht⟩
 ·cases e1
 ·obtain rfl:w.heap.size=g':=by simpa using e1
  have hl:cur.toList.length=n:=by simpa using hs
  have h3:cur=List.toArray ((List.range n).map fun _=>Value.bool false):=Array.ext' (by rw[<-ht,Nat.mul_one,List.take_of_length_le (by omega)]);unfold ArrB Blk;rw[hg,h3]
theorem Xq {ops:Array Oper}{i:Nat}{t:TypeId}{d:Option Tmp}{a:Act}{w:World}{K:Act->World->Prop}{Q:Exit->Act->World->Prop}{x y:Operand}(hi:Wl ops i=some (none,.makeSlice 22 x y,t,d))(n:Nat)(L:Int)(hx:a.eval x=.int .i64 L)(hy:a.eval y=.int .i64 L)(hL:L=(n:Int))(hn:n<=2^44)
  (hK:∀ w',Arr w' w.heap.size n (fun _=>0)->Ext w w'->K (a.put d (.slice (some ⟨w.heap.size,0,none⟩) n n)) w'):wpOp Tryz.prog ops Q i K a w:=by
 obtain⟨i0,hi0,hz0,hz1,hz2⟩:=info_parts Yp;subst hL;obtain⟨w',hrun,h2,h3⟩:=run_make_full (P:=Tryz.prog) w w.heap.size 22 3 i0 _ 1 Tryz.underlying22 hi0 hz0 hz1 .i64 .i64 n (by rw[hz2];omega) (by simp only[maxLen];omega) (Nat.le_refl _);have e:(madeCells (Value.int .i64 0).cells (n*1)).toList=(List.replicate n (0:Int)).map (Value.int .i64):=by
  simp[madeCells,Value.cells,List.map_const',Nat.mod_one]
 rw[e] at h2;refine ZB hi _ (by simp[Zd,execOp,hx,hy,hrun]) (hK w' (Arr.of_own (base:=w.heap.size) (by simpa [OwI] using h2)) ((Ext.rf _).grownNone h3))
end Go.Proofs.YtmojhhlcocjoaaaGreatDoor
namespace Go.Proofs.YtmojhhlcocjoaaaGreatDoor
open Go.RowKit Go.ChangeShapes Go.WideShapes Go.ChangeAt Go.Deep
structure WayM (w:World)(base tc N n G:Nat)(r:Nat->Nat)(T:Nat->Nat->Int) : Prop where
 tab:∃ cs,Blk w tc 22 cs/\cs.size=N/\∀ g,1<=g->g<G->cs[g]?=some (.slice (some ⟨r g,0,none⟩) n n)
 row:∀ g,1<=g->g<G->Arr w (r g) n (T g)/\base<=r g
section
variable {w w':World} {base tc N n G:Nat} {r:Nat->Nat} {T:Nat->Nat->Int}
theorem WayM.cell (h:WayM w base tc N n G r T){g:Nat}(h1:1<=g)(h2:g<G) : w.cell? ⟨tc,g,none⟩=some (.slice (some ⟨r g,0,none⟩) n n):=by
 obtain⟨cs,hb,_,hc⟩:=h.tab;rw[hb.cell];exact hc g h1 h2
theorem WayM.any (h:WayM w base tc N n G r T){g:Nat}(hg:g<N) : (∃ v,w.cell? ⟨tc,g,none⟩=some v)/\w.frozen? ⟨tc,g,none⟩=false/\tc<w.heap.size:=by
 obtain⟨cs,hb,hs,_⟩:=h.tab;exact⟨⟨cs[g],by rw[hb.cell];exact Array.getElem?_eq_getElem (by omega)⟩,hb.free g,hb.lt⟩
theorem WayM.num (h:WayM w base tc N n G r T){g l:Nat}(h1:1<=g)(h2:g<G)(hl:l<n) : w.cell? ⟨r g,l,none⟩=some (.int .i64 (T g l))/\r g<w.heap.size:=⟨(h.row g h1 h2).1.cell hl,(h.row g h1 h2).1.lt⟩
theorem WayM.mod {S:Nat->Prop}(h:WayM w base tc N n G r T)(m:Mod S w w')(hc:¬S tc)(hr:∀ g,1<=g->g<G->¬S (r g)) : WayM w' base tc N n G r T:=by
 obtain⟨cs,hb,hs,hcs⟩:=h.tab;exact⟨⟨cs,hb.mod m hc,hs,hcs⟩,fun g h1 h2=>⟨(h.row g h1 h2).1.mod m (hr g h1 h2),(h.row g h1 h2).2⟩⟩
theorem WayM.ext (h:WayM w base tc N n G r T)(x:Ext w w') : WayM w' base tc N n G r T:=h.mod (S:=fun _=>False) (Mod.of_ext x) (fun h=>h) (fun _ _ _ h=>h)
theorem WayM.congr {T':Nat->Nat->Int}(h:WayM w base tc N n G r T)(e:∀ g l,1<=g->g<G->l<n->T g l=T' g l) : WayM w base tc N n G r T' :=
 ⟨h.tab,fun g h1 h2=>⟨(h.row g h1 h2).1.congr fun l hl=>e g l h1 h2 hl,(h.row g h1 h2).2⟩⟩
theorem WayM.put (h:WayM w base tc N n G r T)(hG:G<N){q:Nat}{u:Nat->Int}(hq:Arr w q n u)(hb:base<=q) : WayM (w.setCell ⟨tc,G,none⟩ (.slice (some ⟨q,0,none⟩) n n)) base tc N n (G+1) (fun g=>if g=G then q else r g) (fun g=>if g=G then u else T g):=by
 obtain⟨cs,hB,hs,hcs⟩:=h.tab;refine⟨⟨cs.setIfInBounds G (.slice (some ⟨q,0,none⟩) n n),hB.set G _,by simpa using hs,fun g h1 h2=>?_⟩,fun g h1 h2=>?_⟩
 ·by_cases e:g=G
  ·subst e
   simp[Array.getElem?_setIfInBounds,hs,hG]
  ·rw[if_neg e,Array.getElem?_setIfInBounds,if_neg (fun h=>e h.symm)]
   exact hcs g h1 (by omega)
 ·by_cases e:g=G
  ·simp only[if_pos e]
   exact⟨hq.far (hq.ne hB (by decide)) _,hb⟩
  ·simp only[if_neg e]
   have h3:=h.row g h1 (by omega);exact⟨h3.1.far (h3.1.ne hB (by decide)) _,h3.2⟩
theorem WayM.last {u:Nat->Int}{S:Nat->Prop}(h:WayM w base tc N n (G+1) r T)(m:Mod S w w')(hc:¬S tc)(hr:∀ g,1<=g->g<G->¬S (r g))(hu:Arr w' (r G) n u)(h1:1<=G) : WayM w' base tc N n (G+1) r (fun g=>if g=G then u else T g):=by
 obtain⟨cs,hB,hs,hcs⟩:=h.tab;refine⟨⟨cs,hB.mod m hc,hs,hcs⟩,fun g h2 h3=>?_⟩
 by_cases e:g=G
 ·subst e
  simp only[if_true];exact⟨hu,(h.row g h2 h3).2⟩
 ·simp only[if_neg e]
  exact⟨(h.row g h2 h3).1.mod m (hr g h2 (by omega)),(h.row g h2 h3).2⟩
end
def ZC (f:Nat->Int)(m:Nat) : Nat->Int×Nat
 | 0=>(Ub,0)
 | k+1=>if m.testBit k=true then(if f k<(ZC f m k).1 then(f k,k) else ZC f m k) else ZC f m k
theorem VH {f:Nat->Int}{m:Nat} : ∀ {k:Nat},(∀ a,a<k->m.testBit a=true->f a<Ub)->(∀ a,a<k->m.testBit a=true->(ZC f m k).1<=f a)/\(ZC f m k=(Ub,0)\/((ZC f m k).2<k/\m.testBit (ZC f m k).2=true/\(ZC f m k).1=f (ZC f m k).2))/\((∃ a,a<k/\m.testBit a=true)->(ZC f m k).1<Ub)
 | 0,_=>⟨(fun a h=>by omega),Or.inl rfl,fun⟨a,h,_⟩=>by omega⟩
 | k+1,hf=>by
  obtain⟨i1,i2,i3⟩:=VH (f:=f) (m:=m) (k:=k) fun a h1 h2=>hf a (by omega) h2
  unfold ZC
  by_cases hb:m.testBit k=true
  ·rw[if_pos hb]
   have h9:=hf k (by omega) hb
   by_cases hl:f k<(ZC f m k).1
   ·rw[if_pos hl]
    refine⟨fun a h1 h2=>?_,.inr ⟨by simp,hb,rfl⟩,fun _=>h9⟩
    by_cases e:a=k
    ·subst e
     exact Int.le_refl _
    ·have:=i1 a (by omega) h2
     simp only;omega
   ·rw[if_neg hl]
    refine⟨fun a h1 h2=>?_,?_,fun _=>by omega⟩
    ·by_cases e:a=k
     ·subst e
      omega
     ·exact i1 a (by omega) h2
    ·rcases i2 with h | ⟨h1,h2,h3⟩
     ·exact .inl h
     ·exact .inr ⟨by omega,h2,h3⟩
  ·rw[if_neg hb]
   have hne:∀ a,a<k+1->m.testBit a=true->a<k:=fun a h1 h2=>by
    by_cases e:a=k
    ·subst e
     exact absurd h2 hb
    ·omega
   refine⟨fun a h1 h2=>i1 a (hne a h1 h2) h2,?_,fun⟨a,h1,h2⟩=>i3 ⟨a,hne a h1 h2,h2⟩⟩;rcases i2 with h | ⟨h1,h2,h3⟩
   ·exact .inl h
   ·exact .inr ⟨by omega,h2,h3⟩
def XB (rows:List (List Int))(n:Nat)(T:Nat->Nat->Int)(g l:Nat) : Int×Nat :=
 if g.testBit l=true then(if Zv g l=0 then(Zb rows 0 (l+1),0) else ZC (fun a=>T (Zv g l) a+Zb rows (a+1) (l+1)) (Zv g l) n) else(Ub,0)
theorem ZeH {rows:List (List Int)}{n:Nat}{T:Nat->Nat->Int}{Bk:Nat->Nat->Nat}{g l:Nat}(hn:n<=24)(hg:g<2^n)(hl:g.testBit l=true)
  (hf:∀ a,a<n->(Zv g l).testBit a=true->T (Zv g l) a+Zb rows (a+1) (l+1)<Ub) (hT:T g l=(XB rows n T g l).1) (hB:Bk g l=(XB rows n T g l).2):WayAt rows n T Bk g l:=by
 unfold XB at hT hB;rw[if_pos hl] at hT hB;have hless:=W6 hn hg hl;refine⟨fun e=>?_,fun e=>?_,fun e=>?_⟩
 ·rw[if_pos e] at hT
  exact hT
 ·rw[if_neg e] at hT
  obtain⟨h1,_,_⟩:=VH (f:=fun a=>T (Zv g l) a+Zb rows (a+1) (l+1)) (m:=Zv g l) (k:=n) hf;intro a ha hb;rw[hT];exact h1 a ha hb
 ·rw[if_neg e] at hT hB
  obtain⟨_,h2,h3⟩:=VH (f:=fun a=>T (Zv g l) a+Zb rows (a+1) (l+1)) (m:=Zv g l) (k:=n) hf;have hex:∃ a,a<n/\(Zv g l).testBit a=true:=by
   obtain⟨a,ha⟩:=Nat.exists_testBit_of_ne_zero e;refine⟨a,?_,ha⟩
   by_cases h:a<n
   ·exact h
   ·rw[Nat.testBit_lt_two_pow (Nat.lt_of_lt_of_le (by omega:Zv g l<2^n) (Nat.pow_le_pow_right (by omega) (by omega)))] at ha
    cases ha
  have h4:=h3 hex;rcases h2 with h2 | ⟨k1,k2,k3⟩
  ·rw[h2] at h4
   simp at h4
  ·rw[hB,hT]
   exact⟨k1,k2,k3⟩
end Go.Proofs.YtmojhhlcocjoaaaGreatDoor
namespace Go.Proofs.YtmojhhlcocjoaaaGreatDoor
theorem WayOk.next {rows:List (List Int)}{n g:Nat}{T:Nat->Nat->Int}{Bk:Nat->Nat->Nat}(hn:n<=11)(hg:g<2^n)(h:WayOk rows n T Bk g)(num:∀ a b,a<n+1->b<n+1->0<=Zb rows a b/\Zb rows a b<=2147483647) :
  WayOk rows n (fun x j=>if x=g then(XB rows n T g j).1 else T x j) (fun x j=>if x=g then(XB rows n T g j).2 else Bk x j) (g+1):=by
 intro x l hx hl hb;have hx2:x<2^n:=by omega
 have hless:=W6 (n:=n) (by omega) hx2 hb;have p11:2^n<=2^11:=Nat.pow_le_pow_right (by omega) hn
 by_cases e:x=g
 ·subst e
  have ew:XB rows n (fun y j=>if y=x then(XB rows n T x j).1 else T y j) x l=XB rows n T x l:=by
   unfold XB;simp only[if_neg (show ¬Zv x l=x by omega)]
  refine ZeH (by omega) hx2 hb (fun a ha hab=>?_) (by rw[ew];simp) (by rw[ew];simp);simp only[if_neg (show ¬Zv x l=x by omega)];have h1:=WayOk.bd (n:=n) (by omega) (by omega) h num (Zv x l) a hless ha hab;have h2:=num (a+1) (l+1) (by omega) (by omega);unfold Ub;have h3:((Zv x l:Nat):Int)<=2048:=by omega
  generalize ((Zv x l:Nat):Int)=z at *;omega
 ·have w:=h x l (by omega) hl hb
  refine⟨fun h0=>?_,fun h0 a ha hab=>?_,fun h0=>?_⟩
  ·simp only[if_neg e]
   exact w.one h0
  ·simp only[if_neg e,if_neg (show ¬Zv x l=g by omega)]
   exact w.le h0 a ha hab
  ·obtain⟨k1,k2,k3⟩:=w.eq h0
   simp only[if_neg e,if_neg (show ¬Zv x l=g by omega)];exact⟨k1,k2,k3⟩
end Go.Proofs.YtmojhhlcocjoaaaGreatDoor
namespace Go.Proofs.YtmojhhlcocjoaaaGreatDoor
open Go
theorem ZbI (a b:Nat)(ha:a<18446744073709551616) : ZK a b<=a:=by
 have e:a &&& ZK a b=ZK a b:=Nat.eq_of_testBit_eq fun j=>by
  rw[Nat.testBit_and,WN ha]
  cases a.testBit j<;>simp
 rw[<-e];exact Nat.and_le_left
theorem UT (a b:Nat)(ha:a<9223372036854775808)(hb:b<9223372036854775808) : bits .andNot .i64 (a:Int) (b:Int)=((ZK a b:Nat):Int):=by
 have h1:BitVec.ofInt 64 (a:Int)=BitVec.ofNat 64 a:=BitVec.ofInt_natCast ..;have h2:BitVec.ofInt 64 (b:Int)=BitVec.ofNat 64 b:=BitVec.ofInt_natCast ..;show IntKind.i64.wrap ((BitVec.ofInt 64 (a:Int) &&& ~~~ BitVec.ofInt 64 (b:Int)).toNat:Int)=_;rw[h1,h2];have:=ZbI a b (by omega);unfold ZK at this ⊢;exact IntWalk.i64_in _ (by omega)
theorem JL (a b:Nat)(ha:a<9223372036854775808)(hb:b<9223372036854775808) : bits .and .i64 (a:Int) (b:Int)=((a &&& b:Nat):Int):=by
 have h1:BitVec.ofInt 64 (a:Int)=BitVec.ofNat 64 a:=BitVec.ofInt_natCast ..;have h2:BitVec.ofInt 64 (b:Int)=BitVec.ofNat 64 b:=BitVec.ofInt_natCast ..;show IntKind.i64.wrap ((BitVec.ofInt 64 (a:Int) &&& BitVec.ofInt 64 (b:Int)).toNat:Int)=_;rw[h1,h2,BitVec.toNat_and,BitVec.toNat_ofNat,BitVec.toNat_ofNat,Nat.mod_eq_of_lt (by omega),Nat.mod_eq_of_lt (by omega)];have:=Nat.and_le_left (n:=a) (m:=b);exact IntWalk.i64_in _ (by omega)
theorem Ue (m n:Nat)(hm:m<9223372036854775808) : (bits BinOp.and IntKind.i64 ((m:Int) / 2^n) 1==0) = !m.testBit n:=by
 have e:((m:Int) / 2^n)=((m / 2^n:Nat):Int):=by rw[Int.natCast_ediv,Int.natCast_pow];rfl
 have hlt:m / 2^n<9223372036854775808:=Nat.lt_of_le_of_lt (Nat.div_le_self _ _) hm;have h:=JL (m / 2^n) 1 hlt (by omega);rw[e,show ((1:Int))=((1:Nat):Int) from rfl,h,Nat.and_one_is_mod,ZbR];split<;>rename_i hb
 ·rw[hb];rfl
 ·simp at hb;rw[hb];rfl
theorem Xm (n:Nat)(hn:n<62) : IntKind.i64.wrap ((2:Int)^n)=((2^n:Nat):Int):=by
 have h1:2^n<2^62:=Nat.pow_lt_pow_right (by omega) hn;have e2:((2:Int)^n)=((2^n:Nat):Int):=by rw[Int.natCast_pow];rfl
 rw[e2];generalize 2^n=p at *;exact IntWalk.i64_in _ (by omega)
theorem Zb6 (g l:Nat)(hg:g<9223372036854775808)(hl:l<62) : bits .andNot .i64 (g:Int) ((2^l:Nat):Int)=((Zv g l:Nat):Int):=by
 have h1:2^l<2^62:=Nat.pow_lt_pow_right (by omega) hl;exact UT g (2^l) hg (by omega)
end Go.Proofs.YtmojhhlcocjoaaaGreatDoor
namespace Go.Proofs.YtmojhhlcocjoaaaGreatDoor
open Go.RowKit
section
variable {P:Program} {ops:Array Oper} {Q:Exit->Act->World->Prop}
theorem W7 {σ:Type}(rem:List (Nat×Option Tmp))(R:σ->World->Prop)(V:Nat->Value->σ->World->Prop)(Stab:σ->World->σ->World->Prop){listed0:Array Bool}(listed1:Array Bool)(hok:Wk ops listed0 listed1 rem=true)
  (stab:∀ j v s w s' w',V j v s w->Stab s w s' w'->V j v s' w')
  {a0:Act}
  (step:∀ p∈rem,∀ u s w,R s w->(∀ j∈Xf ops rem p.1,V j (u j) s w)->∀ K:Act->World->Prop,(∀ v s' w',V p.1 v s' w'->R s' w'->Stab s w s' w'->K ((Zj a0 rem u).put p.2 v) w')->wpOp P ops Q p.1 K (Zj a0 rem u) w)
  (n:Nat) (done:∀ u s w,R s w->(∀ p∈rem,V p.1 (u p.1) s w)->wpAny P .any ops Q n listed1 (Zj a0 rem u) w) {s0:σ} {w0:World} (hR:R s0 w0) :
  wpAny P .any ops Q (rem.length+n) listed0 a0 w0 :=
 UG rem (fun _=>[]) R V (fun _=>Stab) listed1 hok (by simp[ZaY]) (fun _ j v s w s' w' _=>stab j v s w s' w') step n (fun u s w hR h=>done u s w hR fun p hp=>h p hp rfl) hR
end
end Go.Proofs.YtmojhhlcocjoaaaGreatDoor
namespace Go.Proofs.YtmojhhlcocjoaaaGreatDoor
open Go.RowKit Go.ChangeShapes Go.WideShapes Go.ChangeAt Go.Deep
structure FillS (rows:List (List Int))(n N:Nat)(w wr:World)(base tc tb g:Nat) : Prop where
 mod:Mod (fun b=>b=tc\/b=tb) w wr
 tabs:∃ r r2 T Bk,WayM wr base tc N n g r T/\WayM wr base tb N n g r2 (fun g l=>((Bk g l:Nat):Int))/\WayOk rows n T Bk g/\(∀ a b,1<=a->a<g->1<=b->b<g->r a≠r2 b)
theorem WayM.putF {w w':World}{base tc N n G q:Nat}{r:Nat->Nat}{T:Nat->Nat->Int}{u:Nat->Int}{cs:Array Value}(h:WayM w base tc N n G r T)(hb:Blk w tc 22 cs)(hs:cs.size=N)(hc:∀ g,1<=g->g<G->cs[g]?=some (.slice (some ⟨r g,0,none⟩) n n))(hG:G<N)(m:Mod (fun b=>b=tc) w w')
  (hF:Blk w' tc 22 (cs.setIfInBounds G (.slice (some ⟨q,0,none⟩) n n))) (hq:Arr w' q n u) (hbq:base<=q):WayM w' base tc N n (G+1) (fun g=>if g=G then q else r g) (fun g=>if g=G then u else T g):=by
 refine⟨⟨_,hF,by simpa using hs,fun g h1 h2=>?_⟩,fun g h1 h2=>?_⟩
 ·by_cases e:g=G
  ·subst e
   simp[Array.getElem?_setIfInBounds,hs,hG]
  ·rw[if_neg e,Array.getElem?_setIfInBounds,if_neg (fun h=>e h.symm)]
   exact hc g h1 (by omega)
 ·by_cases e:g=G
  ·simp only[if_pos e]
   exact⟨hq,hbq⟩
  ·simp only[if_neg e]
   have h3:=h.row g h1 (by omega);exact⟨h3.1.mod m (h3.1.ne hb (by decide)),h3.2⟩
structure RowS (co:List (List Int))(n:Nat)(T:Nat->Nat->Int)(g qa qb l:Nat)(w wr:World) : Prop where
 mod:Mod (fun b=>b=qa\/b=qb) w wr
 a:Arr wr qa n (fun j=>if j<l then(XB co n T g j).1 else 0)
 b:Arr wr qb n (fun j=>((if j<l then(XB co n T g j).2 else 0:Nat):Int))
structure RowAh (co:List (List Int))(n:Nat)(T:Nat->Nat->Int)(g rs qa qb l k:Nat)(w wr:World) : Prop where
 mod:Mod (fun b=>b=qa\/b=qb) w wr
 a:Arr wr qa n (fun j=>if j=l then(ZC (fun a=>T rs a+Zb co (a+1) (l+1)) rs k).1 else if j<l then(XB co n T g j).1 else 0)
 b:Arr wr qb n (fun j=>((if j=l then(ZC (fun a=>T rs a+Zb co (a+1) (l+1)) rs k).2 else if j<l then(XB co n T g j).2 else 0:Nat):Int))
section
variable {co:List (List Int)} {n:Nat} {T:Nat->Nat->Int} {g rs qa qb l k:Nat} {w wr:World}
theorem RowAh.rows (h:RowAh co n T g rs qa qb l n w wr)(hb:g.testBit l=true)(hr:Zv g l=rs)(h0:rs≠0) : RowS co n T g qa qb (l+1) w wr:=by
 have wN:XB co n T g l=ZC (fun a=>T rs a+Zb co (a+1) (l+1)) rs n:=by
  unfold XB;rw[if_pos hb,hr,if_neg h0]
 refine⟨h.mod,h.a.congr fun j _=>?_,h.b.congr fun j _=>?_⟩
 ·by_cases e:j=l
  ·subst e
   rw[if_pos rfl,if_pos (by omega),wN]
  ·simp only[if_neg e]
   by_cases e2:j<l
   ·simp only[if_pos e2,if_pos (show j<l+1 by omega)]
   ·simp only[if_neg e2,if_neg (show ¬j<l+1 by omega)]
 ·by_cases e:j=l
  ·subst e
   rw[if_pos rfl,if_pos (by omega),wN]
  ·simp only[if_neg e]
   by_cases e2:j<l
   ·simp only[if_pos e2,if_pos (show j<l+1 by omega)]
   ·simp only[if_neg e2,if_neg (show ¬j<l+1 by omega)]
theorem RowAh.same (h:RowAh co n T g rs qa qb l k w wr)(e:ZC (fun a=>T rs a+Zb co (a+1) (l+1)) rs (k+1)=ZC (fun a=>T rs a+Zb co (a+1) (l+1)) rs k) : RowAh co n T g rs qa qb l (k+1) w wr :=
 ⟨h.mod,h.a.congr fun j _=>by rw[e],h.b.congr fun j _=>by rw[e]⟩
theorem RowAh.take (h:RowAh co n T g rs qa qb l k w wr)(hn:qa≠qb){c:Int}(e:ZC (fun a=>T rs a+Zb co (a+1) (l+1)) rs (k+1)=(c,k)) :
  RowAh co n T g rs qa qb l (k+1) w ((wr.setCell ⟨qa,l,none⟩ (.int .i64 c)).setCell ⟨qb,l,none⟩ (.int .i64 k)):=by
 refine⟨(h.mod.set (p:=⟨qa,l,none⟩) (.inl (.inl rfl)) _).set (p:=⟨qb,l,none⟩) (.inl (.inr rfl)) _,((h.a.set l c).far (a:=⟨qb,l,none⟩) hn _).congr fun j _=>?_,((h.b.far (a:=⟨qa,l,none⟩) (fun e=>hn e.symm) _).set l (k:Int)).congr fun j _=>?_⟩
 ·rw[e]
  by_cases e2:j=l<;>simp[e2]
 ·rw[e]
  by_cases e2:j=l<;>simp[e2]
end
def FormF (csT:Array Value)(n g base tc:Nat)(T:Nat->Nat)(W:World) : Prop:=∃ h,Blk W tc 22 (csT.setIfInBounds g (.slice (some ⟨h,0,none⟩) n n))/\Arr W h n (fun _=>0)/\base<=h/\T h=11
theorem FormF.ext {csT:Array Value}{n g base tc:Nat}{T T':Nat->Nat}{W W':World}(f:FormF csT n g base tc T W)(x:Ext W W')(hT:∀ h,h<W.heap.size->T' h=T h) : FormF csT n g base tc T' W':=by
 obtain⟨h,h1,h2,h3,h4⟩:=f;exact⟨h,h1.ext x,h2.ext x,h3,by rw[hT h h2.lt];exact h4⟩
theorem FormF.of {csT:Array Value}{n g base tc h:Nat}{T:Nat->Nat}{W:World}(f:Blk W tc 22 csT\/FormF csT n g base tc T W)(a:Arr W h n (fun _=>0))(hb:base<=h)(hT:T h=11) : FormF csT n g base tc T (W.setCell ⟨tc,g,none⟩ (.slice (some ⟨h,0,none⟩) n n)):=by
 rcases f with b | ⟨h',b,_⟩
 ·exact⟨h,b.set g _,a.far (a.ne b (by decide)) _,hb,hT⟩
 ·refine⟨h,?_,a.far (a.ne b (by decide)) _,hb,hT⟩
  have:=b.set g (.slice (some ⟨h,0,none⟩) n n);rw[Array.setIfInBounds_setIfInBounds] at this;exact this
theorem FormF.can {csT:Array Value}{n g base tc:Nat}{T:Nat->Nat}{W:World}(f:Blk W tc 22 csT\/FormF csT n g base tc T W)(hv:∃ v,csT[g]?=some v) : (∃ v,W.cell? ⟨tc,g,none⟩=some v)/\W.frozen? ⟨tc,g,none⟩=false:=by
 obtain⟨v,hv⟩:=hv;rcases f with b | ⟨h',b,_⟩
 ·exact⟨⟨v,by rw[b.cell];exact hv⟩,b.free g⟩
 ·refine⟨⟨.slice (some ⟨h',0,none⟩) n n,?_⟩,b.free g⟩
  rw[b.cell,Array.getElem?_setIfInBounds_self_of_lt];exact(Array.getElem?_eq_some_iff.1 hv).1
theorem Zd4 (i:InstP)(us:List Value)(w0 w:World)(H:RInst w0 us i)(X:Ext w0 w)(rok:RowsOk i.cost)(n N gp tc tb:Nat)(hn:i.n=n+1)(hl:i.cost.length=n+1)(n1:1<=n)(n11:n<=11)(hN:N=2^n)
  (hP:Blk w gp 137 #[.slice (some ⟨tc,0,none⟩) N N,.slice (some ⟨tb,0,none⟩) N N]) (S1:FillS i.cost n N w w w0.heap.size tc tb 1) (hc:w0.heap.size<=tc) (hb:w0.heap.size<=tb) (hcb:tc≠tb) :
  Calls Tryz.prog 84 #[.pointer (some ⟨gp,0,none⟩),.agg (List.toArray us)] w fun e w'=>e=.returned (.tuple #[])/\FillS i.cost n N w w' w0.heap.size tc tb N:=by
 have num:=Xe rok;obtain⟨kind,nn,cap,xw,xv,co⟩:=i;obtain⟨A,a,B,b,D,d,rfl,-,-,hC⟩:=H;simp only at *;subst hn;have PM:∀ W,Mod (fun b=>b=tc\/b=tb) w W->Blk W gp 137 #[.slice (some ⟨tc,0,none⟩) N N,.slice (some ⟨tb,0,none⟩) N N]:=fun W m=>hP.mod m (by
  obtain⟨_,_,_,_,h1,h2,_⟩:=S1.tabs;obtain⟨cs,h3,_⟩:=h1.tab;obtain⟨cs2,h4,_⟩:=h2.tab;rintro (e | e)
  ·exact Blk.ne hP h3 (by decide) e
  ·exact Blk.ne hP h4 (by decide) e)
 have N2:N<=2048:=by
  have:2^n<=2^11:=Nat.pow_le_pow_right (by omega) n11;omega
 have N3:2<=N:=by
  have:2^1<=2^n:=Nat.pow_le_pow_right (by omega) n1;omega
 have SH:IntKind.i64.wrap ((2:Int)^n)=(N:Int):=by rw[hN];exact Xm n (by omega)
 have w1:IntKind.i64.wrap ((n:Int)+1-1)=(n:Int):=by rw[show (n:Int)+1-1=(n:Int) by omega];exact IntWalk.i64_in _ (by omega)
 replace S1:=Hd S1;replace PM:=Hd PM;replace num:=Hd num;replace rok:=Hd rok;replace hC:=Hd hC;replace hN:=Hd hN;replace X:=Hd X;have B1:Hid (Blk (w.alloc (.cells #[.int .i64 kind,.int .i64 (n+1),.int .i64 cap,.slice A xw.length a,.slice B xv.length b,.slice D co.length d] 25)) w.heap.size 25 #[.int .i64 kind,.int .i64 (n+1),.int .i64 cap,.slice A xw.length a,.slice B xv.length b,.slice D co.length d]):=.new rfl;have X1:Hid (Ext w (w.alloc (.cells #[.int .i64 kind,.int .i64 (n+1),.int .i64 cap,.slice A xw.length a,.slice B xv.length b,.slice D co.length d] 25))):=(Ext.rf _).alloc _;rw[hl] at B1 X1 ⊢;replace hl:=Hd hl;clear hP;go_enter Tryz.func84,Tryz.ntmps84;go_upto_region 2 with(fail);generalize w.alloc (.cells #[.int .i64 kind,.int .i64 (n+1),.int .i64 cap,.slice A xw.length a,.slice B xv.length b,.slice D (n+1) d] 25)=w1 at *;obtain⟨gi,hgi⟩:∃ gi,gi=w.heap.size:=⟨_,rfl⟩;rw[<-hgi] at B1 ⊢;replace hgi:=Hd hgi;have S2:Hid (FillS co n N w w1 w0.heap.size tc tb 1):=by
  obtain⟨r,r2,T,Bk,h1,h2,h3,h4⟩:=S1.out.tabs;exact⟨S1.out.mod.ext X1.out,r,r2,T,Bk,h1.ext X1.out,h2.ext X1.out,h3,h4⟩
 go_wp2_with (fail);go_loopw [5] (fun v5 wr=>∃ g:Nat,v5=.int .i64 g/\1<=g/\g<=N/\Hid (FillS co n N w wr w0.heap.size tc tb g)/\Hid (Blk wr gi 25 #[.int .i64 kind,.int .i64 (n+1),.int .i64 cap,.slice A xw.length a,.slice B xv.length b,.slice D (n+1) d])) (fun v5 _=>N-(intOf v5).toNat)
 case atStart=>exact⟨1,rfl,by omega,by omega,S2,B1⟩
 case round =>
  clear S2 B1;obtain⟨wo,rfl⟩:∃ wo:World,wo=wr:=⟨_,rfl⟩;obtain⟨g,rfl,hg1,hg2,FS,Bi⟩:=hrel
  by_cases hlt:g<N
  ·have q1:(g:Int)<(N:Int):=by omega
   obtain⟨r,r2,T,Bk,hT,hB,hW,hR⟩:=FS.out.tabs;have Pp:=PM.out wo FS.out.mod;have zc:=(hT.any hlt).2.2;have zb:=(hB.any hlt).2.2;have zl:=FS.out.mod.size;have zw0:=X.out.size;replace hT:=Hd hT;replace hB:=Hd hB;replace hW:=Hd hW;replace hR:=Hd hR;replace Pp:=Hd Pp;go_wp2_with (fail);refine wp_region_any (by kernel_rfl) ?_
   change wpAny _ _ _ _ _ _ _ (World.drew _)
   refine Za (i:=0) (op:=Op.move (Operand.tmp 0)) (t:=135) (d:=some 19) (v:=?_) rfl (by decide +kernel) (by decide +kernel) (by decide +kernel) (fun _ _ _ h=>h) ?_ ?_
   case refine_2=>(intro _;unfold Zd;go_simp;try with_reducible rfl)
   try simp only[lay]
   refine Za (i:=1) (op:=Op.nilCheck (Operand.tmp 19)) (t:=0) (d:=some 20) (v:=?_) rfl (by decide +kernel) (by decide +kernel) (by decide +kernel) (fun _ _ _ h=>h) ?_ ?_
   case refine_2=>(intro _;unfold Zd;go_simp;try with_reducible rfl)
   try simp only[lay]
   refine Za (i:=2) (op:=Op.fieldAddr 137 (Operand.tmp 20) 0) (t:=0) (d:=some 21) (v:=?_) rfl (by decide +kernel) (by decide +kernel) (by decide +kernel) (fun _ _ _ h=>h) ?_ ?_
   case refine_2=>(intro _;unfold Zd;go_simp;try with_reducible rfl)
   try simp only[lay]
   refine Za (i:=4) (op:=Op.move (Operand.tmp 5)) (t:=3) (d:=some 23) (v:=?_) rfl (by decide +kernel) (by decide +kernel) (by decide +kernel) (fun _ _ _ h=>h) ?_ ?_
   case refine_2=>(intro _;unfold Zd;go_simp;try with_reducible rfl)
   try simp only[lay]
   refine Za (i:=5) (op:=Op.move (Operand.tmp 0)) (t:=135) (d:=some 24) (v:=?_) rfl (by decide +kernel) (by decide +kernel) (by decide +kernel) (fun _ _ _ h=>h) ?_ ?_
   case refine_2=>(intro _;unfold Zd;go_simp;try with_reducible rfl)
   try simp only[lay]
   refine Za (i:=6) (op:=Op.nilCheck (Operand.tmp 24)) (t:=0) (d:=some 25) (v:=?_) rfl (by decide +kernel) (by decide +kernel) (by decide +kernel) (fun _ _ _ h=>h) ?_ ?_
   case refine_2=>(intro _;unfold Zd;go_simp;try with_reducible rfl)
   try simp only[lay]
   refine Za (i:=7) (op:=Op.fieldAddr 137 (Operand.tmp 25) 1) (t:=0) (d:=some 26) (v:=?_) rfl (by decide +kernel) (by decide +kernel) (by decide +kernel) (fun _ _ _ h=>h) ?_ ?_
   case refine_2=>(intro _;unfold Zd;go_simp;try with_reducible rfl)
   try simp only[lay]
   refine Za (i:=9) (op:=Op.move (Operand.tmp 5)) (t:=3) (d:=some 28) (v:=?_) rfl (by decide +kernel) (by decide +kernel) (by decide +kernel) (fun _ _ _ h=>h) ?_ ?_
   case refine_2=>(intro _;unfold Zd;go_simp;try with_reducible rfl)
   try simp only[lay]
   refine Za (i:=10) (op:=Op.move (Operand.tmp 4)) (t:=3) (d:=some 29) (v:=?_) rfl (by decide +kernel) (by decide +kernel) (by decide +kernel) (fun _ _ _ h=>h) ?_ ?_
   case refine_2=>(intro _;unfold Zd;go_simp;try with_reducible rfl)
   try simp only[lay]
   refine Za (i:=12) (op:=Op.move (Operand.tmp 4)) (t:=3) (d:=some 31) (v:=?_) rfl (by decide +kernel) (by decide +kernel) (by decide +kernel) (fun _ _ _ h=>h) ?_ ?_
   case refine_2=>(intro _;unfold Zd;go_simp;try with_reducible rfl)
   try simp only[lay]
   obtain⟨csT,bT0,sT,hcsT⟩:=hT.out.tab;obtain⟨csB,bB0,_⟩:=hB.out.tab;have vT:∃ v,csT[g]?=some v:=⟨csT[g],Array.getElem?_eq_getElem (by omega)⟩;refine W7 (n:=2) (σ:=Nat->Nat) [(3,some 22),(8,some 27),(11,some 30),(13,some 32),(14,some 33),(15,none)]
    (fun T W=>Mod (fun b=>b=tc) wo W/\(Blk W tc 22 csT\/FormF csT n g wo.heap.size tc T W))
    (fun i v T W=>(i=3->v=.slice (some ⟨tc,0,none⟩) N N)/\(i=8->v=.slice (some ⟨tb,0,none⟩) N N)/\(i=11\/i=13->∃ h,v=.slice (some ⟨h,0,none⟩) n n/\Arr W h n (fun _=>0)/\wo.heap.size<=h/\T h=i)/\(i=14->v=.pointer (some ⟨tc,g,none⟩))/\(i=15->FormF csT n g wo.heap.size tc T W))
    (fun T W T' W'=>Mod (fun b=>b=tc) W W'/\(∀ h,h<W.heap.size->T' h=T h)/\(FormF csT n g wo.heap.size tc T W->FormF csT n g wo.heap.size tc T' W')) #[true,true,true,true,true,true,true,true,true,true,true,true,true,true,true,true,false,false] (by decide +kernel) ?_ ?_ ?_ (s0:=fun _=>0) ⟨(Mod.rf _).drew,.inl bT0.drew⟩
   ·rintro j v T W T' W' ⟨h1,h2,h3,h4,h5⟩ ⟨hx,hT,hF⟩
    refine⟨h1,h2,fun hj=>?_,h4,fun hj=>hF (h5 hj)⟩;obtain⟨h,k1,k2,k3,k4⟩:=h3 hj;exact⟨h,k1,k2.mod hx (by omega),k3,by rw[hT h k2.lt];exact k4⟩
   ·intro pq hpm u T W hRW hD K hK
    obtain⟨hMW,hTW⟩:=hRW;have bpw:Blk W gp 137 #[.slice (some ⟨tc,0,none⟩) N N,.slice (some ⟨tb,0,none⟩) N N]:=Pp.out.mod hMW (Blk.ne Pp.out bT0 (by decide));have c0:=bpw.c0;have c1:=bpw.c1;have MK:∀ (i:Nat) (W':World),i=11\/i=13->Arr W' W.heap.size n (fun _=>0)->Ext W W'->((i=3->Value.slice (some ⟨W.heap.size,0,none⟩) n n=.slice (some ⟨tc,0,none⟩) N N)/\(i=8->Value.slice (some ⟨W.heap.size,0,none⟩) n n=.slice (some ⟨tb,0,none⟩) N N)/\(i=11\/i=13->∃ h,Value.slice (some ⟨W.heap.size,0,none⟩) n n=.slice (some ⟨h,0,none⟩) n n/\Arr W' h n (fun _=>0)/\wo.heap.size<=h/\(fun x=>if x=W.heap.size then i else T x) h=i)/\(i=14->Value.slice (some ⟨W.heap.size,0,none⟩) n n=.pointer (some ⟨tc,g,none⟩))/\(i=15->FormF csT n g wo.heap.size tc (fun x=>if x=W.heap.size then i else T x) W'))/\(Mod (fun b=>b=tc) wo W'/\(Blk W' tc 22 csT\/FormF csT n g wo.heap.size tc (fun x=>if x=W.heap.size then i else T x) W'))/\(Mod (fun b=>b=tc) W W'/\(∀ h,h<W.heap.size->(fun x=>if x=W.heap.size then i else T x) h=T h)/\(FormF csT n g wo.heap.size tc T W->FormF csT n g wo.heap.size tc (fun x=>if x=W.heap.size then i else T x) W')):=fun i W' hi a x=>by
     have tg:∀ h,h<W.heap.size->(fun x=>if x=W.heap.size then i else T x) h=T h:=fun h hh=>if_neg (by omega)
     have ff:FormF csT n g wo.heap.size tc T W->FormF csT n g wo.heap.size tc (fun x=>if x=W.heap.size then i else T x) W':=fun f=>f.ext x tg
     exact⟨⟨(fun h=>by omega),(fun h=>by omega),(fun _=>⟨_,rfl,a,hMW.size,if_pos rfl⟩),(fun h=>by omega),(fun h=>by omega)⟩,⟨hMW.ext x,hTW.elim (fun b=>.inl (b.ext x)) fun f=>.inr (ff f)⟩,Mod.of_ext x,tg,ff⟩
    have ID:Mod (fun b=>b=tc) W W/\(∀ h,h<W.heap.size->T h=T h)/\(FormF csT n g wo.heap.size tc T W->FormF csT n g wo.heap.size tc T W):=⟨Mod.rf _,fun _ _=>rfl,fun f=>f⟩;simp only[List.mem_cons,List.not_mem_nil,or_false] at hpm;rcases hpm with rfl | rfl | rfl | rfl | rfl | rfl
    ·exact Zo (T:=23) rfl (.pointer (some ⟨gp,0,none⟩)) (by kernel_rfl) (.slice (some ⟨tc,0,none⟩) N N) (by go_simp) (hK _ T W ⟨fun _=>rfl,(fun h=>by cases h),(fun h=>by omega),(fun h=>by cases h),(fun h=>by cases h)⟩ ⟨hMW,hTW⟩ ID)
    ·exact Zo (T:=23) rfl (.pointer (some ⟨gp,1,none⟩)) (by kernel_rfl) (.slice (some ⟨tb,0,none⟩) N N) (by go_simp) (hK _ T W ⟨(fun h=>by cases h),fun _=>rfl,(fun h=>by omega),(fun h=>by cases h),(fun h=>by cases h)⟩ ⟨hMW,hTW⟩ ID)
    ·exact Xq rfl n (n:Int) (by kernel_rfl) (by kernel_rfl) rfl (by omega) fun W' a x=>hK _ _ _ (MK 11 W' (.inl rfl) a x).1 (MK 11 W' (.inl rfl) a x).2.1 (MK 11 W' (.inl rfl) a x).2.2
    ·exact Xq rfl n (n:Int) (by kernel_rfl) (by kernel_rfl) rfl (by omega) fun W' a x=>hK _ _ _ (MK 13 W' (.inr rfl) a x).1 (MK 13 W' (.inr rfl) a x).2.1 (MK 13 W' (.inr rfl) a x).2.2
    ·have h3:=(hD 3 (Zm (by kernel_rfl))).1 rfl
     exact ZU (T:=23) rfl (.slice (some ⟨tc,0,none⟩) N N) (.int .i64 g) (Eq.trans (b:=u 3) (by kernel_rfl) h3) (by kernel_rfl) (.pointer (some ⟨tc,g,none⟩)) (by go_simp) (hK _ T W ⟨(fun h=>by cases h),(fun h=>by cases h),(fun h=>by omega),(fun _=>rfl),(fun h=>by cases h)⟩ ⟨hMW,hTW⟩ ID)
    ·have h14:=(hD 14 (Zm (by kernel_rfl))).2.2.2.1 rfl
     obtain⟨h,h11,a11,z11,e11⟩:=(hD 11 (Zm (by kernel_rfl))).2.2.1 (.inl rfl);have NF:FormF csT n g wo.heap.size tc T (W.setCell ⟨tc,g,none⟩ (.slice (some ⟨h,0,none⟩) n n)):=FormF.of hTW a11 z11 e11;obtain⟨⟨vc,kc⟩,fc⟩:(∃ v,W.cell? ⟨tc,g,none⟩=some v)/\W.frozen? ⟨tc,g,none⟩=false:=FormF.can hTW vT;exact Yo rfl (.pointer (some ⟨tc,g,none⟩)) (.slice (some ⟨h,0,none⟩) n n) (Eq.trans (b:=u 14) (by kernel_rfl) h14) (Eq.trans (b:=u 11) (by kernel_rfl) h11) (by go_simp) (hK undef T _ ⟨(fun h=>by cases h),(fun h=>by cases h),(fun h=>by omega),(fun h=>by cases h),(fun _=>NF)⟩ ⟨hMW.set (p:=⟨tc,g,none⟩) (.inl rfl) _,.inr NF⟩ ⟨(Mod.rf (S:=fun b=>b=tc) _).set (p:=⟨tc,g,none⟩) (.inl rfl) _,fun _ _=>rfl,fun _=>NF⟩)
   ·intro u T9 W hRW hV
    obtain⟨hMW,-⟩:=hRW;have h8:=(hV (8,some 27) (by simp)).2.1 rfl;obtain⟨qb,h13,a13,z13,e13⟩:=(hV (13,some 32) (by simp)).2.2.1 (.inr rfl);obtain⟨qa,bF,a11,z11,e11⟩:=(hV (15,none) (by simp)).2.2.2.2 rfl;have nab:qa≠qb:=by rintro rfl;omega
    simp only[Zj,h8,h13];generalize u 3=y3 at *;generalize u 11=y11 at *;generalize u 14=y14 at *;clear hV h8 h13 e11 e13;have PT:=hT.out.putF bT0 sT hcsT hlt hMW bF a11 (by omega:w0.heap.size<=qa);have hB2:=hB.out.mod hMW (fun e=>hcb e.symm) (fun x h1 h2=>(hB.out.row x h1 h2).1.ne bT0 (by decide));have bB:=bB0.mod hMW (fun e=>hcb e.symm);obtain⟨⟨vb,kb⟩,fb,_⟩:=hB2.any hlt;have PB:=hB2.put hlt a13 (by omega:w0.heap.size<=qb);have PT2:=PT.mod (S:=fun b=>b=tb) (w':=W.setCell ⟨tb,g,none⟩ (.slice (some ⟨qb,0,none⟩) n n)) ((Mod.rf (S:=fun b=>b=tb) _).set (p:=⟨tb,g,none⟩) (.inl rfl) _) hcb (fun x h1 h2=>by
     by_cases e:x=g
     ·rw[if_pos e];exact a11.ne bB (by decide)
     ·rw[if_neg e];exact((hT.out.row x h1 (by omega)).1.ne bB0 (by decide)))
    have MQ:Mod (fun b=>b=tc\/b=tb) wo (W.setCell ⟨tb,g,none⟩ (.slice (some ⟨qb,0,none⟩) n n)):=(hMW.mono (fun _ _ h=>.inl h)).set (p:=⟨tb,g,none⟩) (.inl (.inr rfl)) _;have BI:Blk (W.setCell ⟨tb,g,none⟩ (.slice (some ⟨qb,0,none⟩) n n)) gi 25 #[.int .i64 kind,.int .i64 (n+1),.int .i64 cap,.slice A xw.length a,.slice B xv.length b,.slice D (n+1) d]:=by
     have b9:=Bi.out.mod hMW (Blk.ne Bi.out bT0 (by decide));exact b9.far (p:=⟨tb,g,none⟩) (Blk.ne b9 bB (by decide)) _
    have BP:Blk (W.setCell ⟨tb,g,none⟩ (.slice (some ⟨qb,0,none⟩) n n)) gp 137 #[.slice (some ⟨tc,0,none⟩) N N,.slice (some ⟨tb,0,none⟩) N N]:=by
     have b9:=Pp.out.mod hMW (Blk.ne Pp.out bT0 (by decide));exact b9.far (p:=⟨tb,g,none⟩) (Blk.ne b9 bB (by decide)) _
    replace PT2:=Hd PT2;replace PB:=Hd PB;replace MQ:=Hd MQ;replace BI:=Hd BI;replace BP:=Hd BP;clear PT bB hB2 a11 a13 bF bT0 bB0 hcsT sT vT Pp Bi hMW
    try simp only[lay]
    refine Zh 16 (by decide +kernel) (ZU (T:=23) rfl (.slice (some ⟨tb,0,none⟩) N N) (.int .i64 g) (by kernel_rfl) (by kernel_rfl) (.pointer (some ⟨tb,g,none⟩)) (by go_simp) ?_)
    try simp only[lay]
    refine Zh 17 (by decide +kernel) (Yo rfl (.pointer (some ⟨tb,g,none⟩)) (.slice (some ⟨qb,0,none⟩) n n) (by kernel_rfl) (by kernel_rfl) (by go_simp;rfl) ?_);refine wpAny_done (by kernel_rfl) ?_ _;generalize W.setCell ⟨tb,g,none⟩ (.slice (some ⟨qb,0,none⟩) n n)=W2 at *;clear kb fb;go_simp;go_wp2_with (fail);have RA:Arr W2 qa n (fun _=>0):=by
     have h1:=(PT2.out.row g hg1 (by omega)).1
     simpa using h1
    have RB:Arr W2 qb n (fun _=>0):=by
     have h1:=(PB.out.row g hg1 (by omega)).1
     simpa using h1
    have R0:Hid (RowS co n T g qa qb 0 W2 W2):=⟨Mod.rf _,RA.congr fun i _=>by simp,RB.congr fun i _=>by simp⟩;have LOW:Hid (∀ wr,Mod (fun b=>b=qa\/b=qb) W2 wr->WayM wr w0.heap.size tc N n g r T/\wr.cell? ⟨tc,g,none⟩=some (.slice (some ⟨qa,0,none⟩) n n)/\wr.cell? ⟨tb,g,none⟩=some (.slice (some ⟨qb,0,none⟩) n n)/\Blk wr gi 25 #[.int .i64 kind,.int .i64 (n+1),.int .i64 cap,.slice A xw.length a,.slice B xv.length b,.slice D (n+1) d]/\Blk wr gp 137 #[.slice (some ⟨tc,0,none⟩) N N,.slice (some ⟨tb,0,none⟩) N N]):=fun wr m=>by
     obtain⟨cs,hb,hs,hcs⟩:=PT2.out.tab;obtain⟨cs2,hb2,hs2,hcs2⟩:=PB.out.tab;have m1:=hb.mod m (by rintro (e | e);exact RA.ne hb (by decide) e.symm;exact RB.ne hb (by decide) e.symm);have m2:=hb2.mod m (by rintro (e | e);exact RA.ne hb2 (by decide) e.symm;exact RB.ne hb2 (by decide) e.symm);refine⟨⟨⟨cs,m1,hs,fun x h1 h2=>?_⟩,fun x h1 h2=>?_⟩,?_,?_,BI.out.mod m (by rintro (e | e);exact RA.ne BI.out (by decide) e.symm;exact RB.ne BI.out (by decide) e.symm),BP.out.mod m (by rintro (e | e);exact RA.ne BP.out (by decide) e.symm;exact RB.ne BP.out (by decide) e.symm)⟩
     ·have h3:=hcs x h1 (by omega)
      rw[if_neg (by omega)] at h3;exact h3
     ·have h3:=PT2.out.row x h1 (by omega)
      have h4:¬x=g:=by omega
      simp only[if_neg h4] at h3;have h5:=(hT.out.row x h1 h2).1.lt;exact⟨h3.1.mod m (by rintro (e | e)<;>omega),h3.2⟩
     ·rw[m1.cell,hcs g hg1 (by omega),if_pos rfl]
     ·rw[m2.cell,hcs2 g hg1 (by omega),if_pos rfl]
    clear RA RB;go_loopw [36] (fun v36 wr=>∃ l:Nat,v36=.int .i64 l/\l<=n/\Hid (RowS co n T g qa qb l W2 wr)) (fun v36 _=>n-(intOf v36).toNat)
    case atStart=>exact⟨0,rfl,by omega,R0⟩
    case round =>
     clear R0;obtain⟨wp,rfl⟩:∃ wp:World,wp=wr:=⟨_,rfl⟩;obtain⟨l,rfl,hl2,RS⟩:=hrel
     by_cases hll:l<n
     ·obtain⟨l1,l2,l3,l4,l5⟩:=LOW.out wp RS.out.mod
      have c0:=l5.c0;have ka:=RS.out.a.cell hll;have fa:=RS.out.a.free l;have q2:(l:Int)<(n:Int):=by omega
      have BT:=Ue g l (by omega);have RF:Hid (Mod (fun b=>b=qa\/b=qb) W2 (wp.setCell ⟨qa,l,none⟩ (.int .i64 Ub))/\Arr (wp.setCell ⟨qa,l,none⟩ (.int .i64 Ub)) qa n (fun i=>if i=l then Ub else if i<l then(XB co n T g i).1 else 0)/\Arr (wp.setCell ⟨qa,l,none⟩ (.int .i64 Ub)) qb n (fun j=>((if j<l then(XB co n T g j).2 else 0:Nat):Int))):=⟨RS.out.mod.set (p:=⟨qa,l,none⟩) (.inl (.inl rfl)) _,RS.out.a.set l Ub,RS.out.b.far (a:=⟨qa,l,none⟩) (fun e=>nab e.symm) _⟩;replace l1:=Hd l1;replace l4:=Hd l4;replace l5:=Hd l5;unfold Ub at RF
      by_cases hbit:g.testBit l=true
      ·rw[hbit] at BT
       simp only[Bool.not_true] at BT;have CL:bits .andNot .i64 (g:Int) ((2:Int)^l)=((Zv g l:Nat):Int):=by
        have h9:=Zb6 g l (by omega) (by omega);rw[Int.natCast_pow] at h9;exact h9
       have SHL:=Xm l (by omega);obtain⟨rs,hrs⟩:∃ rs,Hid (Zv g l=rs):=⟨_,rfl⟩;rw[hrs.out] at CL
       by_cases hz:rs=0
       ·subst hz
        have CL0:bits .andNot .i64 (g:Int) ((2:Int)^l)=0:=CL;have XF:Ext w0 (wp.setCell ⟨qa,l,none⟩ (.int .i64 1152921504606846976)):=((X.out.mod FS.out.mod (fun k hk e=>by rcases e with e | e<;>omega)).mod MQ.out (fun k hk e=>by rcases e with e | e<;>omega)).mod RF.out.1 (fun k hk e=>by rcases e with e | e<;>omega);obtain⟨cb,cof,rb,ro,d',rfl,x1,x2⟩:=Ww rok.out (hC.out.1.ext XF fun _ _ h=>h.ext XF) (r:=0) (c:=l+1) (by have:=hl.out;omega) (by have:=hl.out;omega);rw[hl.out,Nat.add_zero] at x1;obtain⟨p1,hp1⟩:∃ p1,Hid (l+1=p1):=⟨_,rfl⟩;rw[hp1.out] at x2;have q5:(p1:Int)<(n:Int)+1:=by have:=hp1.out;omega
        have LF:=LOW.out _ RF.out.1;have y0:=LF.2.2.2.2.cell 0;have y1:=LF.2.1;have y5:=LF.2.2.2.1.cell 5;have ya:=RF.out.2.1.cell hll;have yf:=RF.out.2.1.free l;clear CL;go_upto_region 13 with(fail);generalize wp.setCell ⟨qa,l,none⟩ (.int .i64 1152921504606846976)=wf at *;clear ka fa;obtain⟨cst,hcst⟩:∃ cst,Hid (Zb co 0 p1=cst):=⟨_,rfl⟩;rw[hcst.out] at x2;have wl:IntKind.i64.wrap ((l:Int)+1)=(p1:Int):=by rw[show (l:Int)+1=(p1:Int) by have:=hp1.out;omega];exact IntWalk.i64_in _ (by omega)
        refine wp_region_any (by kernel_rfl) ?_
        change wpAny _ _ _ _ _ _ _ (World.drew _)
        refine Za (i:=0) (op:=Op.move (Operand.tmp 0)) (t:=135) (d:=some 59) (v:=?_) rfl (by decide +kernel) (by decide +kernel) (by decide +kernel) (fun _ _ _ h=>h) ?_ ?_
        case refine_2=>(intro _;unfold Zd;go_simp;try with_reducible rfl)
        try simp only[lay]
        refine Za (i:=1) (op:=Op.nilCheck (Operand.tmp 59)) (t:=0) (d:=some 60) (v:=?_) rfl (by decide +kernel) (by decide +kernel) (by decide +kernel) (fun _ _ _ h=>h) ?_ ?_
        case refine_2=>(intro _;unfold Zd;go_simp;try with_reducible rfl)
        try simp only[lay]
        refine Za (i:=2) (op:=Op.fieldAddr 137 (Operand.tmp 60) 0) (t:=0) (d:=some 61) (v:=?_) rfl (by decide +kernel) (by decide +kernel) (by decide +kernel) (fun _ _ _ h=>h) ?_ ?_
        case refine_2=>(intro _;unfold Zd;go_simp;try with_reducible rfl)
        try simp only[lay]
        refine Za (i:=4) (op:=Op.move (Operand.tmp 5)) (t:=3) (d:=some 63) (v:=?_) rfl (by decide +kernel) (by decide +kernel) (by decide +kernel) (fun _ _ _ h=>h) ?_ ?_
        case refine_2=>(intro _;unfold Zd;go_simp;try with_reducible rfl)
        try simp only[lay]
        refine Za (i:=7) (op:=Op.move (Operand.tmp 6)) (t:=3) (d:=some 66) (v:=?_) rfl (by decide +kernel) (by decide +kernel) (by decide +kernel) (fun _ _ _ h=>h) ?_ ?_
        case refine_2=>(intro _;unfold Zd;go_simp;try with_reducible rfl)
        try simp only[lay]
        refine Za (i:=8) (op:=Op.fieldAddr 25 (Operand.tmp 3) 5) (t:=0) (d:=some 67) (v:=?_) rfl (by decide +kernel) (by decide +kernel) (by decide +kernel) (fun _ _ _ h=>h) ?_ ?_
        case refine_2=>(intro _;unfold Zd;go_simp;try with_reducible rfl)
        try simp only[lay]
        refine Za (i:=12) (op:=Op.move (Operand.tmp 6)) (t:=3) (d:=some 71) (v:=?_) rfl (by decide +kernel) (by decide +kernel) (by decide +kernel) (fun _ _ _ h=>h) ?_ ?_
        case refine_2=>(intro _;unfold Zd;go_simp;try with_reducible rfl)
        try simp only[lay]
        refine Za (i:=13) (op:=Op.binOp BinOp.add 3 (Operand.tmp 71) (Operand.const (Value.int IntKind.i64 1)) 3) (t:=3) (d:=some 72) (v:=?_) rfl (by decide +kernel) (by decide +kernel) (by decide +kernel) (fun _ _ _ h=>h) ?_ ?_
        case refine_2=>(intro _;unfold Zd;go_simp;try with_reducible rfl)
        try simp only[lay]
        refine YK (n:=2) [(3,some 62),(5,some 64),(6,some 65),(9,some 68),(10,some 69),(11,some 70),(14,some 73),(15,some 74)] (fun | 3=>.slice (some ⟨tc,0,none⟩) N N | 5=>.pointer (some ⟨tc,g,none⟩) | 6=>.slice (some ⟨qa,0,none⟩) n n | 9=>.slice (some ⟨cb,cof,none⟩) (n+1) d | 10=>.pointer (some ⟨cb,cof,none⟩) | 11=>.slice (some ⟨rb,ro,none⟩) (n+1) d' | 14=>.pointer (some ⟨rb,ro+p1,none⟩) | 15=>.int .i64 cst | _=>undef) #[true,true,true,true,true,true,true,true,true,true,true,true,true,true,true,true,false,false] (by decide +kernel) ?_ ?_
        ·intro pS hpm uS hD K hK
         simp only[List.mem_cons,List.not_mem_nil,or_false] at hpm;rcases hpm with rfl | rfl | rfl | rfl | rfl | rfl | rfl | rfl
         ·exact Zo (T:=23) (x:=Operand.tmp 61) (t:=23) (d:=some 62) rfl (.pointer (some ⟨gp,0,none⟩)) (by kernel_rfl) (.slice (some ⟨tc,0,none⟩) N N) (by go_simp) hK
         ·exact ZU (T:=23) (x:=Operand.tmp 62) (y:=Operand.tmp 63) (t:=0) (d:=some 64) rfl (.slice (some ⟨tc,0,none⟩) N N) (.int .i64 g) (Eq.trans (b:=uS 3) (by kernel_rfl) (hD 3 (Zm (by kernel_rfl)))) (by kernel_rfl) (.pointer (some ⟨tc,g,none⟩)) (by go_simp) hK
         ·exact Zo (T:=22) (x:=Operand.tmp 64) (t:=22) (d:=some 65) rfl (.pointer (some ⟨tc,g,none⟩)) (Eq.trans (b:=uS 5) (by kernel_rfl) (hD 5 (Zm (by kernel_rfl)))) (.slice (some ⟨qa,0,none⟩) n n) (by go_simp) hK
         ·exact Zo (T:=23) (x:=Operand.tmp 67) (t:=23) (d:=some 68) rfl (.pointer (some ⟨gi,5,none⟩)) (by kernel_rfl) (.slice (some ⟨cb,cof,none⟩) (n+1) d) (by go_simp) hK
         ·exact ZU (T:=23) (x:=Operand.tmp 68) (y:=Operand.const (Value.int IntKind.i64 0)) (t:=0) (d:=some 69) rfl (.slice (some ⟨cb,cof,none⟩) (n+1) d) (.int .i64 0) (Eq.trans (b:=uS 9) (by kernel_rfl) (hD 9 (Zm (by kernel_rfl)))) (by kernel_rfl) (.pointer (some ⟨cb,cof,none⟩)) (by go_simp) hK
         ·exact Zo (T:=22) (x:=Operand.tmp 69) (t:=22) (d:=some 70) rfl (.pointer (some ⟨cb,cof,none⟩)) (Eq.trans (b:=uS 10) (by kernel_rfl) (hD 10 (Zm (by kernel_rfl)))) (.slice (some ⟨rb,ro,none⟩) (n+1) d') (by go_simp) hK
         ·exact ZU (T:=22) (x:=Operand.tmp 70) (y:=Operand.tmp 72) (t:=0) (d:=some 73) rfl (.slice (some ⟨rb,ro,none⟩) (n+1) d') (.int .i64 p1) (Eq.trans (b:=uS 11) (by kernel_rfl) (hD 11 (Zm (by kernel_rfl)))) (by kernel_rfl) (.pointer (some ⟨rb,ro+p1,none⟩)) (by go_simp) hK
         ·exact Zo (T:=3) (x:=Operand.tmp 73) (t:=3) (d:=some 74) rfl (.pointer (some ⟨rb,ro+p1,none⟩)) (Eq.trans (b:=uS 14) (by kernel_rfl) (hD 14 (Zm (by kernel_rfl)))) (.int .i64 cst) (by go_simp) hK
        simp only[Zj,Act.put,List.setIfInBounds_toArray,List.set_cons_zero,List.set_cons_succ];refine Zh 16 (by decide +kernel) (ZU (T:=22) rfl (.slice (some ⟨qa,0,none⟩) n n) (.int .i64 l) (by kernel_rfl) (by kernel_rfl) (.pointer (some ⟨qa,l,none⟩)) (by go_simp) ?_)
        try simp only[lay]
        refine Zh 17 (by decide +kernel) (Yo rfl (.pointer (some ⟨qa,l,none⟩)) (.int .i64 cst) (by kernel_rfl) (by kernel_rfl) (by go_simp;rfl) ?_);refine wpAny_done (by kernel_rfl) ?_ _;have wN:XB co n T g l=(cst,0):=by
         unfold XB;rw[if_pos hbit,if_pos hrs.out,<-hcst.out,<-hp1.out]
        have RN:Hid (RowS co n T g qa qb (l+1) W2 (wf.drew.setCell ⟨qa,l,none⟩ (.int .i64 cst))):=by
         refine⟨(RF.out.1.drew).set (p:=⟨qa,l,none⟩) (.inl (.inl rfl)) _,((RF.out.2.1.ext ((Ext.rf _).drew)).set l cst).congr fun j _=>?_,((RF.out.2.2.ext ((Ext.rf _).drew)).far (a:=⟨qa,l,none⟩) (fun e=>nab e.symm) _).congr fun j _=>?_⟩
         ·by_cases e:j=l
          ·subst e
           rw[if_pos rfl,if_pos (by omega),wN]
          ·simp only[if_neg e]
           by_cases e2:j<l
           ·simp only[if_pos e2,if_pos (show j<l+1 by omega)]
           ·simp only[if_neg e2,if_neg (show ¬j<l+1 by omega)]
         ·by_cases e:j=l
          ·subst e
           rw[if_neg (by omega),if_pos (by omega),wN]
          ·by_cases e2:j<l
           ·simp only[if_pos e2,if_pos (show j<l+1 by omega)]
           ·simp only[if_neg e2,if_neg (show ¬j<l+1 by omega)]
        have hl9:Hid (l+1<=n):=by
         have h9:l+1<=n:=hll;exact h9
        clear RF wN y0 y1 y5 ya yf x1 x2 wl q5;go_simp;go_wp2_with (fail);go_roundw
        case rel=>exact⟨l+1,by go_num,hl9.out,RN⟩
        case measure=>(have h9:=hl9.out;simp[intOf];omega)
       ·have e0:((rs:Nat):Int)≠0:=by omega
        have e0':(((rs:Nat):Int)==0)=false:=by simpa using e0
        have rsl:rs<g:=by rw[<-hrs.out];exact W6 (n:=n) (by omega) (by have:=hN.out;omega) hbit
        have rs1:1<=rs:=by omega
        have XK:Hid (∀ wr,Mod (fun b=>b=qa\/b=qb) W2 wr->Ext w0 wr):=fun wr m=>((X.out.mod FS.out.mod (fun k hk e=>by rcases e with e | e<;>omega)).mod MQ.out (fun k hk e=>by rcases e with e | e<;>omega)).mod m (fun k hk e=>by rcases e with e | e<;>omega)
        have BD:Hid (∀ k,k<n->rs.testBit k=true->0<=T rs k/\T rs k<=rs*2147483647):=fun k h1 h2=>WayOk.bd (n:=n) (by omega) (by have:=hN.out;omega) hW.out (fun a b ha hb=>num.out a b (by have:=hl.out;omega) (by have:=hl.out;omega)) rs k rsl h1 h2
        obtain⟨rr,hrr⟩:∃ rr,Hid (r rs=rr):=⟨_,rfl⟩;have ROW:Hid (∀ wr,Mod (fun b=>b=qa\/b=qb) W2 wr->wr.cell? ⟨tc,rs,none⟩=some (.slice (some ⟨rr,0,none⟩) n n)/\∀ k,k<n->wr.cell? ⟨rr,k,none⟩=some (.int .i64 (T rs k))):=fun wr m=>by
         rw[<-hrr.out];exact⟨(LOW.out wr m).1.cell rs1 rsl,fun k hk=>((LOW.out wr m).1.num rs1 rsl hk).1⟩
        have RA0:Hid (RowAh co n T g rs qa qb l 0 W2 (wp.setCell ⟨qa,l,none⟩ (.int .i64 1152921504606846976))):=⟨RF.out.1,RF.out.2.1,RF.out.2.2.congr fun j _=>by
         by_cases e:j=l
         ·subst e
          rw[if_neg (by omega),if_pos rfl]
          rfl
         ·rw[if_neg e]⟩
        have RR:Hid (∀ wr,RowAh co n T g rs qa qb l n W2 wr->RowS co n T g qa qb (l+1) W2 wr):=fun wr h=>h.rows hbit hrs.out hz
        have p11:(rs:Int)<=2048:=by omega
        clear RF RS hbit;go_wp2_with (fail);go_loopw [77] (fun v77 wr=>∃ k:Nat,v77=.int .i64 k/\k<=n/\Hid (RowAh co n T g rs qa qb l k W2 wr)) (fun v77 _=>n-(intOf v77).toNat)
        case atStart=>exact⟨0,rfl,by omega,RA0⟩
        case round =>
         clear RA0 ka fa CL SHL BT;obtain⟨wk,rfl⟩:∃ wk:World,wk=wr:=⟨_,rfl⟩;obtain⟨k,rfl,hk2,RK⟩:=hrel
         by_cases hkk:k<n
         ·have q3:(k:Int)<(n:Int):=by omega
          have BT:=Ue rs k (by omega)
          by_cases hbk:rs.testBit k=true
          ·rw[hbk] at BT
           simp only[Bool.not_true] at BT;have bd:=BD.out k hkk hbk;obtain⟨m1,m2,m3,m4,m5⟩:=LOW.out wk RK.out.mod;have y0:=m5.c0;have y1:=m5.c1;have y5:=m4.cell 5;have yr:=(ROW.out wk RK.out.mod).1;have yk:=(ROW.out wk RK.out.mod).2 k hkk;have XF:=XK.out wk RK.out.mod;obtain⟨cb,cof,rb,ro,d',rfl,x1,x2⟩:=Ww rok.out (hC.out.1.ext XF fun _ _ h=>h.ext XF) (r:=k+1) (c:=l+1) (by have:=hl.out;omega) (by have:=hl.out;omega);have cn:=num.out (k+1) (l+1) (by have:=hl.out;omega) (by have:=hl.out;omega);rw[hl.out] at x1;have lst:ZC (fun a=>T rs a+Zb co (a+1) (l+1)) rs (k+1)=if T rs k+Zb co (k+1) (l+1)<(ZC (fun a=>T rs a+Zb co (a+1) (l+1)) rs k).1 then(T rs k+Zb co (k+1) (l+1),k) else ZC (fun a=>T rs a+Zb co (a+1) (l+1)) rs k:=by
            rw[ZC,if_pos hbk]
           have ya:=RK.out.a.cell hll;have yb:=RK.out.b.cell hll;have fa:=RK.out.a.free l;have fb:=RK.out.b.free l;simp only[if_true] at ya yb;have RSM:Hid (¬(T rs k+Zb co (k+1) (l+1)<(ZC (fun a=>T rs a+Zb co (a+1) (l+1)) rs k).1)->RowAh co n T g rs qa qb l (k+1) W2 wk.drew):=fun h=>⟨(RK.out.same (by rw[lst,if_neg h])).mod.drew,(RK.out.same (by rw[lst,if_neg h])).a.ext (Ext.rf _).drew,(RK.out.same (by rw[lst,if_neg h])).b.ext (Ext.rf _).drew⟩
           have RTK:Hid (T rs k+Zb co (k+1) (l+1)<(ZC (fun a=>T rs a+Zb co (a+1) (l+1)) rs k).1->∀ W,Ext wk W->RowAh co n T g rs qa qb l (k+1) W2 ((W.setCell ⟨qa,l,none⟩ (.int .i64 (T rs k+Zb co (k+1) (l+1)))).setCell ⟨qb,l,none⟩ (.int .i64 k))):=fun h W x=>by
            have h1:RowAh co n T g rs qa qb l k W2 W:=⟨RK.out.mod.ext x,RK.out.a.ext x,RK.out.b.ext x⟩;exact h1.take nab (by rw[lst,if_pos h])
           clear lst;generalize (ZC (fun a=>T rs a+Zb co (a+1) (l+1)) rs k).1=cu at *;obtain⟨bk,eb⟩:∃ bk,Hid ((ZC (fun a=>T rs a+Zb co (a+1) (l+1)) rs k).2=bk):=⟨_,rfl⟩;rw[eb.out] at yb;obtain⟨p1,hp1⟩:∃ p1,Hid (l+1=p1):=⟨_,rfl⟩;obtain⟨k1,hk1⟩:∃ k1,Hid (k+1=k1):=⟨_,rfl⟩;obtain⟨cst,hcst⟩:∃ cst,Hid (Zb co (k+1) (l+1)=cst):=⟨_,rfl⟩;obtain⟨tt,htt⟩:∃ tt,Hid (T rs k=tt):=⟨_,rfl⟩;rw[hcst.out,htt.out] at RSM RTK;rw[htt.out] at yk bd;rw[hcst.out] at x2 cn;rw[hp1.out] at x2;rw[hk1.out] at x1;have q5:(p1:Int)<(n:Int)+1:=by have:=hp1.out;omega
           have q6:(k1:Int)<(n:Int)+1:=by have:=hk1.out;omega
           have q7:(rs:Int)<(N:Int):=by omega
           have q8:(g:Int)<(N:Int):=by omega
           have wl:IntKind.i64.wrap ((l:Int)+1)=(p1:Int):=by rw[show (l:Int)+1=(p1:Int) by have:=hp1.out;omega];exact IntWalk.i64_in _ (by omega)
           have wk1:IntKind.i64.wrap ((k:Int)+1)=(k1:Int):=by rw[show (k:Int)+1=(k1:Int) by have:=hk1.out;omega];exact IntWalk.i64_in _ (by omega)
           have ws:IntKind.i64.wrap (tt+cst)=tt+cst:=IntWalk.i64_in _ (by omega);have YB:Hid (∀ W,Ext wk W->(W.setCell ⟨qa,l,none⟩ (.int .i64 (tt+cst))).cell? ⟨qb,l,none⟩=some (.int .i64 bk)/\(W.setCell ⟨qa,l,none⟩ (.int .i64 (tt+cst))).frozen? ⟨qb,l,none⟩=false):=fun W x=>by
            have h1:=(RK.out.b.ext x).far (a:=⟨qa,l,none⟩) (fun e=>nab e.symm) (.int .i64 (tt+cst));have h2:=h1.cell hll;rw[if_pos rfl,eb.out] at h2;exact⟨h2,h1.free l⟩
           clear cn bd m1 m4 m5;go_wp2_with (fail);refine wp_region_any (by kernel_rfl) ?_
           change wpAny _ _ _ _ _ _ _ (World.drew _)
           refine Za (i:=0) (op:=Op.move (Operand.tmp 0)) (t:=135) (d:=some 85) (v:=?_) rfl (by decide +kernel) (by decide +kernel) (by decide +kernel) (fun _ _ _ h=>h) ?_ ?_
           case refine_2=>(intro _;unfold Zd;go_simp;try with_reducible rfl)
           try simp only[lay]
           refine Za (i:=1) (op:=Op.nilCheck (Operand.tmp 85)) (t:=0) (d:=some 86) (v:=?_) rfl (by decide +kernel) (by decide +kernel) (by decide +kernel) (fun _ _ _ h=>h) ?_ ?_
           case refine_2=>(intro _;unfold Zd;go_simp;try with_reducible rfl)
           try simp only[lay]
           refine Za (i:=2) (op:=Op.fieldAddr 137 (Operand.tmp 86) 0) (t:=0) (d:=some 87) (v:=?_) rfl (by decide +kernel) (by decide +kernel) (by decide +kernel) (fun _ _ _ h=>h) ?_ ?_
           case refine_2=>(intro _;unfold Zd;go_simp;try with_reducible rfl)
           try simp only[lay]
           refine Za (i:=4) (op:=Op.move (Operand.tmp 7)) (t:=3) (d:=some 89) (v:=?_) rfl (by decide +kernel) (by decide +kernel) (by decide +kernel) (fun _ _ _ h=>h) ?_ ?_
           case refine_2=>(intro _;unfold Zd;go_simp;try with_reducible rfl)
           try simp only[lay]
           refine Za (i:=7) (op:=Op.move (Operand.tmp 8)) (t:=3) (d:=some 92) (v:=?_) rfl (by decide +kernel) (by decide +kernel) (by decide +kernel) (fun _ _ _ h=>h) ?_ ?_
           case refine_2=>(intro _;unfold Zd;go_simp;try with_reducible rfl)
           try simp only[lay]
           refine Za (i:=10) (op:=Op.fieldAddr 25 (Operand.tmp 3) 5) (t:=0) (d:=some 95) (v:=?_) rfl (by decide +kernel) (by decide +kernel) (by decide +kernel) (fun _ _ _ h=>h) ?_ ?_
           case refine_2=>(intro _;unfold Zd;go_simp;try with_reducible rfl)
           try simp only[lay]
           refine Za (i:=12) (op:=Op.move (Operand.tmp 8)) (t:=3) (d:=some 97) (v:=?_) rfl (by decide +kernel) (by decide +kernel) (by decide +kernel) (fun _ _ _ h=>h) ?_ ?_
           case refine_2=>(intro _;unfold Zd;go_simp;try with_reducible rfl)
           try simp only[lay]
           refine Za (i:=13) (op:=Op.binOp BinOp.add 3 (Operand.tmp 97) (Operand.const (Value.int IntKind.i64 1)) 3) (t:=3) (d:=some 98) (v:=?_) rfl (by decide +kernel) (by decide +kernel) (by decide +kernel) (fun _ _ _ h=>h) ?_ ?_
           case refine_2=>(intro _;unfold Zd;go_simp;try with_reducible rfl)
           try simp only[lay]
           refine Za (i:=16) (op:=Op.move (Operand.tmp 6)) (t:=3) (d:=some 101) (v:=?_) rfl (by decide +kernel) (by decide +kernel) (by decide +kernel) (fun _ _ _ h=>h) ?_ ?_
           case refine_2=>(intro _;unfold Zd;go_simp;try with_reducible rfl)
           try simp only[lay]
           refine Za (i:=17) (op:=Op.binOp BinOp.add 3 (Operand.tmp 101) (Operand.const (Value.int IntKind.i64 1)) 3) (t:=3) (d:=some 102) (v:=?_) rfl (by decide +kernel) (by decide +kernel) (by decide +kernel) (fun _ _ _ h=>h) ?_ ?_
           case refine_2=>(intro _;unfold Zd;go_simp;try with_reducible rfl)
           try simp only[lay]
           refine YK (n:=2) [(3,some 88),(5,some 90),(6,some 91),(8,some 93),(9,some 94),(11,some 96),(14,some 99),(15,some 100),(18,some 103),(19,some 104)] (fun | 3=>.slice (some ⟨tc,0,none⟩) N N | 5=>.pointer (some ⟨tc,rs,none⟩) | 6=>.slice (some ⟨rr,0,none⟩) n n | 8=>.pointer (some ⟨rr,k,none⟩) | 9=>.int .i64 tt | 11=>.slice (some ⟨cb,cof,none⟩) (n+1) d | 14=>.pointer (some ⟨cb,cof+k1,none⟩) | 15=>.slice (some ⟨rb,ro,none⟩) (n+1) d' | 18=>.pointer (some ⟨rb,ro+p1,none⟩) | 19=>.int .i64 cst | _=>undef) #[true,true,true,true,true,true,true,true,true,true,true,true,true,true,true,true,true,true,true,true,false,false] (by decide +kernel) ?_ ?_
           ·intro pS hpm uS hD K hK
            simp only[List.mem_cons,List.not_mem_nil,or_false] at hpm;rcases hpm with rfl | rfl | rfl | rfl | rfl | rfl | rfl | rfl | rfl | rfl
            ·exact Zo (T:=23) (x:=Operand.tmp 87) (t:=23) (d:=some 88) rfl (.pointer (some ⟨gp,0,none⟩)) (by kernel_rfl) (.slice (some ⟨tc,0,none⟩) N N) (by go_simp) hK
            ·exact ZU (T:=23) (x:=Operand.tmp 88) (y:=Operand.tmp 89) (t:=0) (d:=some 90) rfl (.slice (some ⟨tc,0,none⟩) N N) (.int .i64 rs) (Eq.trans (b:=uS 3) (by kernel_rfl) (hD 3 (Zm (by kernel_rfl)))) (by kernel_rfl) (.pointer (some ⟨tc,rs,none⟩)) (by go_simp) hK
            ·exact Zo (T:=22) (x:=Operand.tmp 90) (t:=22) (d:=some 91) rfl (.pointer (some ⟨tc,rs,none⟩)) (Eq.trans (b:=uS 5) (by kernel_rfl) (hD 5 (Zm (by kernel_rfl)))) (.slice (some ⟨rr,0,none⟩) n n) (by go_simp) hK
            ·exact ZU (T:=22) (x:=Operand.tmp 91) (y:=Operand.tmp 92) (t:=0) (d:=some 93) rfl (.slice (some ⟨rr,0,none⟩) n n) (.int .i64 k) (Eq.trans (b:=uS 6) (by kernel_rfl) (hD 6 (Zm (by kernel_rfl)))) (by kernel_rfl) (.pointer (some ⟨rr,k,none⟩)) (by go_simp) hK
            ·exact Zo (T:=3) (x:=Operand.tmp 93) (t:=3) (d:=some 94) rfl (.pointer (some ⟨rr,k,none⟩)) (Eq.trans (b:=uS 8) (by kernel_rfl) (hD 8 (Zm (by kernel_rfl)))) (.int .i64 tt) (by go_simp) hK
            ·exact Zo (T:=23) (x:=Operand.tmp 95) (t:=23) (d:=some 96) rfl (.pointer (some ⟨gi,5,none⟩)) (by kernel_rfl) (.slice (some ⟨cb,cof,none⟩) (n+1) d) (by go_simp) hK
            ·exact ZU (T:=23) (x:=Operand.tmp 96) (y:=Operand.tmp 98) (t:=0) (d:=some 99) rfl (.slice (some ⟨cb,cof,none⟩) (n+1) d) (.int .i64 k1) (Eq.trans (b:=uS 11) (by kernel_rfl) (hD 11 (Zm (by kernel_rfl)))) (by kernel_rfl) (.pointer (some ⟨cb,cof+k1,none⟩)) (by go_simp) hK
            ·exact Zo (T:=22) (x:=Operand.tmp 99) (t:=22) (d:=some 100) rfl (.pointer (some ⟨cb,cof+k1,none⟩)) (Eq.trans (b:=uS 14) (by kernel_rfl) (hD 14 (Zm (by kernel_rfl)))) (.slice (some ⟨rb,ro,none⟩) (n+1) d') (by go_simp) hK
            ·exact ZU (T:=22) (x:=Operand.tmp 100) (y:=Operand.tmp 102) (t:=0) (d:=some 103) rfl (.slice (some ⟨rb,ro,none⟩) (n+1) d') (.int .i64 p1) (Eq.trans (b:=uS 15) (by kernel_rfl) (hD 15 (Zm (by kernel_rfl)))) (by kernel_rfl) (.pointer (some ⟨rb,ro+p1,none⟩)) (by go_simp) hK
            ·exact Zo (T:=3) (x:=Operand.tmp 103) (t:=3) (d:=some 104) rfl (.pointer (some ⟨rb,ro+p1,none⟩)) (Eq.trans (b:=uS 18) (by kernel_rfl) (hD 18 (Zm (by kernel_rfl)))) (.int .i64 cst) (by go_simp) hK
           simp only[Zj,Act.put,List.setIfInBounds_toArray,List.set_cons_zero,List.set_cons_succ];refine Za (i:=20) (op:=Op.binOp BinOp.add 3 (Operand.tmp 94) (Operand.tmp 104) 3) (t:=3) (d:=some 105) (v:=?_) rfl (by decide +kernel) (by decide +kernel) (by decide +kernel) (fun _ _ _ h=>h) ?_ ?_
           case refine_2=>(intro _;unfold Zd;go_simp;try with_reducible rfl)
           try simp only[lay]
           refine Za (i:=21) (op:=Op.assign (Operand.tmp 105)) (t:=3) (d:=some 9) (v:=?_) rfl (by decide +kernel) (by decide +kernel) (by decide +kernel) (fun _ _ _ h=>h) ?_ ?_
           case refine_2=>(intro _;unfold Zd;go_simp;try with_reducible rfl)
           try simp only[lay]
           refine wpAny_done (by kernel_rfl) ?_ _;clear x1 x2 y5 yk yr
           by_cases hlt9:tt+cst<cu
           ·have FT:=Hd (RTK.out hlt9)
            clear RSM RTK;go_wp2_with (fail);refine wp_region_any (by kernel_rfl) ?_
            change wpAny _ _ _ _ _ _ _ (World.drew _)
            refine Za (i:=0) (op:=Op.move (Operand.tmp 0)) (t:=135) (d:=some 118) (v:=?_) rfl (by decide +kernel) (by decide +kernel) (by decide +kernel) (fun _ _ _ h=>h) ?_ ?_
            case refine_2=>(intro _;unfold Zd;go_simp;try with_reducible rfl)
            try simp only[lay]
            refine Za (i:=1) (op:=Op.nilCheck (Operand.tmp 118)) (t:=0) (d:=some 119) (v:=?_) rfl (by decide +kernel) (by decide +kernel) (by decide +kernel) (fun _ _ _ h=>h) ?_ ?_
            case refine_2=>(intro _;unfold Zd;go_simp;try with_reducible rfl)
            try simp only[lay]
            refine Za (i:=2) (op:=Op.fieldAddr 137 (Operand.tmp 119) 0) (t:=0) (d:=some 120) (v:=?_) rfl (by decide +kernel) (by decide +kernel) (by decide +kernel) (fun _ _ _ h=>h) ?_ ?_
            case refine_2=>(intro _;unfold Zd;go_simp;try with_reducible rfl)
            try simp only[lay]
            refine Za (i:=4) (op:=Op.move (Operand.tmp 5)) (t:=3) (d:=some 122) (v:=?_) rfl (by decide +kernel) (by decide +kernel) (by decide +kernel) (fun _ _ _ h=>h) ?_ ?_
            case refine_2=>(intro _;unfold Zd;go_simp;try with_reducible rfl)
            try simp only[lay]
            refine Za (i:=7) (op:=Op.move (Operand.tmp 6)) (t:=3) (d:=some 125) (v:=?_) rfl (by decide +kernel) (by decide +kernel) (by decide +kernel) (fun _ _ _ h=>h) ?_ ?_
            case refine_2=>(intro _;unfold Zd;go_simp;try with_reducible rfl)
            try simp only[lay]
            refine Za (i:=8) (op:=Op.move (Operand.tmp 0)) (t:=135) (d:=some 126) (v:=?_) rfl (by decide +kernel) (by decide +kernel) (by decide +kernel) (fun _ _ _ h=>h) ?_ ?_
            case refine_2=>(intro _;unfold Zd;go_simp;try with_reducible rfl)
            try simp only[lay]
            refine Za (i:=9) (op:=Op.nilCheck (Operand.tmp 126)) (t:=0) (d:=some 127) (v:=?_) rfl (by decide +kernel) (by decide +kernel) (by decide +kernel) (fun _ _ _ h=>h) ?_ ?_
            case refine_2=>(intro _;unfold Zd;go_simp;try with_reducible rfl)
            try simp only[lay]
            refine Za (i:=10) (op:=Op.fieldAddr 137 (Operand.tmp 127) 1) (t:=0) (d:=some 128) (v:=?_) rfl (by decide +kernel) (by decide +kernel) (by decide +kernel) (fun _ _ _ h=>h) ?_ ?_
            case refine_2=>(intro _;unfold Zd;go_simp;try with_reducible rfl)
            try simp only[lay]
            refine Za (i:=12) (op:=Op.move (Operand.tmp 5)) (t:=3) (d:=some 130) (v:=?_) rfl (by decide +kernel) (by decide +kernel) (by decide +kernel) (fun _ _ _ h=>h) ?_ ?_
            case refine_2=>(intro _;unfold Zd;go_simp;try with_reducible rfl)
            try simp only[lay]
            refine Za (i:=15) (op:=Op.move (Operand.tmp 6)) (t:=3) (d:=some 133) (v:=?_) rfl (by decide +kernel) (by decide +kernel) (by decide +kernel) (fun _ _ _ h=>h) ?_ ?_
            case refine_2=>(intro _;unfold Zd;go_simp;try with_reducible rfl)
            try simp only[lay]
            refine Za (i:=16) (op:=Op.move (Operand.tmp 9)) (t:=3) (d:=some 134) (v:=?_) rfl (by decide +kernel) (by decide +kernel) (by decide +kernel) (fun _ _ _ h=>h) ?_ ?_
            case refine_2=>(intro _;unfold Zd;go_simp;try with_reducible rfl)
            try simp only[lay]
            refine Za (i:=17) (op:=Op.move (Operand.tmp 8)) (t:=3) (d:=some 135) (v:=?_) rfl (by decide +kernel) (by decide +kernel) (by decide +kernel) (fun _ _ _ h=>h) ?_ ?_
            case refine_2=>(intro _;unfold Zd;go_simp;try with_reducible rfl)
            try simp only[lay]
            refine YK (n:=4) [(3,some 121),(5,some 123),(6,some 124),(11,some 129),(13,some 131),(14,some 132)] (fun | 3=>.slice (some ⟨tc,0,none⟩) N N | 5=>.pointer (some ⟨tc,g,none⟩) | 6=>.slice (some ⟨qa,0,none⟩) n n | 11=>.slice (some ⟨tb,0,none⟩) N N | 13=>.pointer (some ⟨tb,g,none⟩) | 14=>.slice (some ⟨qb,0,none⟩) n n | _=>undef) #[true,true,true,true,true,true,true,true,true,true,true,true,true,true,true,true,true,true,false,false,false,false] (by decide +kernel) ?_ ?_
            ·intro pS hpm uS hD K hK
             simp only[List.mem_cons,List.not_mem_nil,or_false] at hpm;rcases hpm with rfl | rfl | rfl | rfl | rfl | rfl
             ·exact Zo (T:=23) (x:=Operand.tmp 120) (t:=23) (d:=some 121) rfl (.pointer (some ⟨gp,0,none⟩)) (by kernel_rfl) (.slice (some ⟨tc,0,none⟩) N N) (by go_simp) hK
             ·exact ZU (T:=23) (x:=Operand.tmp 121) (y:=Operand.tmp 122) (t:=0) (d:=some 123) rfl (.slice (some ⟨tc,0,none⟩) N N) (.int .i64 g) (Eq.trans (b:=uS 3) (by kernel_rfl) (hD 3 (Zm (by kernel_rfl)))) (by kernel_rfl) (.pointer (some ⟨tc,g,none⟩)) (by go_simp) hK
             ·exact Zo (T:=22) (x:=Operand.tmp 123) (t:=22) (d:=some 124) rfl (.pointer (some ⟨tc,g,none⟩)) (Eq.trans (b:=uS 5) (by kernel_rfl) (hD 5 (Zm (by kernel_rfl)))) (.slice (some ⟨qa,0,none⟩) n n) (by go_simp) hK
             ·exact Zo (T:=23) (x:=Operand.tmp 128) (t:=23) (d:=some 129) rfl (.pointer (some ⟨gp,1,none⟩)) (by kernel_rfl) (.slice (some ⟨tb,0,none⟩) N N) (by go_simp) hK
             ·exact ZU (T:=23) (x:=Operand.tmp 129) (y:=Operand.tmp 130) (t:=0) (d:=some 131) rfl (.slice (some ⟨tb,0,none⟩) N N) (.int .i64 g) (Eq.trans (b:=uS 11) (by kernel_rfl) (hD 11 (Zm (by kernel_rfl)))) (by kernel_rfl) (.pointer (some ⟨tb,g,none⟩)) (by go_simp) hK
             ·exact Zo (T:=22) (x:=Operand.tmp 131) (t:=22) (d:=some 132) rfl (.pointer (some ⟨tb,g,none⟩)) (Eq.trans (b:=uS 13) (by kernel_rfl) (hD 13 (Zm (by kernel_rfl)))) (.slice (some ⟨qb,0,none⟩) n n) (by go_simp) hK
            simp only[Zj,Act.put,List.setIfInBounds_toArray,List.set_cons_zero,List.set_cons_succ];refine Zh 18 (by decide +kernel) (ZU (T:=22) rfl (.slice (some ⟨qa,0,none⟩) n n) (.int .i64 l) (by kernel_rfl) (by kernel_rfl) (.pointer (some ⟨qa,l,none⟩)) (by go_simp) ?_)
            try simp only[lay]
            refine Zh 19 (by decide +kernel) (Yo rfl (.pointer (some ⟨qa,l,none⟩)) (.int .i64 (tt+cst)) (by kernel_rfl) (by kernel_rfl) (by go_simp;rfl) ?_)
            try simp only[lay]
            obtain⟨z1,z2⟩:=YB.out wk.drew.drew (Ext.rf _).drew.drew;refine Zh 20 (by decide +kernel) (ZU (T:=22) rfl (.slice (some ⟨qb,0,none⟩) n n) (.int .i64 l) (by kernel_rfl) (by kernel_rfl) (.pointer (some ⟨qb,l,none⟩)) (by go_simp) ?_)
            try simp only[lay]
            refine Zh 21 (by decide +kernel) (Yo rfl (.pointer (some ⟨qb,l,none⟩)) (.int .i64 k) (by kernel_rfl) (by kernel_rfl) (by go_simp;rfl) ?_);refine wpAny_done (by kernel_rfl) ?_ _;have RN:=Hd (FT.out wk.drew.drew (Ext.rf _).drew.drew);have hl9:Hid (k+1<=n):=by
             have h9:k+1<=n:=hkk;exact h9
            clear FT YB z1 z2 wl wk1 q5 q6;go_simp;go_wp2_with (fail);go_roundw
            case rel=>exact⟨k+1,by go_num,hl9.out,RN⟩
            case measure=>(have h9:=hl9.out;simp[intOf];omega)
           ·have RN:=Hd (RSM.out (by omega))
            have hl9:Hid (k+1<=n):=by
             have h9:k+1<=n:=hkk;exact h9
            clear RSM RTK YB wl wk1 q5 q6;go_wp2_with (fail);go_roundw
            case rel=>exact⟨k+1,by go_num,hl9.out,RN⟩
            case measure=>(have h9:=hl9.out;simp[intOf];omega)
          ·have hbk2:rs.testBit k=false:=by simpa using hbk
           rw[hbk2] at BT;simp only[Bool.not_false] at BT;have RN:Hid (RowAh co n T g rs qa qb l (k+1) W2 wk):=RK.out.same (by rw[ZC,if_neg hbk]);clear hbk hbk2;go_wp2_with (fail);go_roundw
           case rel=>exact⟨k+1,by go_num,by omega,RN⟩
           case measure=>simp[intOf];omega
         ·obtain rfl:k=n:=by omega
          have q3:¬((k:Int)<(k:Int)):=by omega
          have RN:=Hd (RR.out wk RK.out);go_wp2_with (fail);go_roundw
          case rel=>exact⟨l+1,by go_num,by omega,RN⟩
          case measure=>simp[intOf];omega
      ·have hbit2:g.testBit l=false:=by simpa using hbit
       rw[hbit2] at BT;simp only[Bool.not_false] at BT;have RN:Hid (RowS co n T g qa qb (l+1) W2 (wp.setCell ⟨qa,l,none⟩ (.int .i64 1152921504606846976))):=by
        refine⟨RF.out.1,RF.out.2.1.congr fun j _=>?_,RF.out.2.2.congr fun j _=>?_⟩
        ·by_cases e:j=l
         ·subst e
          rw[if_pos rfl,if_pos (by omega)];unfold XB Ub;rw[if_neg hbit]
         ·rw[if_neg e]
          by_cases e2:j<l
          ·rw[if_pos e2,if_pos (by omega)]
          ·rw[if_neg e2,if_neg (by omega)]
        ·by_cases e:j=l
         ·subst e
          rw[if_neg (by omega),if_pos (by omega)];unfold XB;rw[if_neg hbit]
         ·by_cases e2:j<l
          ·rw[if_pos e2,if_pos (by omega)]
          ·rw[if_neg e2,if_neg (by omega)]
       clear RF hbit hbit2;go_wp2_with (fail);go_roundw
       case rel=>exact⟨l+1,by go_num,by omega,RN⟩
       case measure=>simp[intOf];omega
     ·obtain rfl:l=n:=by omega
      have m4:=RS.out.mod;have hra:∀ x,1<=x->x<g->r x<wo.heap.size:=fun x h1 h2=>(hT.out.row x h1 h2).1.lt
      have hrb:∀ x,1<=x->x<g->r2 x<wo.heap.size:=fun x h1 h2=>(hB.out.row x h1 h2).1.lt
      obtain⟨cs,hb,-⟩:=PT2.out.tab;obtain⟨cs2,hb2,-⟩:=PB.out.tab;have NS:Hid (FillS co l N w wp w0.heap.size tc tb (g+1)):=by
       refine⟨FS.out.mod.tr' (MQ.out.tr' m4 (S:=fun b=>b=tc\/b=tb) (fun k hk hs=>by rcases hs with e | e<;>omega)) (fun k _ hs=>hs),fun x=>if x=g then qa else r x,fun x=>if x=g then qb else r2 x,_,_,?_,?_,WayOk.next (T:=T) (Bk:=Bk) n11 (by have:=hN.out;omega) hW.out (fun a b ha hb=>num.out a b (by have:=hl.out;omega) (by have:=hl.out;omega)),?_⟩
       ·refine(PT2.out.last (u:=fun j=>(XB co l T g j).1) m4 (by rintro (e | e)<;>(subst e;omega)) (fun x h1 h2=>by rw[if_neg (by omega)];have:=hra x h1 h2;rintro (e | e)<;>omega) (by rw[if_pos rfl];exact RS.out.a.congr fun j hj=>if_pos hj) hg1).congr fun x j _ _ _=>?_
        by_cases e:x=g
        ·simp[e]
        ·simp[e]
       ·refine(PB.out.last (u:=fun j=>(((XB co l T g j).2:Nat):Int)) m4 (by rintro (e | e)<;>(subst e;omega)) (fun x h1 h2=>by rw[if_neg (by omega)];have:=hrb x h1 h2;rintro (e | e)<;>omega) (by rw[if_pos rfl];exact RS.out.b.congr fun j hj=>by rw[if_pos hj]) hg1).congr fun x j _ _ _=>?_
        by_cases e:x=g
        ·simp[e]
        ·simp[e]
       ·intro x y x1 x2 y1 y2
        by_cases ex:x=g<;>by_cases ey:y=g
        ·simp only[if_pos ex,if_pos ey];exact nab
        ·simp only[if_pos ex,if_neg ey];have:=hrb y y1 (by omega);omega
        ·simp only[if_neg ex,if_pos ey];have:=hra x x1 (by omega);omega
        ·simp only[if_neg ex,if_neg ey];exact hR.out x y x1 (by omega) y1 (by omega)
      have NI:=Hd (LOW.out wp m4).2.2.2.1;have q3:¬((l:Int)<(l:Int)):=by omega
      have wg:IntKind.i64.wrap ((g:Int)+1)=((g+1:Nat):Int):=by rw[show (g:Int)+1=((g+1:Nat):Int) by omega];exact IntWalk.i64_in _ (by omega)
      clear hb hb2 m4 hra hrb LOW;go_wp2_with (fail);go_roundw
      case rel=>exact⟨g+1,by go_num,by omega,by omega,NS,NI⟩
      case measure=>simp[intOf];omega
  ·obtain rfl:g=N:=by omega
   have q1:¬((g:Int)<(g:Int)):=by omega
   go_wp2_with (fail);go_end0;exact⟨rfl,FS.out⟩
end Go.Proofs.YtmojhhlcocjoaaaGreatDoor
namespace Go.Proofs.YtmojhhlcocjoaaaGreatDoor
open Go.RowKit Go.ChangeShapes Go.WideShapes Go.ChangeAt
def RevTo (xs ys:List Int)(i:Nat) : Prop:=ys.length=xs.length/\∀ k,k<xs.length->ys[k]?=if k<i\/xs.length-i<=k then xs[xs.length-1-k]? else xs[k]?
theorem RevTo.start (xs:List Int) : RevTo xs xs 0:=⟨rfl,fun k hk=>by rw[if_neg (by omega)]⟩
theorem RevTo.step {xs ys:List Int}{i:Nat}{x y:Int}(h:RevTo xs ys i)(hi:i+i+1<xs.length)(hx:ys[i]?=some x)(hy:ys[xs.length-1-i]?=some y) : RevTo xs ((ys.set i y).set (xs.length-1-i) x) (i+1):=by
 obtain⟨h1,h2⟩:=h;have ei:=h2 i (by omega);have ej:=h2 (xs.length-1-i) (by omega);rw[if_neg (by omega),hx] at ei;rw[if_neg (by omega),hy] at ej;refine⟨by simpa using h1,fun k hk=>?_⟩
 by_cases hkj:xs.length-1-i=k
 ·subst hkj
  rw[List.getElem?_set_self (by simp;omega),if_pos (by omega),show xs.length-1-(xs.length-1-i)=i by omega,<-ei]
 ·rw[List.getElem?_set_ne hkj]
  by_cases hki:i=k
  ·subst hki
   rw[List.getElem?_set_self (by omega),if_pos (by omega),<-ej]
  ·rw[List.getElem?_set_ne hki,h2 k hk]
   by_cases hc:k<i\/xs.length-i<=k
   ·rw[if_pos hc,if_pos (by omega)]
   ·rw[if_neg hc,if_neg (by omega)]
theorem RevTo.done {xs ys:List Int}{i:Nat}(h:RevTo xs ys i)(hi:xs.length<=i+i+1) : ys=xs.reverse:=by
 obtain⟨h1,h2⟩:=h;apply List.ext_getElem?;intro k
 by_cases hk:k<xs.length
 ·rw[h2 k hk,List.getElem?_reverse hk]
  split
  ·rfl
  ·rw[show xs.length-1-k=k by omega]
 ·rw[List.getElem?_eq_none (by omega),List.getElem?_eq_none (by simp;omega)]
theorem ZaI (A:Option Addr)(c base:Nat)(xs:List Int)(w:World)(h:OwI w base A c xs)(hl:xs.length<=2^44) :
  Calls Tryz.prog 85 #[.slice A xs.length c] w fun e w'=>e=.returned (.tuple #[])/\OwI w' base A c xs.reverse/\Mod (fun k=>bl A=some k) w w':=by
 go_enter Tryz.func85,Tryz.ntmps85;go_wp2_with fail;go_loopw [2,3] (fun i j wr=>∃ (k:Nat) (ys:List Int),i=.int .i64 k/\j=.int .i64 ((xs.length:Int)-1-k)/\k+k<=xs.length/\RevTo xs ys k/\OwI wr base A c ys/\Mod (fun k=>bl A=some k) w wr) (fun i _ _=>xs.length-(intOf i).toNat)
 case atStart=>exact⟨0,xs,rfl,by simp,by omega,RevTo.start _,h,Mod.rf _⟩
 case round =>
  obtain⟨k,ys,rfl,rfl,hk,hr,ho,hm⟩:=hrel
  by_cases hlt:k+k+1<xs.length
  ·have hly:ys.length=xs.length:=hr.1
   obtain⟨g,x,rfl,hg,hgl,hc1,hf1,hx,hs1⟩:=ho.at (k:=k) (by omega);obtain⟨y,hc2,hf2,_,hy,_⟩:=ho.cell (k:=xs.length-1-k) (by omega);obtain⟨_,_,_,_,_,hs2⟩:=(hs1.out y).cell (k:=xs.length-1-k) (by rw[List.length_set];omega);have hr2:=Hd (hr.step hlt hx.out hy.out);replace hly:=Hd hly;replace hr:=Hd hr;replace ho:=Hd ho;have hlt':(k:Int)<(xs.length:Int)-1-k:=by omega
   have hej:(xs.length:Int)-1-(k:Int)=((xs.length-1-k:Nat):Int):=by omega
   rw[hej] at hlt' ⊢;generalize hj:xs.length-1-k=j at *;have hkj:k<j:=by omega
   have hjl:j<xs.length:=by omega
   replace hj:=Hd hj;replace hej:=Hd hej;go_wp2_with (go_region);go_roundw
   case rel=>exact⟨k+1,_,by go_num,by congr 1;have:=hej.out;omega,by omega,hr2.out,(hs2.out x).ext ((Ext.rf _).drew),((hm.set (p:=⟨g,k,none⟩) (.inl rfl) _).set (p:=⟨g,j,none⟩) (.inl rfl) _).drew⟩
   case measure=>simp[intOf];omega
  ·have hle:¬(k:Int)<(xs.length:Int)-1-k:=by omega
   go_wp2;go_end0;exact⟨rfl,by have:=hr.done (by omega);rw[<-this];exact ho,hm⟩
structure HI (n:Nat)(cst:Nat->Nat->Int)(r:Nat)(u v:Nat->Int)(has:Nat->Nat) : Prop where
 le:∀ c,1<=c->c<=n->has c<=r
 all:∀ i,1<=i->i<=r->∃ c,1<=c/\c<=n/\has c=i
 inj:∀ c c',1<=c->c<=n->1<=c'->c'<=n->has c=has c'->has c≠0->c=c'
 slack:∀ i c,1<=i->i<=n->1<=c->c<=n->u i+v c<=cst i c
 tight:∀ c,1<=c->c<=n->has c≠0->cst (has c) c=u (has c)+v c
 free:∀ c,1<=c->c<=n->has c=0->v c=0
 neg:∀ c,1<=c->c<=n->v c<=0
 pos:∀ i,0<=u i
 fresh:∀ i,r<i->u i=0
theorem HI.start {n:Nat}{cst:Nat->Nat->Int}(num:∀ i c,1<=i->i<=n->1<=c->c<=n->0<=cst i c) : HI n cst 0 (fun _=>0) (fun _=>0) (fun _=>0) where
 le:=fun _ _ _=>Nat.le_refl _
 all:=fun i h1 h2=>by omega
 inj:=fun _ _ _ _ _ _ _ h=>absurd rfl h
 slack:=fun i c h1 h2 h3 h4=>by have:=num i c h1 h2 h3 h4;omega
 tight:=fun _ _ _ h=>absurd rfl h
 free:=fun _ _ _ _=>rfl
 neg:=fun _ _ _=>Int.le_refl _
 pos:=fun _=>Int.le_refl _
 fresh:=fun _ _=>rfl
theorem W8 {l:List Nat}{n:Nat}(hd:l.Nodup)(h:∀ x∈l,x<n) : l.length<=n:=by
 have hp:l.Perm ((List.range n).filter fun x=>decide (x∈l)):=by
  refine(List.perm_ext_iff_of_nodup hd (List.Pairwise.filter _ List.nodup_range)).2 fun x=>?_
  rw[List.mem_filter,List.mem_range];exact⟨fun hx=>⟨h x hx,decide_eq_true hx⟩,fun hx=>of_decide_eq_true hx.2⟩
 rw[hp.length_eq];have:=List.length_filter_le (fun x=>decide (x∈l)) (List.range n)
 rwa [List.length_range] at this
theorem HI.some_free {n:Nat}{cst:Nat->Nat->Int}{r:Nat}{u v:Nat->Int}{has:Nat->Nat}(h:HI n cst r u v has)(hr:r<n) : ∃ c,1<=c/\c<=n/\has c=0:=by
 cases hd:decide (∃ c,c<n/\has (c+1)=0) with
 | true =>
  obtain⟨c,h1,h2⟩:=of_decide_eq_true hd;exact⟨c+1,by omega,by omega,h2⟩
 | false =>
  exfalso
  have hn:=of_decide_eq_false hd;have hne:∀ c,c<n->has (c+1)≠0:=fun c hc e=>hn ⟨c,hc,e⟩
  have hl:=W8 (l:=(List.range n).map fun c=>has (c+1)-1) (n:=r) ?_ ?_
  ·rw[List.length_map,List.length_range] at hl
   omega
  ·refine(List.pairwise_map.2 ?_)
   refine List.Pairwise.imp_of_mem ?_ List.nodup_range;intro a b ha hb hab e;have ha:=List.mem_range.1 ha;have hb:=List.mem_range.1 hb;have h1:=hne a ha;have h2:=hne b hb;have:=h.inj (a+1) (b+1) (by omega) (by omega) (by omega) (by omega) (by omega) h1;exact hab (by omega)
  ·intro x hx
   obtain⟨c,hc,rfl⟩:=List.mem_map.1 hx;have hc:=List.mem_range.1 hc;have h1:=hne c hc;have h2:=h.le (c+1) (by omega) (by omega);omega
structure GI (n:Nat)(cst:Nat->Nat->Int)(far:Int)(R:Nat)(has:Nat->Nat)(L:List Nat)(at':Nat)(u v least:Nat->Int)(frm:Nat->Nat) : Prop where
 nodup:(L++[at']).Nodup
 first:(L++[at']).head?=some 0
 le:∀ c∈L++[at'],c<=n
 seen:∀ c∈L,has c≠0
 way:∀ (A B:List Nat) (c:Nat),L++[at']=A++c::B->A≠[]->frm c∈A/\cst (has (frm c)) c=u (has (frm c))+v c
 slack:∀ i c,1<=i->i<=n->1<=c->c<=n->u i+v c<=cst i c
 tight:∀ c,1<=c->c<=n->has c≠0->cst (has c) c=u (has c)+v c
 free:∀ c,1<=c->c<=n->has c=0->v c=0
 neg:∀ c,1<=c->c<=n->v c<=0
 pos:∀ i,0<=u i
 fresh:∀ i,R<i->u i=0
 far0:L=[]->∀ c,1<=c->c<=n->least c=far
 least1:∀ c,1<=c->c<=n->c∉L->∀ s∈L,least c<=cst (has s) c-u (has s)-v c
 least2:L≠[]->∀ c,1<=c->c<=n->c∉L->frm c∈L/\least c=cst (has (frm c)) c-u (has (frm c))-v c
structure HasOk (n R:Nat)(has:Nat->Nat) : Prop where
 le:∀ c,c<=n->has c<=R
 zero:has 0=R
 inj:∀ c c',c<=n->c'<=n->has c=has c'->has c≠0->c=c'
 all:∀ i,1<=i->i<=R->∃ c,c<=n/\has c=i
theorem HI.hasOk {n:Nat}{cst:Nat->Nat->Int}{r:Nat}{u v:Nat->Int}{has has':Nat->Nat}(h:HI n cst r u v has)(h0:has' 0=r+1)(hs:∀ c,1<=c->has' c=has c) : HasOk n (r+1) has' where
 le:=fun c hc=>by
  by_cases e:c=0
  ·subst e;omega
  ·rw[hs c (by omega)]
   have:=h.le c (by omega) hc;omega
 zero:=h0
 inj:=fun c c' hc hc' e hne=>by
  by_cases e0:c=0
  ·subst e0
   by_cases e1:c'=0
   ·exact e1.symm
   ·rw[hs c' (by omega),h0] at e
    have:=h.le c' (by omega) hc';omega
  ·by_cases e1:c'=0
   ·subst e1
    rw[hs c (by omega),h0] at e;have:=h.le c (by omega) hc;omega
   ·rw[hs c (by omega),hs c' (by omega)] at e
    rw[hs c (by omega)] at hne;exact h.inj c c' (by omega) hc (by omega) hc' e hne
 all:=fun i h1 h2=>by
  by_cases e:i=r+1
  ·exact⟨0,by omega,by rw[h0,e]⟩
  ·obtain⟨c,k1,k2,k3⟩:=h.all i h1 (by omega)
   exact⟨c,k2,by rw[hs c k1];exact k3⟩
theorem HI.grow {n:Nat}{cst:Nat->Nat->Int}{r:Nat}{u v least:Nat->Int}{has has' frm:Nat->Nat}{far:Int}(h:HI n cst r u v has)(hs:∀ c,1<=c->has' c=has c)(hf:∀ c,1<=c->c<=n->least c=far) : GI n cst far (r+1) has' [] 0 u v least frm where
 nodup:=by simp
 first:=rfl
 le:=fun c hc=>by simp at hc;omega
 seen:=fun c hc=>by cases hc
 way:=fun A B c e hA=>by
  exfalso
  have:=congrArg List.length e
  cases A with
  | nil=>exact hA rfl
  | cons a A=>simp at this
 slack:=h.slack
 tight:=fun c h1 h2 h3=>by
  rw[hs c h1] at h3 ⊢;exact h.tight c h1 h2 h3
 free:=fun c h1 h2 h3=>by
  rw[hs c h1] at h3;exact h.free c h1 h2 h3
 neg:=h.neg
 pos:=h.pos
 fresh:=fun i hi=>h.fresh i (by omega)
 far0:=fun _=>hf
 least1:=fun c _ _ _ s hs=>by cases hs
 least2:=fun h=>absurd rfl h
section
variable {n R:Nat} {cst:Nat->Nat->Int} {far:Int} {has frm frm':Nat->Nat} {L:List Nat} {a next:Nat} {u v least least' u' v' least2:Nat->Int} {step:Int}
theorem GI.notin (h:GI n cst far R has L a u v least frm) : a∉L:=fun ha=>by
 have:=List.nodup_append.1 h.nodup;exact this.2.2 a ha a (by simp) rfl
theorem GI.round (h:GI n cst far R has L a u v least frm)(ho:HasOk n R has)(hRn:R<=n)(hfar:∀ i c,1<=i->i<=n->1<=c->c<=n->cst i c-u i-v c<far)(ha:has a≠0)
  (k1:∀ c,1<=c->c<=n->c∉L++[a]->(cst (has a) c-u (has a)-v c<least c/\least' c=cst (has a) c-u (has a)-v c/\frm' c=a)\/(least c<=cst (has a) c-u (has a)-v c/\least' c=least c/\frm' c=frm c))
  (k1':∀ c,c∈L++[a]->frm' c=frm c)
  (k2:1<=next/\next<=n/\next∉L++[a]/\step=least' next/\∀ c,1<=c->c<=n->c∉L++[a]->step<=least' c)
  (k3:∀ i,u' i=if ∃ s,s∈L++[a]/\has s=i then u i+step else u i) (k4:∀ c,1<=c->c<=n->v' c=if c∈L++[a] then v c-step else v c) (k5:∀ c,1<=c->c<=n->c∉L++[a]->least2 c=least' c-step) :
  GI n cst far R has (L++[a]) next u' v' least2 frm'/\0<=step:=by
 obtain⟨n1,n2,n3,n4,n5⟩:=k2;have hseen:∀ s∈L++[a],has s≠0/\s<=n:=fun s hs=>by
  refine⟨?_,h.le s hs⟩;rcases List.mem_append.1 hs with hs | hs
  ·exact h.seen s hs
  ·obtain rfl:=List.mem_singleton.1 hs
   exact ha
 have hrow:∀ s∈L++[a],1<=has s/\has s<=n:=fun s hs=>by
  have:=hseen s hs;have h2:=ho.le s this.2;omega
 have l1:∀ c,1<=c->c<=n->c∉L++[a]->∀ s∈L++[a],least' c<=cst (has s) c-u (has s)-v c:=fun c h1 h2 h3 s hs=>by
  have hcL:c∉L:=fun hc=>h3 (List.mem_append_left _ hc)
  have hk:=k1 c h1 h2 h3;rcases List.mem_append.1 hs with hs | hs
  ·have:=h.least1 c h1 h2 hcL s hs
   rcases hk with hk | hk<;>omega
  ·obtain rfl:=List.mem_singleton.1 hs
   rcases hk with hk | hk<;>omega
 have l2:∀ c,1<=c->c<=n->c∉L++[a]->frm' c∈L++[a]/\least' c=cst (has (frm' c)) c-u (has (frm' c))-v c:=fun c h1 h2 h3=>by
  have hcL:c∉L:=fun hc=>h3 (List.mem_append_left _ hc)
  rcases k1 c h1 h2 h3 with⟨_,e1,e2⟩ | ⟨g1,e1,e2⟩
  ·rw[e1,e2]
   exact⟨by simp,rfl⟩
  ·by_cases hL:L=[]
   ·exfalso
    have:=h.far0 hL c h1 h2;have h4:=hrow a (by simp);have:=hfar (has a) c h4.1 h4.2 h1 h2;omega
   ·have:=h.least2 hL c h1 h2 hcL
    rw[e1,e2];exact⟨List.mem_append_left _ this.1,this.2⟩
 have hst:0<=step:=by
  obtain⟨m1,m2⟩:=l2 next n1 n2 n3;have hr:=hrow _ m1;have:=h.slack (has (frm' next)) next hr.1 hr.2 n1 n2;omega
 have ex:∀ i,(∃ s,s∈L++[a]/\has s=i)\/¬∃ s,s∈L++[a]/\has s=i:=fun i=>Classical.em _
 have uin:∀ s∈L++[a],u' (has s)=u (has s)+step:=fun s hs=>by rw[k3,if_pos ⟨s,hs,rfl⟩]
 have ule:∀ i,u i<=u' i:=fun i=>by
  rw[k3];split<;>omega
 refine⟨⟨?_,?_,?_,fun c hc=>(hseen c hc).1,?_,?_,?_,?_,?_,?_,?_,?_,?_,?_⟩,hst⟩
 ·exact List.nodup_append.2 ⟨h.nodup,by simp,fun x hx y hy e=>by
   obtain rfl:=List.mem_singleton.1 hy;exact n3 (e ▸ hx)⟩
 ·have:=h.first
  rw[List.head?_append,this]
  rfl
 ·intro c hc
  rcases List.mem_append.1 hc with hc | hc
  ·exact h.le c hc
  ·obtain rfl:=List.mem_singleton.1 hc
   exact n2
 ·
  intro A B c e hA;rcases List.eq_nil_or_concat B with rfl | ⟨B',b,rfl⟩
  ·have e':(L++[a])++[next]=A++[c]:=by simpa using e
   obtain⟨e1,e2⟩:=List.append_inj' e' rfl;obtain rfl:next=c:=by simpa using e2
   subst e1;obtain⟨m1,m2⟩:=l2 next n1 n2 n3;refine⟨m1,?_⟩;rw[uin _ m1,k4 next n1 n2,if_neg n3];omega
  ·rw[List.concat_eq_append] at e
   have e':(L++[a])++[next]=(A++c::B')++[b]:=by simpa using e
   obtain⟨e1,_⟩:=List.append_inj' e' rfl;have hc:c∈L++[a]:=by rw[e1];simp
   obtain⟨m1,m2⟩:=h.way A B' c e1 hA;rw[k1' c hc];refine⟨m1,?_⟩;have hfc:frm c∈L++[a]:=by rw[e1];exact List.mem_append_left _ m1
   have c1:1<=c:=by
    rcases Nat.eq_zero_or_pos c with rfl | h1
    ·exfalso
     cases A with
     | nil=>exact hA rfl
     | cons x A =>
      have hf:=h.first;rw[e1] at hf;obtain rfl:x=0:=by simpa using hf
      have hn:=h.nodup;rw[e1] at hn;exact(List.nodup_cons.1 hn).1 (by simp)
    ·exact h1
   rw[uin _ hfc,k4 c c1 (h.le c hc),if_pos hc];omega
 ·
  intro i c h1 h2 h3 h4;have hs:=h.slack i c h1 h2 h3 h4;rw[k3,k4 c h3 h4]
  by_cases hc:c∈L++[a]
  ·rw[if_pos hc]
   split<;>omega
  ·rw[if_neg hc]
   split
   ·rename_i hi
    obtain⟨s,hs1,rfl⟩:=hi;have g1:=l1 c h3 h4 hc s hs1;have g2:=n5 c h3 h4 hc;omega
   ·exact hs
 ·
  intro c h1 h2 h3;have ht:=h.tight c h1 h2 h3;rw[k3,k4 c h1 h2]
  by_cases hc:c∈L++[a]
  ·rw[if_pos ⟨c,hc,rfl⟩,if_pos hc]
   omega
  ·rw[if_neg hc,if_neg]
   ·exact ht
   ·rintro ⟨s,hs1,hs2⟩
    have:=ho.inj s c (hseen s hs1).2 h2 hs2 (hseen s hs1).1;exact hc (this ▸ hs1)
 ·intro c h1 h2 h3
  rw[k4 c h1 h2,if_neg (fun hc=>(hseen c hc).1 h3)];exact h.free c h1 h2 h3
 ·intro c h1 h2
  have:=h.neg c h1 h2;rw[k4 c h1 h2];split<;>omega
 ·intro i
  have:=h.pos i;have:=ule i;omega
 ·intro i hi
  rw[k3,if_neg]
  ·exact h.fresh i hi
  ·rintro ⟨s,hs1,hs2⟩
   have:=ho.le s (hseen s hs1).2;omega
 ·intro e
  simp at e
 ·intro c h1 h2 h3 s hs
  have g1:=l1 c h1 h2 h3 s hs;rw[k5 c h1 h2 h3,uin s hs,k4 c h1 h2,if_neg h3];omega
 ·intro _ c h1 h2 h3
  obtain⟨m1,m2⟩:=l2 c h1 h2 h3;refine⟨m1,?_⟩;rw[k5 c h1 h2 h3,uin _ m1,k4 c h1 h2,if_neg h3];omega
end
end Go.Proofs.YtmojhhlcocjoaaaGreatDoor
