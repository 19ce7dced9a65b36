/- parts, packed by a program -/
import Derived.Test.YtnbcmiaaleambaaGreatDoorShowTreesP6
import Derived.Lib.ItoaNum
import Derived.Lib.Join
import Derived.Laws.BytesArg
import Derived.Lib.ItoaLen
import Derived.Shelf.LaysM
import Derived.Shelf.Strconv.Itoa3
import Derived.Lib.AppendIntMem
import Derived.Shelf.Lays
import Derived.Shelf.Strings.OnBuilder
set_option maxRecDepth 100000
set_option maxHeartbeats 16000000
set_option linter.all false
namespace Go.Proofs.YtnbcmiaaleambaaGreatDoor
open Go.ChangeAt Go.ChangeShapes Go.Deep Go.RowKit Go.WideShapes
section
section
variable {P:Program} {ops:Array Oper} {Q:Exit->Act->World->Prop}
theorem Zd6 (rem:List (Nat×Option Tmp))(kill:Nat->List Nat)(R:World->Prop)(V:Nat->Value->World->Prop)(Stab:Nat->World->World->Prop){listed0:Array Bool}(listed1:Array Bool)(hok:Ud ops listed0 listed1 rem=true)(hkill:ZeJ ops rem kill=true)
  (stab:∀ i j v w w',ZeI ops rem kill i j=true->V j v w->Stab i w w'->V j v w')
  {a0:Act}
  (step:∀ p∈rem,∀ u w,R w->(∀ j∈WM ops rem p.1,V j (u j) w)->∀ K:Act->World->Prop,(∀ v w',V p.1 v w'->R w'->Stab p.1 w w'->K ((Zn a0 rem u).put p.2 v) w')->wpOp P ops Q p.1 K (Zn a0 rem u) w)
  (n:Nat) (done:∀ u w,R w->(∀ p∈rem,kill p.1=[]->V p.1 (u p.1) w)->wpAny P .any ops Q n listed1 (Zn a0 rem u) w) {w0:World} (hR:R w0) :
  wpAny P .any ops Q (rem.length+n) listed0 a0 w0 :=
 JT (σ:=Unit) rem kill (fun _=>R) (fun j v _=>V j v) (fun i _ w _ w'=>Stab i w w') listed1 hok hkill (fun i j v _ w _ w'=>stab i j v w w') (fun p hp u _ w hR hd K hK=>step p hp u w hR hd K fun v w'=>hK v () w') n (fun u _ w hR h=>done u w hR h) (s0:=()) hR
end
theorem VF.stab1 {f:Nat->Option Value}{g:Nat->Value->World->Prop}{j:Nat}{v:Value}{w w':World}(h:f j=none->g j v w->g j v w')(hv:VF f g j v w) : VF f g j v w':=by
 unfold VF at hv ⊢
 cases hf:f j with
 | none=>rw[hf] at hv;exact h hf hv
 | some c=>rw[hf] at hv;exact hv
end
section
theorem ZL {i:InstP}(h:Zk i=0) : i.kind=1\/i.kind=2\/i.kind=3:=by
 unfold Zk at h
 by_cases hs:XJ i.kind i.n=0
 ·exact Qi hs
 ·rw[if_neg hs] at h
  exact absurd h hs
def ZW (i:InstP)(x:List Int) : Int×Int :=
 if Zk i≠0 then(0,Zk i)
 else if i.kind=1 then(if (x.length:Int)=i.n/\∀ v∈x,v=0\/v=1 then Vp i.cap i.weight i.value x else(0,1))
 else if Vs x i.cost.length=true/\(i.kind=3->x[0]?=some 0) then(if i.kind=2 then ZK i.cost x else Yn i.cost 0 (x.tail.map Int.toNat),0) else(0,1)
theorem Zd7 (k n cap:Int)(A B C:Option Addr)(a b c:Nat)(xs ys:List Int)(l:List (List Int))(w:World)(hk:k≠1)(hC:RdE 1 RInts w C l)(lc:l.length<=c)(mc:c<=maxLen)(lx:xs.length<=maxLen)(ly:ys.length<=maxLen)(lxy:xs.length+ys.length<=maxLen) :
  Calls Tryz.prog 44 #[.agg #[.int .i64 k,.int .i64 n,.int .i64 cap,.slice A xs.length a,.slice B ys.length b,.slice C l.length c]] w fun e w'=>e=.returned (.bool ((((l.length:Int)==n)&&(cap==0)&&decide (xs.length+ys.length=0)) && !(l.any fun r=>(r.length:Int) != n)))/\Ext w w':=by
 have B1:Hid (Blk (w.alloc (.cells #[.int .i64 k,.int .i64 n,.int .i64 cap,.slice A xs.length a,.slice B ys.length b,.slice C l.length c] 25)) w.heap.size 25 #[.int .i64 k,.int .i64 n,.int .i64 cap,.slice A xs.length a,.slice B ys.length b,.slice C l.length c]):=.new rfl;have hk':(k==1)=false:=by simpa using hk
 have lm:l.length<=maxLen:=by omega
 replace hC:=Hd hC;replace mc:=Hd mc;replace lm:=Hd lm;clear hk
 cases h1:((l.length:Int)==n)
 ·have h1':((l.length:Int) != n)=true:=by simp only[bne,h1];rfl
  go_enter Tryz.func44,Tryz.ntmps44;go_wp2;go_ret;exact⟨rfl,XI⟩
 ·have h1':((l.length:Int) != n)=false:=by simp only[bne,h1];rfl
  cases h2:(cap==0)
  ·have h2':(cap != 0)=true:=by simp only[bne,h2];rfl
   go_enter Tryz.func44,Tryz.ntmps44;go_wp2;go_ret;exact⟨rfl,XI⟩
  ·have h2':(cap != 0)=false:=by simp only[bne,h2];rfl
   by_cases hs:xs.length+ys.length=0
   ·have hs1:decide (xs.length+ys.length=0)=true:=by simpa using hs
    rw[hs1];have l0:xs.length=0:=by omega
    have l1:ys.length=0:=by omega
    rw[l0,l1] at B1 ⊢;clear hs hs1 l0 l1 lx ly lxy;go_enter Tryz.func44,Tryz.ntmps44;go_wp2_with (fail);refine(Zdv _ _ (fun m=>(m:Int) != n) JV C c l _ (hC.out.ext ((Ext.rf _).alloc _) fun _ _ h=>h.ext ((Ext.rf _).alloc _)) lm.out ?_).mono ?_
    ·intro W D r d _ hx
     exact Zdw D r.length d w.heap.size n _ W (B1.out.ext hx) rfl
    rintro e w' ⟨rfl,x'⟩;go_wp2;go_ret;exact⟨by simp,Ext.tr (a:=w) XI x'⟩
   ·have hs1:decide (xs.length+ys.length=0)=false:=by simpa using hs
    rw[hs1];have hs2:(0:Int)<(xs.length:Int)+(ys.length:Int):=by omega
    have hs3:IntKind.i64.wrap ((xs.length:Int)+(ys.length:Int))=(xs.length:Int)+(ys.length:Int):=IntWalk.i64_in _ (by simp only[maxLen] at lxy;omega);clear hs hs1;go_enter Tryz.func44,Tryz.ntmps44;go_wp2;go_ret;exact⟨rfl,XI⟩
theorem Zg0 (i:InstP)(vs:List Value)(w:World)(H:RInst w vs i)(lw:i.weight.length<=maxLen)(lv:i.value.length<=maxLen)(lwv:i.weight.length+i.value.length<=maxLen) :
  Calls Tryz.prog 19 #[.agg (List.toArray vs)] w fun e w'=>e=.returned (.int .i64 (Zk i))/\Ext w w':=by
 obtain⟨k,n,cap,xs,ys,l⟩:=i;obtain⟨A,a,B,b,C,c,rfl,⟨rA,iA,lA,mA⟩,⟨rB,iB,lB,mB⟩,⟨rC,lC,mC⟩⟩:=H;simp only at *;have B1:Hid (Blk (w.alloc (.cells #[.int .i64 k,.int .i64 n,.int .i64 cap,.slice A xs.length a,.slice B ys.length b,.slice C l.length c] 25)) w.heap.size 25 #[.int .i64 k,.int .i64 n,.int .i64 cap,.slice A xs.length a,.slice B ys.length b,.slice C l.length c]):=.new rfl;replace rA:=Hd rA;replace rB:=Hd rB;replace rC:=Hd rC;replace iA:=Hd iA;replace iB:=Hd iB;replace mA:=Hd mA;replace mB:=Hd mB;replace mC:=Hd mC;have X1:Ext w (w.alloc (.cells #[.int .i64 k,.int .i64 n,.int .i64 cap,.slice A xs.length a,.slice B ys.length b,.slice C l.length c] 25)):=(Ext.rf _).alloc _;replace X1:=Hd X1;go_enter Tryz.func19,Tryz.ntmps19;go_wp2_with (fail);refine(Zdq k n cap _ _ _ _).mono ?_;rintro e w2 ⟨rfl,x2⟩;have X2:=Hd (Ext.tr X1.out x2);have B2:=Hd (B1.out.ext x2);have d0:=B2.out.c0;have d1:=B2.out.c1;have d2:=B2.out.c2;have d3:=B2.out.c3;have d4:=B2.out.c4;have d5:=B2.out.c5
 by_cases hs:XJ k n=0
 ·have hs':(XJ k n != 0)=false:=by simpa using hs
  have qHS:Zk ⟨k,n,cap,xs,ys,l⟩=(if Vd ⟨k,n,cap,xs,ys,l⟩=true then(if k=1 then Yc cap xs ys xs.length else Xk k 0 l) else 8):=by
   unfold Zk;simp only[if_pos hs]
  have HS:=Hd qHS;clear qHS;have kk:=Qi hs;replace hs:=Hd hs;clear x2
  by_cases k1:k=1
  ·subst k1
   have qHS2:Zk ⟨1,n,cap,xs,ys,l⟩=(if (((xs.length:Int)==n)&&((ys.length:Int)==n)&&((l.length:Int)==0))=true then Yc cap xs ys xs.length else 8):=by
    have h1:=HS.out;unfold Vd at h1
    simpa only [if_true] using h1
   have HS2:=Hd qHS2;clear qHS2;clear HS;go_wp2_with (fail);refine(ZaJ n cap A B C a b c xs ys l _).mono ?_;rintro e w3 ⟨rfl,x3⟩;have X3:=Hd (Ext.tr X2.out x3);have B3:=Hd (B2.out.ext x3);have e0:=B3.out.c0;have e1:=B3.out.c1;have e2:=B3.out.c2;have e3:=B3.out.c3;have e4:=B3.out.c4;have e5:=B3.out.c5;clear d0 d1 d2 d3 d4 d5 x3 kk
   cases hh:(((xs.length:Int)==n)&&((ys.length:Int)==n)&&((l.length:Int)==0)) with
   | false =>
    have qHC:Zk ⟨1,n,cap,xs,ys,l⟩=8:=by
     have h1:=HS2.out;rw[hh,if_neg (by decide)] at h1;exact h1
    have HC:=Hd qHC;clear qHC;clear hh;go_wp2;go_ret;exact⟨Z3 HC.out.symm,X3.out⟩
   | true =>
    have qHC:Zk ⟨1,n,cap,xs,ys,l⟩=Yc cap xs ys xs.length:=by
     have h1:=HS2.out;rw[hh,if_pos rfl] at h1;exact h1
    have HC:=Hd qHC;clear qHC;simp only[Bool.and_eq_true,beq_iff_eq] at hh;obtain⟨⟨rfl,hy⟩,hz⟩:=hh;clear HS2;have hyx:Hid (xs.length=ys.length):=by(have:xs.length=ys.length:=by omega);exact this
    clear hy hz;go_wp2_with (fail);refine(ZbP A B a b 1 cap xs ys _ _ (rA.out.ext X3.out) (rB.out.ext X3.out) lA mA.out lB mB.out hyx.out).mono ?_;rintro e w4 ⟨rfl,x4⟩;go_wp2;go_ret;exact⟨Z3 HC.out.symm,Ext.tr X3.out x4⟩
  ·have k1':(k==1)=false:=by simpa using k1
   have qHS2:Zk ⟨k,n,cap,xs,ys,l⟩=(if ((((l.length:Int)==n)&&(cap==0)&&decide (xs.length+ys.length=0)) && !(l.any fun r=>(r.length:Int) != n))=true then Xk k 0 l else 8):=by
    have h1:=HS.out;unfold Vd at h1
    simpa only [if_neg k1] using h1
   have HS2:=Hd qHS2;clear qHS2;clear HS;go_wp2_with (fail);refine(Zd7 k n cap A B C a b c xs ys l _ k1 (rC.out.ext X2.out fun _ _ h=>h.ext X2.out) lC mC.out lw lv lwv).mono ?_;rintro e w3 ⟨rfl,x3⟩;have X3:=Hd (Ext.tr X2.out x3);have B3:=Hd (B2.out.ext x3);have e0:=B3.out.c0;have e1:=B3.out.c1;have e2:=B3.out.c2;have e3:=B3.out.c3;have e4:=B3.out.c4;have e5:=B3.out.c5;clear d0 d1 d2 d3 d4 d5 x3 kk k1;generalize ((((l.length:Int)==n)&&(cap==0)&&decide (xs.length+ys.length=0)) && !(l.any fun r=>(r.length:Int) != n))=hh at HS2 ⊢
   cases hh with
   | false =>
    have HC:Hid (Zk ⟨k,n,cap,xs,ys,l⟩=8):=HS2.out;clear HS2;go_wp2;go_ret;exact⟨Z3 HC.out.symm,X3.out⟩
   | true =>
    have HC:Hid (Zk ⟨k,n,cap,xs,ys,l⟩=Xk k 0 l):=HS2.out;clear HS2;go_wp2_with (fail);refine(Zdu k n cap _ _ C c l _ (rC.out.ext X3.out fun _ _ h=>h.ext X3.out) lC mC.out).mono ?_;rintro e w4 ⟨rfl,x4⟩;go_wp2;go_ret;exact⟨Z3 HC.out.symm,Ext.tr X3.out x4⟩
 ·have hs':(XJ k n != 0)=true:=by simpa using hs
  have qHC:Zk ⟨k,n,cap,xs,ys,l⟩=XJ k n:=by
   unfold Zk;simp only[if_neg hs]
  have HC:=Hd qHC;clear qHC;clear hs;go_wp2;go_ret;exact⟨Z3 HC.out.symm,X2.out⟩
theorem Zfd (i:InstP)(us:List Value)(P:Option Addr)(c:Nat)(q:List Nat)(w:World)(H:RInst w us i)(hc:Zk i=0)(hk:i.kind=3)(hP:RdI w P (Zf (0::q)))(hl:(0::q).Perm (List.range i.cost.length)) :
  Calls Tryz.prog 70 #[.agg (List.toArray us),.slice P i.cost.length c] w fun e w'=>e=.returned (.tuple #[.int .i64 (Yn i.cost 0 q),.int .i64 0])/\Ext w w':=by
 have sq:=Zt hc (by omega);have rok:=ZP sq;have CH:=fun(W:World) (x:Ext w W)=>Yy i us W (H.ext x) (by rw[sq.w];simp) (by rw[sq.v];simp)
 have OY:=fun(W:World) (x:Ext w W)=>ZbR P c i.cost.length (0::q) hl (by have:=rok.n2;omega) W (hP.ext x)
 rw[hc] at CH;have hnn:i.n=(i.cost.length:Int):=sq.len.symm;have hlt:Hid (∀ x∈0::q,x<i.cost.length):=fun x hx=>List.mem_range.1 (hl.mem_iff.1 hx)
 have hlen:Hid ((0::q).length=i.cost.length):=Hd (by rw[hl.length_eq,List.length_range]);have n24:=rok.n2;have n1:=rok.n1;clear hl hc sq;obtain⟨kind,nn,cap,xw,xv,co⟩:=i;obtain⟨A,a,B,b,D,d,rfl,-,-,hC,-⟩:=H;simp only at *;subst hk hnn;obtain⟨cb,cof,_,_,_,rfl,_,_⟩:=QQ rok hC (r:=0) (c:=0) (by omega) (by omega);have num:=Uy rok;have CA:=Hd (fun(W:World) (x:Ext w W) (r c:Nat) (hr:r<co.length) (hc:c<co.length)=>ZcL rok (hC.ext x fun _ _ h=>h.ext x) hr hc);obtain⟨tot,htot⟩:∃ tot,Hid (Yn co 0 q=tot):=⟨_,rfl⟩;rw[htot.out];have bt:0<=tot/\tot<=2147483647*24:=by
  have h1:=QT num q 0 (by omega) fun x hx=>hlt.out x (by simp[hx])
  have h2:=hlen.out;rw[List.length_cons] at h2;rw[htot.out] at h1;omega
 have START:Hid ((0:Int)+UD co ((0::q).drop 0)=tot):=Hd (by rw[<-htot.out];simp[UD]);obtain⟨l,hll⟩:∃ l,Hid (0::q=l):=⟨_,rfl⟩;have h00:Hid (l[0]?=some 0):=Hd (by rw[<-hll.out];rfl);rw[hll.out] at hP hlt hlen START;obtain⟨pb,po,x0,rfl,zp0,cp0,ep0,_⟩:=hP.at (k:=0) (by rw[Zh,hlen.out];omega);obtain rfl:x0=0:=by
  have h:=ep0.out;rw[ZaQ h00.out] at h;exact(Option.some.inj h).symm
 replace cp0:w.cell? ⟨pb,po,none⟩=some (.int .i64 0):=cp0;have DR:Hid (∀ k,k<co.length->∃ u,l[k]?=some u/\u<co.length/\l.drop k=u::l.drop (k+1)):=fun k hk=>by
  have h:k<l.length:=by rw[hlen.out];exact hk
  exact⟨l[k],List.getElem?_eq_getElem h,hlt.out _ (List.getElem_mem h),List.drop_eq_getElem_cons h⟩
 replace CH:=Hd CH;replace OY:=Hd OY;replace hP:=Hd hP;replace hC:=Hd hC;replace rok:=Hd rok;replace num:=Hd num;have B1:Hid (Blk (w.alloc (.cells #[.int .i64 3,.int .i64 co.length,.int .i64 cap,.slice A xw.length a,.slice B xv.length b,.slice (some ⟨cb,cof,none⟩) co.length d] 25)) w.heap.size 25 #[.int .i64 3,.int .i64 co.length,.int .i64 cap,.slice A xw.length a,.slice B xv.length b,.slice (some ⟨cb,cof,none⟩) co.length d]):=.new rfl;have q00:(0:Int)<(co.length:Int):=by omega
 clear ep0;go_enter Tryz.func70,Tryz.ntmps70;go_wp2_with (fail);refine(CH.out _ XI).mono ?_;rintro e w1 ⟨rfl,x1⟩;have X1:=Hd (Ext.tr (a:=w) XI x1);have b1:=Hd (B1.out.ext x1);have t0:=b1.out.c0;have t1:=b1.out.c1;clear x1 B1;go_wp2_with (fail);refine(OY.out _ (X1.out.tr XI)).mono ?_;rintro e w2 ⟨rfl,x2⟩;have X2:=Hd (X1.out.tr (Ext.tr XI x2));have BC:=Hd (b1.out.ext (Ext.tr XI x2));have s0:=BC.out.c0;have e2:w2.cell? ⟨pb,po,none⟩=some (.int .i64 0):=Zd X2.out zp0 cp0;clear x2 b1 X1 t0 t1;go_wp2_with (fail);go_loopw [7,44] (fun s v wr=>∃ (k:Nat) (su:Int),v=.int .i64 k/\s=.int .i64 su/\k<=co.length/\Hid (0<=su/\su+UD co (l.drop k)=tot)/\Hid (Ext w2 wr)) (fun _ v _=>co.length-(intOf v).toNat)
 case atStart=>exact⟨0,0,rfl,rfl,by omega,by exact(show (0:Int)<=0/\(0:Int)+UD co (l.drop 0)=tot from⟨by omega,START.out⟩),Ext.rf _⟩
 case round =>
  clear s0;obtain⟨wo,rfl⟩:=Wq wr;obtain⟨k,su,rfl,rfl,hk,HS,Y⟩:=hrel;have s0:wo.cell? ⟨w.heap.size,0,none⟩=some (.int .i64 3):=(BC.out.ext Y.out).cell 0;have d1:wo.cell? ⟨w.heap.size,1,none⟩=some (.int .i64 co.length):=(BC.out.ext Y.out).cell 1;have d5:wo.cell? ⟨w.heap.size,5,none⟩=some (.slice (some ⟨cb,cof,none⟩) co.length d):=(BC.out.ext Y.out).cell 5;have XW:=Hd (X2.out.tr Y.out);clear e2 START
  by_cases hkl:k<co.length
  ·obtain⟨u,ek,hun,edr⟩:=DR.out k hkl
   obtain⟨pb',po',xu,hPq,zpk,cpk,epk,_⟩:=(hP.out.ext XW.out).at (k:=k) (by rw[Zh,hlen.out];exact hkl);obtain⟨rfl,rfl⟩:pb=pb'/\po=po':=by simpa using hPq
   obtain rfl:xu=(u:Int):=by
    have h:=epk.out;rw[ZaQ ek] at h;exact(Option.some.inj h).symm
   have HS1:=HS.out;rw[edr] at HS1;have q1:(k:Int)<(co.length:Int):=by omega
   have q2:(u:Int)<(co.length:Int):=by omega
   have hw0:IntKind.i64.wrap ((k:Int)+1)=(k:Int)+1:=IntWalk.i64_in _ (by omega);clear ek edr hPq epk HS
   by_cases hlast:k+1=co.length
   ·have e1:l.drop (k+1)=[]:=List.drop_of_length_le (by rw[hlen.out];omega)
    rw[e1] at HS1;obtain⟨rb,ro,d',c1,c2⟩:=CA.out _ XW.out u 0 hun (by omega);have nu:=num.out u 0 hun (by omega);obtain⟨y,hy⟩:∃ y,Hid (Za co u 0=y):=⟨_,rfl⟩;simp only[UD,Yn] at HS1;rw[hy.out] at c2 nu HS1;replace c2:wo.cell? ⟨rb,ro,none⟩=some (.int .i64 y):=c2;have hrem:((k:Int)+1).tmod (co.length:Int)=0:=by
     have h:(k:Int)+1=(co.length:Int):=by omega
     rw[h,Int.tmod_self]
    have hw1:IntKind.i64.wrap 0=0:=IntWalk.i64_in _ (by omega);have hw:IntKind.i64.wrap (su+y)=su+y:=IntWalk.i64_in _ (by omega);have p0:wo.cell? ⟨pb,po,none⟩=some (.int .i64 0):=Zd XW.out zp0 cp0;have NEW:Hid (0<=su+y/\su+y+UD co (l.drop (k+1))=tot):=Hd (by
     rw[e1];simp only[UD];omega)
    have hnz:((co.length:Int)==0)=false:=by rw[beq_eq_false_iff_ne];omega
    clear HS1 e1;replace hlast:=Hd hlast;go_wp2_with (fail);go_quiet (fail);go_wp2_with (fail);go_roundw
    case rel=>exact⟨k+1,su+y,by go_num,rfl,by omega,NEW,Y.out.drewN _⟩
    case measure=>simp[intOf];omega
   ·have hk1:k+1<co.length:=by omega
    obtain⟨v,ek1,hvn,edr1⟩:=DR.out (k+1) hk1;obtain⟨pb',po',xu,hPq,zpk1,cpk1,epk1,_⟩:=(hP.out.ext XW.out).at (k:=k+1) (by rw[Zh,hlen.out];exact hk1);obtain⟨rfl,rfl⟩:pb=pb'/\po=po':=by simpa using hPq
    obtain rfl:xu=(v:Int):=by
     have h:=epk1.out;rw[ZaQ ek1] at h;exact(Option.some.inj h).symm
    rw[edr1] at HS1;obtain⟨rb,ro,d',c1,c2⟩:=CA.out _ XW.out u v hun hvn;have nu:=num.out u v hun hvn;obtain⟨y,hy⟩:∃ y,Hid (Za co u v=y):=⟨_,rfl⟩;simp only[UD,Yn] at HS1;rw[hy.out] at c2 nu HS1;have hpp:=(QT num.out (l.drop (k+1+1)) v hvn fun x hx=>hlt.out x (List.mem_of_mem_drop hx)).1;have hrem:((k:Int)+1).tmod (co.length:Int)=((k+1:Nat):Int):=by
     rw[Int.tmod_eq_emod_of_nonneg (by omega),Int.emod_eq_of_lt (by omega) (by omega)];omega
    have hw1:IntKind.i64.wrap ((k+1:Nat):Int)=((k+1:Nat):Int):=IntWalk.i64_in _ (by omega);have hw:IntKind.i64.wrap (su+y)=su+y:=IntWalk.i64_in _ (by omega);have NEW:Hid (0<=su+y/\su+y+UD co (l.drop (k+1))=tot):=Hd (by
     rw[edr1];simp only[UD];omega)
    have q3:(v:Int)<(co.length:Int):=by omega
    have q4:((k+1:Nat):Int)<(co.length:Int):=by omega
    have hnz:((co.length:Int)==0)=false:=by rw[beq_eq_false_iff_ne];omega
    clear HS1 edr1 ek1 hPq epk1 hpp;replace hlast:=Hd hlast;go_wp2_with (fail);go_quiet (fail);go_wp2_with (fail);go_roundw
    case rel=>exact⟨k+1,su+y,by go_num,rfl,by omega,NEW,Y.out.drewN _⟩
    case measure=>simp[intOf];omega
  ·have q1:¬(k:Int)<(co.length:Int):=by omega
   have HS2:Hid (su=tot):=by
    have h:=HS.out.2;rw[List.drop_of_length_le (by rw[hlen.out];omega)] at h;simp only[UD] at h;have h2:su=tot:=by omega
    exact h2
   go_wp2_with (fail);go_ret2;rw[HS2.out];exact⟨rfl,XW.out⟩
theorem Zg1 (i:InstP)(us:List Value)(P:Option Addr)(c:Nat)(x:List Int)(w:World)(H:RInst w us i)(hc:Zk i=0)(hk:i.kind=1)(hP:RdI w P x)(lx:(x.length:Int)=i.n) :
  Calls Tryz.prog 99 #[.agg (List.toArray us),.slice P x.length c] w fun e w'=>e=.returned (.tuple #[.int .i64 (if ∀ v∈x,v=0\/v=1 then Vp i.cap i.weight i.value x else(0,1)).1,.int .i64 (if ∀ v∈x,v=0\/v=1 then Vp i.cap i.weight i.value x else(0,1)).2])/\Ext w w':=by
 have ok:=Yj hc hk;have k1:=ok.n1;have k2:=ok.n2;have k3:=ok.w;have k4:=ok.v;have k5:=ok.cap;have k6:=Hd ok.sw;have k7:=Hd ok.sv;clear ok hc;obtain⟨kind,nn,cap,xw,xv,co⟩:=i;obtain⟨A,a,B,b,D,d,rfl,⟨rA,iA,lA,mA⟩,⟨rB,iB,lB,mB⟩,-⟩:=H;simp only at *;subst hk;obtain⟨n,rfl⟩:∃ n:Nat,nn=(n:Int):=⟨nn.toNat,by omega⟩;have lxn:x.length=n:=by omega
 have lwn:xw.length=n:=by omega
 have lvn:xv.length=n:=by omega
 have hn2:n<=64:=by omega
 replace lwn:=Hd lwn;replace lvn:=Hd lvn;replace lxn:=Hd lxn;clear lx k3 k4;have W1:∀ k v u,x[k]?=some v->xw[k]?=some u->WK (x.take (k+1)) xw=WK (x.take k) xw+if v=1 then u else 0:=fun k v u h1 h2=>Uu _ k x xw h1 h2
 have V1:∀ k v u,x[k]?=some v->xv[k]?=some u->Ww (x.take (k+1)) xv=Ww (x.take k) xv+if v=1 then 0 else u:=fun k v u h1 h2=>Uu _ k x xv h1 h2
 replace W1:=Hd W1;replace V1:=Hd V1;replace rA:=Hd rA;replace rB:=Hd rB;replace hP:=Hd hP;replace mA:=Hd mA;replace mB:=Hd mB;replace iA:=Hd iA;replace iB:=Hd iB;have B1:Hid (Blk (w.alloc (.cells #[.int .i64 1,.int .i64 n,.int .i64 cap,.slice A xw.length a,.slice B xv.length b,.slice D co.length d] 25)) w.heap.size 25 #[.int .i64 1,.int .i64 n,.int .i64 cap,.slice A xw.length a,.slice B xv.length b,.slice D co.length d]):=.new rfl;have lz:=List.take_length (l:=x);have bW:∀ k,k<=n->0<=WK (x.take k) xw/\WK (x.take k) xw<=2147483647*(k:Int):=by
  intro k
  induction k with
  | zero=>intro _;simp[WK,Zg]
  | succ k ih =>
   intro hk;have h0:=ih (by omega);have h8:k<x.length:=by rw[lxn.out];omega
   have e1:x[k]?=some x[k]:=List.getElem?_eq_getElem h8;have h9:k<xw.length:=by rw[lwn.out];omega
   have e2:xw[k]?=some xw[k]:=List.getElem?_eq_getElem h9;have h1:=W1.out k _ _ e1 e2;have h2:=k6.out.get e2;rw[h1];split<;>omega
 have bV:∀ k,k<=n->0<=Ww (x.take k) xv/\Ww (x.take k) xv<=2147483647*(k:Int):=by
  intro k
  induction k with
  | zero=>intro _;simp[Ww,Zg]
  | succ k ih =>
   intro hk;have h0:=ih (by omega);have h8:k<x.length:=by rw[lxn.out];omega
   have e1:x[k]?=some x[k]:=List.getElem?_eq_getElem h8;have h9:k<xv.length:=by rw[lvn.out];omega
   have e2:xv[k]?=some xv[k]:=List.getElem?_eq_getElem h9;have h1:=V1.out k _ _ e1 e2;have h2:=k7.out.get e2;rw[h1];split<;>omega
 replace bW:=Hd bW;replace bV:=Hd bV;clear lz;have BAD:Hid (∀ y,y∈x->¬(y=0\/y=1)->(if ∀ v∈x,v=0\/v=1 then Vp cap xw xv x else(0,1))=(0,1)):=fun y hy h=>if_neg fun h9=>h (h9 y hy)
 have YES:Hid ((∀ v∈x,v=0\/v=1)->(if ∀ v∈x,v=0\/v=1 then Vp cap xw xv x else(0,1))=if cap<WK x xw then(0,9) else(Ww x xv,0)):=fun h=>if_pos h
 generalize (if ∀ v∈x,v=0\/v=1 then Vp cap xw xv x else(0,1))=res at *;have exn:(x.length:Int)=(n:Int):=by rw[lxn.out]
 have ne0:((n:Int) != (n:Int))=false:=by simp
 rw[lxn.out];have X1:Hid (Ext w (w.alloc (.cells #[.int .i64 1,.int .i64 n,.int .i64 cap,.slice A xw.length a,.slice B xv.length b,.slice D co.length d] 25))):=(Ext.rf _).alloc _;go_enter Tryz.func99,Tryz.ntmps99;go_wp2_with (fail);go_loopw [6,7,17] (fun v6 v7 i wr=>∃ k:Nat,i=.int .i64 k/\v6=.int .i64 (WK (x.take k) xw)/\v7=.int .i64 (Ww (x.take k) xv)/\k<=n/\Hid (∀ j y,j<k->x[j]?=some y->y=0\/y=1)/\Ext (w.alloc (.cells #[.int .i64 1,.int .i64 n,.int .i64 cap,.slice A xw.length a,.slice B xv.length b,.slice D co.length d] 25)) wr) (fun _ _ i _=>n-(intOf i).toNat)
 case atStart=>exact⟨0,rfl,rfl,rfl,by omega,(fun j y h=>by omega),Ext.rf _⟩
 case round =>
  obtain⟨wo,rfl⟩:=Wq wr;obtain⟨k,rfl,rfl,rfl,hk,HG,Y⟩:=hrel;have BB:=B1.out.ext Y;have t2:=BB.c2;have t3:=BB.c3;have t4:=BB.c4;clear BB;obtain⟨tw1,tw2⟩:=bW.out k hk;obtain⟨tv1,tv2⟩:=bV.out k hk
  by_cases hlt:k<n
  ·obtain⟨pb,po,y,rfl,zy,cy,ey,_⟩:=(hP.out.ext (X1.out.tr Y)).at (k:=k) (by rw[lxn.out];exact hlt)
   obtain⟨ab,ao,u,rfl,zu,cu,eu,_⟩:=(rA.out.ext (X1.out.tr Y)).at (k:=k) (by rw[lwn.out];exact hlt);obtain⟨vb,vo,v,rfl,zv,cv,ev,_⟩:=(rB.out.ext (X1.out.tr Y)).at (k:=k) (by rw[lvn.out];exact hlt);have sW:=Hd (W1.out k y u ey.out eu.out);have sV:=Hd (V1.out k y v ey.out ev.out);have bu:=k6.out.get eu.out;have bv:=k7.out.get ev.out;have q1:(k:Int)<(n:Int):=by omega
   have q2:(k:Int)<(xw.length:Int):=by rw[lwn.out];omega
   have q3:(k:Int)<(xv.length:Int):=by rw[lvn.out];omega
   have HGN:Hid ((y=0\/y=1)->∀ j y',j<k+1->x[j]?=some y'->y'=0\/y'=1):=fun hy j y' hj e=>by
    by_cases ej:j=k
    ·subst ej
     rw[ey.out] at e;obtain rfl:=Option.some.inj e;exact hy
    ·exact HG.out j y' (by omega) e
   obtain⟨tw,htw⟩:∃ tw,tw=WK (x.take k) xw:=⟨_,rfl⟩;obtain⟨tv,htv⟩:∃ tv,tv=Ww (x.take k) xv:=⟨_,rfl⟩;rw[<-htw] at tw1 tw2 sW ⊢;rw[<-htv] at tv1 tv2 sV ⊢;have ymem:y∈x:=List.mem_of_getElem? ey.out;have BADY:=Hd (BAD.out y ymem);clear ey eu ev htw htv ymem
   by_cases y1:y=1
   ·subst y1
    have sW2:Hid (WK (x.take (k+1)) xw=tw+u):=by
     have h:=sW.out;rw[if_pos rfl] at h;exact h
    have sV2:Hid (Ww (x.take (k+1)) xv=tv):=by
     have h:=sV.out;rw[if_pos rfl,Int.add_zero] at h;exact h
    have HN:=Hd (HGN.out (.inr rfl));clear sW sV HGN;have w1':IntKind.i64.wrap (tw+u)=tw+u:=IntWalk.i64_in _ (by omega);go_wp2_with (go_quiet (fail));go_roundw
    case rel=>exact⟨k+1,by go_num,by rw[sW2.out],by rw[sV2.out],by omega,HN.out,by repeat (first | exact Y | apply Ext.drewN)⟩
    case measure=>simp[intOf];omega
   by_cases y0:y=0
   ·subst y0
    have sW2:Hid (WK (x.take (k+1)) xw=tw):=by
     have h:=sW.out;rw[if_neg (by decide),Int.add_zero] at h;exact h
    have sV2:Hid (Ww (x.take (k+1)) xv=tv+v):=by
     have h:=sV.out;rw[if_neg (by decide)] at h;exact h
    have HN:=Hd (HGN.out (.inl rfl));clear sW sV HGN y1;have w1':IntKind.i64.wrap (tv+v)=tv+v:=IntWalk.i64_in _ (by omega);go_wp2_with (go_quiet (fail));go_roundw
    case rel=>exact⟨k+1,by go_num,by rw[sW2.out],by rw[sV2.out],by omega,HN.out,by repeat (first | exact Y | apply Ext.drewN)⟩
    case measure=>simp[intOf];omega
   ·have e0:(y==0)=false:=by simpa using y0
    have e1:(y==1)=false:=by simpa using y1
    have hr:=Hd (BADY.out (by omega));clear sW sV HGN;go_wp2_with (fail);go_ret2;exact⟨by rw[hr.out];rfl,X1.out.tr Y⟩
  ·obtain rfl:k=n:=by omega
   have HX:=YES.out (fun y hy=>by
    obtain⟨j,hj,rfl⟩:=List.mem_iff_getElem.1 hy;exact HG.out j _ (by rw[lxn.out] at hj;omega) (List.getElem?_eq_getElem hj))
   have lz:x.take k=x:=List.take_of_length_le (by rw[lxn.out];omega);rw[lz] at tw1 tw2 tv1 tv2 ⊢;replace HX:=Hd HX;clear lz;generalize WK x xw=tw at *;generalize Ww x xv=tv at *
   by_cases hcap:cap<tw
   ·have hr:Hid (res=(0,9)):=by
     have h:res=(0,9):=by rw[HX.out,if_pos hcap]
     exact h
    go_wp2_with (fail);go_ret2;exact⟨by rw[hr.out];rfl,X1.out.tr Y⟩
   ·have hr:Hid (res=(tv,0)):=by
     have h:res=(tv,0):=by rw[HX.out,if_neg hcap]
     exact h
    go_wp2_with (fail);go_ret2;exact⟨by rw[hr.out];rfl,X1.out.tr Y⟩
theorem Zg2 (i:InstP)(us:List Value)(P:Option Addr)(c m:Nat)(w:World)(H:RInst w us i)(hm:(m:Int)≠i.n) :
  Calls Tryz.prog 99 #[.agg (List.toArray us),.slice P m c] w fun e w'=>e=.returned (.tuple #[.int .i64 0,.int .i64 1])/\Ext w w':=by
 obtain⟨kind,nn,cap,xw,xv,co⟩:=i;obtain⟨A,a,B,b,D,d,rfl,-,-,-⟩:=H;simp only at *;have e1:((m:Int) != nn)=true:=by simpa using hm
 clear hm;go_enter Tryz.func99,Tryz.ntmps99;go_wp2_with (fail);go_ret2;exact⟨rfl,XI⟩
theorem Zfe (i:InstP)(us:List Value)(P:Option Addr)(c:Nat)(x:List Int)(w:World)(H:RInst w us i)(hc:Zk i=0)(hk:i.kind=1)(hP:RdI w P x) :
  Calls Tryz.prog 70 #[.agg (List.toArray us),.slice P x.length c] w fun e w'=>e=.returned (.tuple #[.int .i64 (if (x.length:Int)=i.n/\∀ v∈x,v=0\/v=1 then Vp i.cap i.weight i.value x else(0,1)).1,.int .i64 (if (x.length:Int)=i.n/\∀ v∈x,v=0\/v=1 then Vp i.cap i.weight i.value x else(0,1)).2])/\Ext w w':=by
 have ok:=Yj hc hk;have CH:=fun(W:World) (x:Ext w W)=>Yy i us W (H.ext x) (by have:=ok.w;have:=ok.n2;omega) (by have:=ok.v;have:=ok.n2;omega)
 have VK:∀ (W:World),Ext w W->Calls Tryz.prog 99 #[.agg (List.toArray us),.slice P x.length c] W fun e w'=>e=.returned (.tuple #[.int .i64 (if (x.length:Int)=i.n/\∀ v∈x,v=0\/v=1 then Vp i.cap i.weight i.value x else(0,1)).1,.int .i64 (if (x.length:Int)=i.n/\∀ v∈x,v=0\/v=1 then Vp i.cap i.weight i.value x else(0,1)).2])/\Ext W w':=fun W y=>by
  by_cases hl:(x.length:Int)=i.n
  ·have e:(if (x.length:Int)=i.n/\∀ v∈x,v=0\/v=1 then Vp i.cap i.weight i.value x else(0,1))=if ∀ v∈x,v=0\/v=1 then Vp i.cap i.weight i.value x else(0,1):=by
    simp[hl]
   rw[e];exact Zg1 i us P c x W (H.ext y) hc hk (hP.ext y) hl
  ·rw[if_neg (fun h=>hl h.1)]
   exact Zg2 i us P c x.length W (H.ext y) hl
 rw[hc] at CH;clear ok hP hc;obtain⟨kind,nn,cap,xw,xv,co⟩:=i;obtain⟨A,a,B,b,D,d,rfl,-,-,-⟩:=H;simp only at *;subst hk;generalize (if (x.length:Int)=nn/\∀ v∈x,v=0\/v=1 then Vp cap xw xv x else(0,1))=res at *;have B1:Hid (Blk (w.alloc (.cells #[.int .i64 1,.int .i64 nn,.int .i64 cap,.slice A xw.length a,.slice B xv.length b,.slice D co.length d] 25)) w.heap.size 25 #[.int .i64 1,.int .i64 nn,.int .i64 cap,.slice A xw.length a,.slice B xv.length b,.slice D co.length d]):=.new rfl;replace CH:=Hd CH;replace VK:=Hd VK;go_enter Tryz.func70,Tryz.ntmps70;go_wp2_with (fail);refine(CH.out _ XI).mono ?_;rintro e w1 ⟨rfl,x1⟩;have X1:=Hd (Ext.tr (a:=w) XI x1);have b1:=B1.out.ext x1;have t0:=b1.c0;have t1:=b1.c1;have t2:=b1.c2;have t3:=b1.c3;have t4:=b1.c4;have t5:=b1.c5;clear x1 B1 b1;go_wp2_with (fail);refine(VK.out _ X1.out).mono ?_;rintro e w2 ⟨rfl,x2⟩;have X2:=Hd (X1.out.tr x2);clear x2 t0 t1 t2 t3 t4 t5;go_wp2_with (fail);go_ret2;exact⟨rfl,X2.out.tr XI⟩
theorem Zg3 (i:InstP)(us:List Value)(X:Value)(w:World)(H:RInst w us i)(hc:Zk i≠0)(hlw:i.weight.length<=maxLen)(hlv:i.value.length<=maxLen)(hls:i.weight.length+i.value.length<=maxLen) :
  Calls Tryz.prog 70 #[.agg (List.toArray us),X] w fun e w'=>e=.returned (.tuple #[.int .i64 0,.int .i64 (Zk i)])/\Ext w w':=by
 have CH:=fun(W:World) (x:Ext w W)=>Zg0 i us W (H.ext x) hlw hlv hls
 generalize Zk i=cc at *;have e1:(cc != 0)=true:=by simpa using hc
 obtain⟨kind,nn,cap,xw,xv,co⟩:=i;obtain⟨A,a,B,b,D,d,rfl,-,-,-⟩:=H;simp only at *;replace CH:=Hd CH;clear hc hlw hlv hls;go_enter Tryz.func70,Tryz.ntmps70;go_wp2_with (fail);refine(CH.out _ XI).mono ?_;rintro e w1 ⟨rfl,x1⟩;have X1:=Hd (Ext.tr (a:=w) XI x1);clear x1;go_wp2_with (fail);go_ret2;exact⟨rfl,X1.out⟩
theorem Zbb (i:InstP)(us:List Value)(P:Option Addr)(c:Nat)(x:List Int)(w:World)(H:RInst w us i)(hc:Zk i=0)(hk:i.kind≠1)(hP:RdI w P x)(hx:x.length<=1000)(hno:Vs x i.cost.length=false\/Vs x i.cost.length=true/\i.kind=3/\x[0]?≠some 0) :
  Calls Tryz.prog 70 #[.agg (List.toArray us),.slice P x.length c] w fun e w'=>e=.returned (.tuple #[.int .i64 0,.int .i64 1])/\Ext w w':=by
 have sq:=Zt hc hk;have CH:=fun(W:World) (x:Ext w W)=>Yy i us W (H.ext x) (by rw[sq.w];simp) (by rw[sq.v];simp)
 rw[hc] at CH;have rok:=ZP sq;have n1:=rok.n1;have hin:i.n=(i.cost.length:Int):=sq.len.symm;have PG:=fun(W:World) (y:Ext w W)=>Zgw P c i.cost.length x hx (by have:=rok.n2;omega) W (hP.ext y)
 have LX:Vs x i.cost.length=true->x.length=i.cost.length:=fun h=>by
  obtain⟨l,rfl,hl⟩:=VJ.1 h;rw[Zh,hl.length_eq,List.length_range]
 clear sq rok;obtain⟨kind,nn,cap,xw,xv,co⟩:=i;obtain⟨A,a,B,b,D,d,rfl,-,-,-⟩:=H;simp only at *;subst hin;have e1:(kind==1)=false:=by simpa using hk
 have B1:Hid (Blk (w.alloc (.cells #[.int .i64 kind,.int .i64 co.length,.int .i64 cap,.slice A xw.length a,.slice B xv.length b,.slice D co.length d] 25)) w.heap.size 25 #[.int .i64 kind,.int .i64 co.length,.int .i64 cap,.slice A xw.length a,.slice B xv.length b,.slice D co.length d]):=.new rfl;replace CH:=Hd CH;replace PG:=Hd PG;replace hP:=Hd hP;replace LX:=Hd LX;clear hc;go_enter Tryz.func70,Tryz.ntmps70;go_wp2_with (fail);refine(CH.out _ XI).mono ?_;rintro e w1 ⟨rfl,x1⟩;have X1:=Hd (Ext.tr (a:=w) XI x1);have BB:=Hd (B1.out.ext x1);have d0:=BB.out.c0;have d1:=BB.out.c1;clear x1;rcases hno with hno | ⟨hyes,hk3,hx0⟩
 ·rw[hno] at PG
  go_wp2_with (fail);refine(PG.out _ (X1.out.tr XI)).mono ?_;rintro e w2 ⟨rfl,x2⟩;have X2:=Hd (X1.out.tr (Ext.tr XI x2));clear x2;go_wp2_with (fail);go_ret2;exact⟨rfl,X2.out⟩
 ·have hl:=LX.out hyes
  obtain⟨pb,po,x0,rfl,zp0,cp0,ep0,_⟩:=hP.out.at (k:=0) (by omega);have e0:(x0 != 0)=true:=by
   rw[bne_iff_ne];rintro rfl;exact hx0 ep0.out
  replace cp0:w.cell? ⟨pb,po,none⟩=some (.int .i64 x0):=cp0;have e3:(kind==3)=true:=by simpa using hk3
  have q0:(0:Int)<(x.length:Int):=by omega
  rw[hyes] at PG;replace hk3:=Hd hk3;replace hl:=Hd hl;clear hx0 ep0;go_wp2_with (fail);refine(PG.out _ (X1.out.tr XI)).mono ?_;rintro e w2 ⟨rfl,x2⟩;have X2:=Hd (X1.out.tr (Ext.tr XI x2));have u0:w2.cell? ⟨w.heap.size,0,none⟩=some (.int .i64 kind):=(BB.out.ext (Ext.tr XI x2)).cell 0;have u1:w2.cell? ⟨pb,po,none⟩=some (.int .i64 x0):=Zd X2.out zp0 cp0;clear x2 d0 d1;go_wp2_with (fail);go_ret2;exact⟨rfl,X2.out⟩
theorem Zg4 (i:InstP)(us:List Value)(P:Option Addr)(c:Nat)(x:List Int)(w:World)(H:RInst w us i)(hP:RdI w P x)(hx:x.length<=1000)(hlw:i.weight.length<=maxLen)(hlv:i.value.length<=maxLen)(hls:i.weight.length+i.value.length<=maxLen) :
  Calls Tryz.prog 70 #[.agg (List.toArray us),.slice P x.length c] w fun e w'=>e=.returned (.tuple #[.int .i64 (ZW i x).1,.int .i64 (ZW i x).2])/\Ext w w':=by
 unfold ZW
 by_cases hc:Zk i=0
 ·rw[if_neg (by simpa using hc)]
  by_cases hk:i.kind=1
  ·rw[if_pos hk]
   exact Zfe i us P c x w H hc hk hP
  ·rw[if_neg hk]
   by_cases hp:Vs x i.cost.length=true
   ·obtain⟨l,rfl,hl⟩:=VJ.1 hp
    have hll:l.length=i.cost.length:=by rw[hl.length_eq,List.length_range]
    have hlen:(Zf l).length=i.cost.length:=by rw[Zh,hll]
    have n1:=(ZP (Zt hc hk)).n1;rcases ZL hc with h | h | h
    ·exact absurd h hk
    ·rw[if_pos ⟨hp,fun h3=>by omega⟩,if_pos h,hlen]
     exact ZeR i us P c l w H hc h hP hl
    ·by_cases h0:(Zf l)[0]?=some 0
     ·rw[if_pos ⟨hp,fun _=>h0⟩,if_neg (by omega),hlen]
      cases l with
      | nil=>simp at hll;omega
      | cons a q =>
       obtain rfl:a=0:=by
        simp[Zf] at h0;omega
       have e:(Zf (0::q)).tail.map Int.toNat=q:=by
        simp[Zf,Function.comp_def]
       rw[e];exact Zfd i us P c q w H hc h hP hl
     ·rw[if_neg (fun h9=>h0 (h9.2 h))]
      exact Zbb i us P c _ w H hc hk hP hx (.inr ⟨hp,h,h0⟩)
   ·rw[if_neg (fun h=>hp h.1)]
    exact Zbb i us P c x w H hc hk hP hx (.inl (by simpa using hp))
 ·rw[if_pos hc]
  exact Zg3 i us _ w H hc hlw hlv hls
theorem Zgd : ∀ {l:List Int},Small31 l->0<=Zg l/\Zg l<=(l.length:Int)*2147483647
 | [],_=>by simp[Zg]
 | x::l,h=>by
  have ih:=Zgd (l:=l) fun y hy=>h y (by simp[hy])
  have h1:=h x (by simp);simp only[Zg,List.length_cons];omega
theorem Zff {l:List Int}(h:Small31 l)(k:Nat) : 0<=Zg (l.take k)/\Zg (l.take k)<=(l.length:Int)*2147483647:=by
 have h1:=Zgd (l:=l.take k) fun y hy=>h y (List.mem_of_mem_take hy)
 rw[List.length_take] at h1;omega
theorem Zbc {l:List Int}{k:Nat}{x:Int}(h:l[k]?=some x) : Zg (l.take (k+1))=Zg (l.take k)+x:=by
 rw[List.take_add_one,h,JR];simp[Zg]
theorem Zd8 : ∀ (x vs:List Int),Small31 vs->0<=Ww x vs/\Ww x vs<=(vs.length:Int)*2147483647
 | [],vs,_=>by
  simp only[Ww,List.zipWith_nil_left,Zg];omega
 | _::_,[],_=>by simp[Ww,Zg]
 | a::x,v::vs,h=>by
  have ih:=Zd8 x vs fun y hy=>h y (by simp[hy])
  have h1:=h v (by simp);simp only[Ww,List.zipWith_cons_cons,Zg,List.length_cons] at *;split<;>omega
def ofG (i:InstP)(c:Int) : Int:=if i.kind=1 then Zg i.value-c else c
def Zjo (i:InstP)(x:List Int) : Int×Int:=if (ZW i x).2=0 then(ofG i (ZW i x).1,0) else(0,(ZW i x).2)
theorem Zfg (A:Option Addr)(c:Nat)(xs:List Int)(w:World)(hA:RdI w A xs)(hs:Small31 xs)(hl:xs.length<=1000) :
  Calls Tryz.prog 101 #[.slice A xs.length c] w fun e w'=>e=.returned (.int .i64 (Zg xs))/\Ext w w':=by
 have T1:Hid (∀ k v,xs[k]?=some v->Zg (xs.take (k+1))=Zg (xs.take k)+v):=fun k v h=>Zbc h
 have TB:=Hd (Zff hs);replace hA:=Hd hA;replace hs:=Hd hs;go_enter Tryz.func101,Tryz.ntmps101;go_wp2_with (fail);go_loopw [3,8] (fun a i wr=>∃ k:Nat,i=.int .i64 k/\a=.int .i64 (Zg (xs.take k))/\k<=xs.length/\Hid (Ext w wr)) (fun _ i _=>xs.length-(intOf i).toNat)
 case atStart=>exact⟨0,rfl,rfl,by omega,Ext.rf _⟩
 case round =>
  obtain⟨wo,rfl⟩:=Wq wr;obtain⟨k,rfl,rfl,hk,X⟩:=hrel
  by_cases hlt:k<xs.length
  ·obtain⟨pb,po,y,rfl,zy,cy,ey,_⟩:=(hA.out.ext X.out).at (k:=k) hlt
   have S:=Hd (T1.out k y ey.out);have b1:=TB.out k;have b2:=hs.out.get ey.out;generalize Zg (xs.take k)=tk at *;have w1:IntKind.i64.wrap (tk+y)=tk+y:=IntWalk.i64_in _ (by omega);have q1:(k:Int)<(xs.length:Int):=by omega
   clear ey b1 b2;go_wp2_with (fail);go_roundw
   case rel=>exact⟨k+1,by go_num,by rw[S.out],by omega,X.out.tr XI⟩
   case measure=>simp[intOf];omega
  ·obtain rfl:k=xs.length:=by omega
   rw[List.take_length];go_wp2_with (fail);go_ret;exact⟨rfl,X.out.tr XI⟩
theorem Zjp (i:InstP)(us:List Value)(w:World)(c:Int)(H:RInst w us i)(hc:Zk i=0)(hb:i.kind=1->0<=c/\c<=(i.value.length:Int)*2147483647) :
  Calls Tryz.prog 71 #[.agg (List.toArray us),.int .i64 c] w fun e w'=>e=.returned (.int .i64 (ofG i c))/\Ext w w':=by
 by_cases hk:i.kind=1
 ·have ok:=Yj hc hk
  have k1:=ok.v;have k2:=ok.n2;have TT:∀ (A:Option Addr) (d:Nat) (W:World),RdI W A i.value->Calls Tryz.prog 101 #[.slice A i.value.length d] W fun e w'=>e=.returned (.int .i64 (Zg i.value))/\Ext W w':=fun A d W h=>Zfg A d i.value W h ok.sv (by omega)
  have b1:=Zgd ok.sv;have b2:=hb hk;unfold ofG;rw[if_pos hk];clear ok hc hb;obtain⟨kind,nn,cap,xw,xv,co⟩:=i;obtain⟨A,a,B,b,D,d,rfl,-,⟨rB,-⟩,-⟩:=H;simp only at *;subst hk;generalize Zg xv=sv at *;have w1:IntKind.i64.wrap (sv-c)=sv-c:=IntWalk.i64_in _ (by omega);replace TT:=Hd TT;replace rB:=Hd rB;clear b1 b2 k1;go_enter Tryz.func71,Tryz.ntmps71;go_wp2_with (fail);refine(TT.out _ _ _ (rB.out.ext XI)).mono ?_;rintro e w1 ⟨rfl,x1⟩;have X1:=Hd (Ext.tr (a:=w) XI x1);clear x1;go_wp2_with (fail);go_ret;exact⟨rfl,X1.out⟩
 ·unfold ofG
  rw[if_neg hk];obtain⟨kind,nn,cap,xw,xv,co⟩:=i;obtain⟨A,a,B,b,D,d,rfl,-,-,-⟩:=H;simp only at *;have e1:(kind==1)=false:=by simpa using hk
  clear hc hb hk;go_enter Tryz.func71,Tryz.ntmps71;go_wp2_with (fail);go_ret;exact⟨rfl,XI⟩
theorem Zd9 {i:InstP}{x:List Int}(hk:i.kind=1)(h:(ZW i x).2=0) : Zk i=0/\0<=(ZW i x).1/\(ZW i x).1<=(i.value.length:Int)*2147483647:=by
 unfold ZW at *
 by_cases hc:Zk i=0
 ·rw[if_neg (by simpa using hc),if_pos hk] at *
  have ok:=Yj hc hk;refine⟨hc,?_⟩;split
  ·unfold Vp
   split
   ·exact⟨Int.le_refl _,by simp only;omega⟩
   ·exact Zd8 _ _ ok.sv
  ·exact⟨Int.le_refl _,by simp only;omega⟩
 ·rw[if_pos hc] at h
  exact absurd h hc
theorem Zck {i:InstP}{x:List Int}(h:(ZW i x).2=0) : Zk i=0:=by
 unfold ZW at h;refine Classical.byContradiction fun hc=>?_
 rw[if_pos hc] at h;exact hc h
theorem Zfh (i:InstP)(us:List Value)(P:Option Addr)(c:Nat)(x:List Int)(w:World)(H:RInst w us i)(hP:RdI w P x)(hx:x.length<=1000)(hlw:i.weight.length<=maxLen)(hlv:i.value.length<=maxLen)(hls:i.weight.length+i.value.length<=maxLen) :
  Calls Tryz.prog 41 #[.agg (List.toArray us),.slice P x.length c] w fun e w'=>e=.returned (.tuple #[.int .i64 (Zjo i x).1,.int .i64 (Zjo i x).2])/\Ext w w':=by
 have VC:=fun(W:World) (y:Ext w W)=>Zg4 i us P c x W (H.ext y) (hP.ext y) hx hlw hlv hls
 unfold Zjo
 by_cases h0:(ZW i x).2=0
 ·have VO:=fun(W:World) (y:Ext w W)=>Zjp i us W (ZW i x).1 (H.ext y) (Zck h0) (fun hk=>(Zd9 hk h0).2)
  rw[if_pos h0];rw[h0] at VC;clear h0 hP hx hlw hlv hls;generalize ofG i (ZW i x).1=r at *;generalize (ZW i x).1=cc at *;obtain⟨kind,nn,cap,xw,xv,co⟩:=i;obtain⟨A,a,B,b,D,d,rfl,-,-,-⟩:=H;simp only at *;have B1:Hid (Blk (w.alloc (.cells #[.int .i64 kind,.int .i64 nn,.int .i64 cap,.slice A xw.length a,.slice B xv.length b,.slice D co.length d] 25)) w.heap.size 25 #[.int .i64 kind,.int .i64 nn,.int .i64 cap,.slice A xw.length a,.slice B xv.length b,.slice D co.length d]):=.new rfl;replace VC:=Hd VC;replace VO:=Hd VO;go_enter Tryz.func41,Tryz.ntmps41;go_wp2_with (fail);refine(VC.out _ XI).mono ?_;rintro e w1 ⟨rfl,x1⟩;have X1:=Hd (Ext.tr (a:=w) XI x1);have b1:=B1.out.ext x1;have t0:=b1.c0;have t1:=b1.c1;have t2:=b1.c2;have t3:=b1.c3;have t4:=b1.c4;have t5:=b1.c5;clear x1 B1 b1;go_wp2_with (fail);refine(VO.out _ (X1.out.tr XI)).mono ?_;rintro e w2 ⟨rfl,x2⟩;have X2:=Hd (X1.out.tr (Ext.tr XI x2));clear x2 t0 t1 t2 t3 t4 t5;go_wp2_with (fail);go_ret2;exact⟨rfl,X2.out⟩
 ·rw[if_neg h0]
  generalize (ZW i x).2=ee at *;generalize (ZW i x).1=cc at *;have e1:(ee != 0)=true:=by simpa using h0
  clear h0 hP hx hlw hlv hls;obtain⟨kind,nn,cap,xw,xv,co⟩:=i;obtain⟨A,a,B,b,D,d,rfl,-,-,-⟩:=H;simp only at *;replace VC:=Hd VC;go_enter Tryz.func41,Tryz.ntmps41;go_wp2_with (fail);refine(VC.out _ XI).mono ?_;rintro e w1 ⟨rfl,x1⟩;have X1:=Hd (Ext.tr (a:=w) XI x1);clear x1;go_wp2_with (fail);go_ret2;exact⟨rfl,X1.out⟩
abbrev Txt := List UInt8
def txS (l:Txt) : Value:=.string ⟨l.toArray⟩
theorem Qv (a b:Txt)(l:List Txt)(s:Txt) : Lib.join (a::b::l) s=a++s++Lib.join (b::l) s:=by
 unfold Lib.join;rw[List.intercalate_cons_cons]
theorem V4 : ∀ (l:List Txt) (a s:Txt),l≠[]->Lib.join (l++[a]) s=Lib.join l s++s++a
 | [],_,_,h=>absurd rfl h
 | [b],a,s,_=>by
  rw[List.cons_append,List.nil_append,Qv];rw[Lib.join_one,Lib.join_one]
 | b::c::l,a,s,_=>by
  have ih:=V4 (c::l) a s (by simp);rw[List.cons_append,List.cons_append,Qv,Qv,<-List.cons_append,ih];simp only[List.append_assoc]
def Xg : Txt:=[116,97,107,101]
def tTo : Txt:=[32,116,111,32]
def Zcl : Txt:=[59,32]
def ZbD : Txt:=[32,62,32]
def tAt : Txt:=[58,32]
def ZH (x:List Int)(k:Nat) : List Txt:=((List.range k).filter fun j=>x.getD j 0==1).map fun j:Nat=>Lib.itoa (j:Int)
def Yg (x:List Int)(k:Nat) : List Txt:=(List.range k).map fun j:Nat=>Lib.itoa (j:Int)++tTo++Lib.itoa (x.getD j 0)
def ZO (x:List Int)(k:Nat) : List Txt:=(List.range k).map fun j:Nat=>Lib.itoa (x.getD j 0)
def YU (kind:Int)(x:List Int) : Txt :=
 if kind=1 then Lib.join (Xg::ZH x x.length) [32]
 else if kind=2 then Lib.join (Yg x x.length) Zcl
 else Lib.join (ZO x x.length++[[48]]) ZbD
def Yu (kind:Int)(x:List Int) : Nat->Txt
 | 0=>if kind=1 then Xg else []
 | k+1=>if kind=1 then(if x.getD k 0=1 then Yu kind x k++[32]++Lib.itoa (k:Int) else Yu kind x k)
  else if kind=2 then(if 0<k then Yu kind x k++Zcl else Yu kind x k)++Lib.itoa (k:Int)++tTo++Lib.itoa (x.getD k 0)
  else Yu kind x k++Lib.itoa (x.getD k 0)++ZbD
def Zbd (kind:Int)(x:List Int) : Txt:=if kind=3 then Yu kind x x.length++[48] else Yu kind x x.length
theorem Um (x:List Int)(k:Nat) : ZH x (k+1)=if x.getD k 0=1 then ZH x k++[Lib.itoa (k:Int)] else ZH x k:=by
 unfold ZH;rw[List.range_succ,List.filter_append,List.map_append]
 by_cases h:x.getD k 0=1
 ·have h':(x.getD k 0==1)=true:=by rw[beq_iff_eq];exact h
  rw[if_pos h,List.filter_cons_of_pos (by exact h')]
  rfl
 ·have h':¬(x.getD k 0==1)=true:=by rw[beq_iff_eq];exact h
  rw[if_neg h,List.filter_cons_of_neg (by exact h')];simp
theorem Ja (x:List Int)(k:Nat) : Yg x (k+1)=Yg x k++[Lib.itoa (k:Int)++tTo++Lib.itoa (x.getD k 0)]:=by
 unfold Yg;rw[List.range_succ,List.map_append]
 rfl
theorem Jb (x:List Int)(k:Nat) : ZO x (k+1)=ZO x k++[Lib.itoa (x.getD k 0)]:=by
 unfold ZO;rw[List.range_succ,List.map_append]
 rfl
theorem Zia (x:List Int) : ∀ k,Yu 1 x k=Lib.join (Xg::ZH x k) [32]
 | 0=>by
  simp only[Yu,ZH,List.range_zero,List.filter_nil,List.map_nil,if_true,Lib.join_one]
 | k+1=>by
  have ih:=Zia x k;rw[Um];simp only[Yu,if_true];split
  ·rw[<-List.cons_append,V4 _ _ _ (by simp),<-ih]
  ·exact ih
theorem Zib (x:List Int) : ∀ k,Yu 2 x k=Lib.join (Yg x k) Zcl
 | 0=>by
  simp[Yu,Yg,Lib.join]
 | k+1=>by
  have ih:=Zib x k;rw[Ja];simp only[Yu,show ¬(2:Int)=1 by decide,if_false,if_true]
  by_cases hk:0<k
  ·rw[if_pos hk,V4 _ _ _ (by
    intro h;have:=congrArg List.length h;simp[Yg] at this;omega),<-ih]
   simp only[List.append_assoc]
  ·obtain rfl:k=0:=by omega
   rw[if_neg (by omega)];simp[Yu,Yg,Lib.join_one]
theorem Zic (x:List Int) : ∀ k,Yu 3 x k++[48]=Lib.join (ZO x k++[[48]]) ZbD
 | 0=>by
  simp only[Yu,ZO,List.range_zero,List.map_nil,List.nil_append,Lib.join_one,show ¬(3:Int)=1 by decide,if_false]
 | k+1=>by
  have ih:=Zic x k;rw[Jb,V4 _ _ _ (by simp)];simp only[Yu,show ¬(3:Int)=1 by decide,show ¬(3:Int)=2 by decide,if_false];have e:∀ (l:List Txt) (a:Txt),Lib.join (l++[a]) ZbD=(if l=[] then [] else Lib.join l ZbD++ZbD)++a:=fun l a=>by
   by_cases h:l=[]
   ·subst h
    simp[Lib.join_one]
   ·rw[if_neg h,V4 _ _ _ h]
  rw[e] at ih;have ih2:=List.append_cancel_right ih;rw[e,ih2]
theorem Zea {kind:Int}(hk:kind=1\/kind=2\/kind=3)(x:List Int) : Zbd kind x=YU kind x:=by
 unfold Zbd YU;rcases hk with rfl | rfl | rfl
 ·rw[if_neg (by decide),if_pos rfl,Zia]
 ·rw[if_neg (by decide),if_neg (by decide),if_pos rfl,Zib]
 ·rw[if_pos rfl,if_neg (by decide),if_neg (by decide),Zic]
def dgT (u:Nat) : List UInt8:=if u=0 then [] else Lib.decDigits u
theorem Zid {u:Nat}(h:u≠0) : dgT u=dgT (u / 10)++[UInt8.ofNat (48+u%10)]:=by
 unfold dgT;rw[if_neg h,Lib.decDigits]
 by_cases h1:u<10
 ·rw[dif_pos h1,if_pos (by omega),Nat.mod_eq_of_lt h1]
  rfl
 ·rw[dif_neg h1,if_neg (by omega)]
theorem Qw (n:Int)(h0:-9223372036854775808<=n)(h1:n<=9223372036854775807)(w:World) :
  Calls Tryz.prog 57 #[.int .i64 n] w fun e w'=>e=.returned (.string ⟨(Lib.itoa n).toArray⟩)/\Ext w w':=by
 by_cases hz:n=0
 ·subst hz
  have e9:Lib.itoa 0=[48]:=by
   unfold Lib.itoa;rw[if_neg (by omega)];rw[Lib.decDigits];simp
  rw[e9];go_enter Tryz.func57,Tryz.ntmps57;go_wp2_with (fail);go_ret;exact⟨rfl,XI⟩
 ·have e1:(n==0)=false:=by simpa using hz
  have INV:∀ (i:Nat) (m:Int) (l:List UInt8),dgT m.natAbs++l=dgT n.natAbs->m.natAbs*10^i<=n.natAbs->(m=0->l=Lib.decDigits n.natAbs)/\(m≠0->i<20):=fun i m l e1 e2=>by
   refine⟨fun hm=>?_,fun hm=>?_⟩
   ·subst hm
    have h2:dgT (0:Int).natAbs=[]:=rfl;rw[h2,List.nil_append] at e1;rw[e1];unfold dgT;rw[if_neg (by omega)]
   ·refine Classical.byContradiction fun hi=>?_
    have h3:10^20<=10^i:=Nat.pow_le_pow_right (by omega) (by omega);have h4:1*10^i<=m.natAbs*10^i:=Nat.mul_le_mul_right _ (by omega);omega
  have HA:Hid (dgT n.natAbs++[]=dgT n.natAbs):=by
   have h:dgT n.natAbs++[]=dgT n.natAbs:=List.append_nil _;exact h
  have HL0:Hid (([]:List UInt8).length=0):=by
   have h:([]:List UInt8).length=0:=rfl;exact h
  have HB:Hid (n.natAbs*10^0<=n.natAbs):=Hd (by omega);replace INV:=Hd INV;go_enter Tryz.func57,Tryz.ntmps57;go_wp2_with (fail);go_loopw [3,4,5] (fun v3 v4 v5 wr=>∃ (l:List UInt8) (m:Int) (i:Nat),v3=.string ⟨l.toArray⟩/\v4=.int .i64 m/\v5=.int .i64 i/\i<=20/\Hid (l.length=i)/\Hid (dgT m.natAbs++l=dgT n.natAbs)/\Hid (m.natAbs*10^i<=n.natAbs)/\Hid (Ext w wr)) (fun _ v4 _ _=>(intOf v4).natAbs)
  case atStart=>exact⟨[],n,0,rfl,rfl,rfl,by omega,HL0,HA.out,HB.out,XI⟩
  case round =>
   obtain⟨wo,rfl⟩:=Wq wr;obtain⟨l,m,i,rfl,rfl,rfl,hi,ll,hl,hb,X⟩:=hrel;obtain⟨I1,I2⟩:=INV.out i m l hl.out hb.out;have lb:¬9223372036854775807<1+l.length:=by have:=ll.out;omega
   by_cases hm:m=0
   ·subst hm
    have hl9:=Hd (I1 rfl);clear I1 I2;have e3:((0:Int) != 0)=false:=by simp
    by_cases hi9:(i:Int)<20
    all_goals
     by_cases hn:n<0
     ·have e9:Hid (Lib.itoa n=45::l):=by
       have h:Lib.itoa n=45::l:=by
        unfold Lib.itoa;rw[if_pos hn,hl9.out]
       exact h
      go_wp2_with (fail);go_ret;rw[e9.out];exact⟨by first | rfl | (congr 2),X.out.tr XI⟩
     ·have e9:Hid (Lib.itoa n=l):=by
       have h:Lib.itoa n=l:=by
        unfold Lib.itoa;rw[if_neg hn,hl9.out,show n.natAbs=n.toNat by omega]
       exact h
      go_wp2_with (fail);go_ret;rw[e9.out];exact⟨rfl,X.out.tr XI⟩
   ·have hi20:=I2 hm
    have q1:(i:Int)<20:=by omega
    have e2:(m != 0)=true:=by simpa using hm
    have hmb:m.natAbs<=n.natAbs:=by
     have h3:m.natAbs*1<=m.natAbs*10^i:=Nat.mul_le_mul_left _ (Nat.pow_pos (by omega));have:=hb.out;omega
    have hd1:(m.tmod 10).natAbs=m.natAbs%10:=by rw[Int.natAbs_tmod];rfl
    have hd2:(m.tdiv 10).natAbs=m.natAbs / 10:=by rw[Int.natAbs_tdiv];rfl
    obtain⟨t,ht⟩:∃ t,m.tmod 10=t:=⟨_,rfl⟩;obtain⟨m2,hm2⟩:∃ m2,m.tdiv 10=m2:=⟨_,rfl⟩;rw[ht] at hd1;rw[hm2] at hd2;have wm:IntKind.i64.wrap m2=m2:=IntWalk.i64_in _ (by omega);obtain⟨d,hd⟩:∃ d,Hid (m.natAbs%10=d):=⟨_,rfl⟩;rw[hd.out] at hd1;have d9:d<=9:=by have:=hd.out;omega
    have w1:IntKind.i64.wrap (48+(d:Int))=48+(d:Int):=IntWalk.i64_in _ (by omega);have NL:Hid (dgT m2.natAbs++(UInt8.ofNat (48+d)::l)=dgT n.natAbs):=Hd (by
     rw[<-hl.out,Zid (u:=m.natAbs) (by omega),hd2,hd.out,List.append_assoc]
     rfl)
    have NB:Hid (m2.natAbs*10^(i+1)<=n.natAbs):=Hd (by
     refine Nat.le_trans ?_ hb.out;rw[Nat.pow_succ,hd2,Nat.mul_comm (10^i) 10,<-Nat.mul_assoc];exact Nat.mul_le_mul_right _ (Nat.div_mul_le_self _ _))
    have MS:Hid (m2.natAbs<m.natAbs):=Hd (by omega);clear hl hb I1 I2 hmb;have CV:=run_convert_bytes_arg (P:=Tryz.prog) (wo.alloc (.cells #[.int .u8 (48+(d:Int))] 5)) 48 5 Tryz.underlying48 Tryz.underlying5 wo.heap.size 0 1 1 [48+(d:Int)] rfl (fun i hi=>by
     obtain rfl:i=0:=by omega
     exact(show Blk (wo.alloc (.cells #[.int .u8 (48+(d:Int))] 5)) wo.heap.size 5 #[.int .u8 (48+(d:Int))] from .new rfl).cell 0) 9 Tryz.underlying9
    obtain⟨s0,hs0⟩:∃ s0,Hid (strOfNums [48+(d:Int)]=s0):=⟨_,rfl⟩;rw[hs0.out] at CV;have ls:¬9223372036854775807<s0.size+l.length:=by
     have h:s0.size=1:=by rw[<-hs0.out];rfl
     have:=ll.out;omega
    have LL:Hid ((UInt8.ofNat (48+d)::l).length=i+1):=Hd (by rw[List.length_cons,ll.out]);have ES:Hid (s0++(⟨l.toArray⟩:ByteArray)=⟨(UInt8.ofNat (48+d)::l).toArray⟩):=Hd (by
     rw[<-hs0.out];have e1:(48+(d:Int)).toNat=48+d:=by omega
     simp only[strOfNums,List.map_cons,List.map_nil,e1];apply ByteArray.ext;rw[ByteArray.data_append];simp)
    by_cases hneg:t<0
    ·have w0:IntKind.i64.wrap (0-t)=(d:Int):=by rw[show 0-t=(d:Int) by omega];exact IntWalk.i64_in _ (by omega)
     have w0':IntKind.i64.wrap (-t)=(d:Int):=by rw[show -t=(d:Int) by omega];exact IntWalk.i64_in _ (by omega)
     clear hd1 hd2;go_wp2_with (fail);go_roundw
     case rel=>exact⟨UInt8.ofNat (48+d)::l,m2,i+1,by rw[<-ES.out],rfl,by go_num,by omega,LL,NL,NB,X.out.tr XI⟩
     case measure=>(have h9:=MS.out;simp only[intOf];exact h9)
    ·obtain rfl:t=(d:Int):=by omega
     clear hd1 hd2;go_wp2_with (fail);go_roundw
     case rel=>exact⟨UInt8.ofNat (48+d)::l,m2,i+1,by rw[<-ES.out],rfl,by go_num,by omega,LL,NL,NB,X.out.tr XI⟩
     case measure=>(have h9:=MS.out;simp only[intOf];exact h9)
theorem Zam (n:Int)(h:0<=n/\n<=9223372036854775807) : (Lib.itoa n).length<=21:=Lib.itoa_length_le n (by omega) h.2
theorem Z8 (a b:Txt) : (⟨a.toArray⟩:ByteArray)++⟨b.toArray⟩=⟨(a++b).toArray⟩:=by
 apply ByteArray.ext;rw[ByteArray.data_append];simp
def Zfi (i:InstP)(x:List Int) : Txt×Int:=if (ZW i x).2=0 then(Zbd i.kind x++tAt++Lib.itoa (ofG i (ZW i x).1)++[10],0) else([],(ZW i x).2)
structure AnsIs (i:InstP)(x:List Int) : Prop where
 chk:Zk i=0
 len:(x.length:Int)=i.n
 n64:x.length<=64
 rng:∀ y∈x,0<=y/\y<=1000
 c0:0<=(ZW i x).1
 c1:(ZW i x).1<=137438953408
theorem ZcX {i:InstP}{x:List Int}(h:(ZW i x).2=0) : AnsIs i x:=by
 have hc:=Zck h
 by_cases hk:i.kind=1
 ·have b:=(Zd9 hk h).2
  have ok:=Yj hc hk;have k2:=ok.n2;have k3:=ok.v;unfold ZW at h;rw[if_neg (by simpa using hc),if_pos hk] at h
  by_cases hl:(x.length:Int)=i.n/\∀ v∈x,v=0\/v=1
  ·exact⟨hc,hl.1,by omega,fun y hy=>by rcases hl.2 y hy with e | e<;>omega,b.1,by omega⟩
  ·rw[if_neg hl] at h
   exact absurd h (by decide)
 ·have sq:=Zt hc hk
  have rok:=ZP sq;have n2:=rok.n2;have n1:=rok.n1;have hin:(i.cost.length:Int)=i.n:=sq.len;have num:=Uy rok;have h':=h;unfold ZW at h';rw[if_neg (by simpa using hc),if_neg hk] at h'
  by_cases hp:Vs x i.cost.length=true/\(i.kind=3->x[0]?=some 0)
  ·obtain⟨l,rfl,hl⟩:=VJ.1 hp.1
   have ll:l.length=i.cost.length:=by rw[hl.length_eq,List.length_range]
   have lt:∀ y∈l,y<i.cost.length:=fun y hy=>List.mem_range.1 (hl.mem_iff.1 hy)
   have hb:0<=(ZW i (Zf l)).1/\(ZW i (Zf l)).1<=137438953408:=by
    unfold ZW;rw[if_neg (by simpa using hc),if_neg hk,if_pos hp]
    by_cases h2:i.kind=2
    ·simp only[h2,if_true]
     rw[Uv ll.symm];have h1:=XA (f:=fun k=>Za i.cost k (l.getD k 0)) (B:=2147483647) (List.range l.length) (fun k hk=>by
      have hk:=List.mem_range.1 hk;have e:l[k]?=some l[k]:=List.getElem?_eq_getElem hk;rw[getD_some e];exact num k _ (by omega) (lt _ (List.getElem_mem hk)))
     rw[List.length_range] at h1;omega
    ·simp only[h2,if_false]
     have e:(Zf l).tail.map Int.toNat=l.tail:=by
      cases l with
      | nil=>rfl
      | cons a q=>simp[Zf,Function.comp_def]
     rw[e];have h1:=QT num l.tail 0 (by omega) fun y hy=>lt y (List.mem_of_mem_tail hy)
     have h3:l.tail.length<=24:=by rw[List.length_tail];omega
     omega
   refine⟨hc,by rw[Zh,ll];exact hin,by rw[Zh,ll];omega,fun y hy=>?_,hb.1,hb.2⟩;obtain⟨k,hk,rfl⟩:=List.mem_map.1 hy;have:=lt k hk;omega
  ·rw[if_neg hp] at h'
   exact absurd h' (by decide)
theorem ZjW {i:InstP}{x:List Int}(h:(ZW i x).2=0) : -9223372036854775808<=ofG i (ZW i x).1/\ofG i (ZW i x).1<=9223372036854775807:=by
 have A:=ZcX h;have a1:=A.c0;have a2:=A.c1;unfold ofG;split
 ·rename_i hk
  have ok:=Yj A.chk hk;have s:=Zgd ok.sv;have k2:=ok.n2;have k3:=ok.v;omega
 ·omega
end
section
open Go.Shelf
def Zeb : Go.Shelf.Ren:=⟨fun | 171=>64 | 243=>94 | 246=>113 | 283=>131 | 284=>132 | 285=>133 | 286=>134 | 129=>130 | 317=>144 | 318=>145 | 319=>146 | 320=>147 | 337=>154 | 338=>155 | n=>n,fun | 3=>3 | 9=>9 | 2=>2 | 4=>4 | 171=>177 | 0=>0 | 53=>141 | 37=>48 | 5=>5 | 173=>179 | 212=>196 | 51=>138 | 20=>20 | 213=>197 | 46=>112 | 232=>205 | 233=>206 | n=>n,fun | 17=>1 | 18=>2 | 19=>3 | n=>n⟩
theorem Zjq : LaysM.n171 Tryz.prog Zeb where
 mixed:=by kernel_rfl
 f129:=Tryz.func130.trans (congrArg some (by kernel_rfl))
 f171:=Tryz.func64.trans (congrArg some (by kernel_rfl))
 f243:=Tryz.func94.trans (congrArg some (by kernel_rfl))
 f246:=Tryz.func113.trans (congrArg some (by kernel_rfl))
 f283:=Tryz.func131.trans (congrArg some (by kernel_rfl))
 f284:=Tryz.func132.trans (congrArg some (by kernel_rfl))
 f285:=Tryz.func133.trans (congrArg some (by kernel_rfl))
 f286:=Tryz.func134.trans (congrArg some (by kernel_rfl))
 f317:=Tryz.func144.trans (congrArg some (by kernel_rfl))
 f318:=Tryz.func145.trans (congrArg some (by kernel_rfl))
 f319:=Tryz.func146.trans (congrArg some (by kernel_rfl))
 f320:=Tryz.func147.trans (congrArg some (by kernel_rfl))
 f337:=Tryz.func154.trans (congrArg some (by kernel_rfl))
 f338:=Tryz.func155.trans (congrArg some (by kernel_rfl))
 t0:=Tryz.underlying0
 a0:=Tryz.isAgg0
 z0:=Tryz.sizeOf0
 v0:=Tryz.zeroValue0
 t2:=Tryz.underlying2
 a2:=Tryz.isAgg2
 z2:=Tryz.sizeOf2
 v2:=Tryz.zeroValue2
 t3:=Tryz.underlying3
 a3:=Tryz.isAgg3
 z3:=Tryz.sizeOf3
 v3:=Tryz.zeroValue3
 t4:=Tryz.underlying4
 a4:=Tryz.isAgg4
 z4:=Tryz.sizeOf4
 v4:=Tryz.zeroValue4
 t5:=Tryz.underlying5
 a5:=Tryz.isAgg5
 z5:=Tryz.sizeOf5
 v5:=Tryz.zeroValue5
 t9:=Tryz.underlying9
 a9:=Tryz.isAgg9
 z9:=Tryz.sizeOf9
 v9:=Tryz.zeroValue9
 t20:=Tryz.underlying20
 a20:=Tryz.isAgg20
 z20:=Tryz.sizeOf20
 v20:=Tryz.zeroValue20
 t37:=Tryz.underlying48
 a37:=Tryz.isAgg48
 z37:=Tryz.sizeOf48
 v37:=Tryz.zeroValue48
 t46:=Tryz.underlying112
 a46:=Tryz.isAgg112
 z46:=Tryz.sizeOf112
 v46:=Tryz.zeroValue112
 t51:=Tryz.underlying138
 a51:=Tryz.isAgg138
 z51:=Tryz.sizeOf138
 v51:=Tryz.zeroValue138
 t53:=Tryz.underlying141
 a53:=Tryz.isAgg141
 z53:=Tryz.sizeOf141
 v53:=Tryz.zeroValue141
 t171:=Tryz.underlying177
 a171:=Tryz.isAgg177
 z171:=Tryz.sizeOf177
 v171:=Tryz.zeroValue177
 t173:=Tryz.underlying179
 a173:=Tryz.isAgg179
 z173:=Tryz.sizeOf179
 v173:=Tryz.zeroValue179
 t212:=Tryz.underlying196
 a212:=Tryz.isAgg196
 z212:=Tryz.sizeOf196
 v212:=Tryz.zeroValue196
 t213:=Tryz.underlying197
 a213:=Tryz.isAgg197
 z213:=Tryz.sizeOf197
 t232:=Tryz.underlying205
 a232:=Tryz.isAgg205
 z232:=Tryz.sizeOf205
 v232:=Tryz.zeroValue205
 t233:=Tryz.underlying206
 a233:=Tryz.isAgg206
 z233:=Tryz.sizeOf206
 v233:=Tryz.zeroValue206
 g17:=by kernel_rfl
 g18:=by kernel_rfl
 g19:=by kernel_rfl
 i0:=by kernel_rfl
 i2:=by kernel_rfl
 i3:=by kernel_rfl
 i4:=by kernel_rfl
 i5:=by kernel_rfl
 i9:=by kernel_rfl
 i20:=by kernel_rfl
 i37:=by kernel_rfl
 i46:=by kernel_rfl
 i51:=by kernel_rfl
 i53:=by kernel_rfl
 i171:=by kernel_rfl
 i173:=by kernel_rfl
 i212:=by kernel_rfl
 i232:=by kernel_rfl
 i233:=by kernel_rfl
 m17:=by kernel_rfl
 m18:=by kernel_rfl
 m19:=by kernel_rfl
end
section
def Ten (w:World) : Prop:=Lib.TabIs Tryz.prog w "internal/strconv.uint64pow10" .u64 Lib.pow10Tab
theorem Ten.ext {w w':World}(h:Ten w)(x:Ext w w') : Ten w':=Lib.tabBelow_of_tabIs h w' x
theorem Zie {w0 w:World}(h:Ext w0 w)(os:Array Obj) : Ext w0 (Go.Sort.grow w os) :=
 Below.trans h ⟨rfl,rfl,rfl,by simp[Go.Sort.grow],fun k hk=>by have:=h.size;simp only[Go.Sort.grow];exact Array.getElem?_append_left (by omega)⟩
theorem Zif (n:Int)(h0:-9223372036854775808<=n)(h1:n<=9223372036854775807)(w:World)(hT:Ten w) :
  Calls Tryz.prog 64 #[.int .i64 n] w fun e w'=>e=.returned (.string ⟨(Lib.itoa n).toArray⟩)/\Ext w w':=by
 refine(Any.strconv_Itoa Zjq n h0 h1 w hT).mono ?_;rintro e w' ⟨rfl,k,os,rfl⟩;exact⟨rfl,Zie ((Ext.rf w).drewN k) os⟩
theorem WZ (n:Int)(h0:-9223372036854775808<=n)(h1:n<=9223372036854775807)(w:World)(hT:Ten w) :
  Calls Tryz.prog 38 #[.int .i64 n] w fun e w'=>e=.returned (.string ⟨(Lib.itoa n).toArray⟩)/\Ext w w':=by
 have IT:=Hd (fun(W:World) (x:Ext w W)=>Zif n h0 h1 W (hT.ext x));go_enter Tryz.func38,Tryz.ntmps38;go_wp2_with (fail);refine(IT.out _ XI).mono ?_;rintro e w1 ⟨rfl,x1⟩;have X1:=Hd (Ext.tr (a:=w) XI x1);go_wp2_with (fail);go_ret;exact⟨rfl,X1.out⟩
theorem Zig (i:InstP)(us:List Value)(P:Option Addr)(c:Nat)(x:List Int)(w:World)(H:RInst w us i)(hP:RdI w P x)(hT:Ten w)(hx:x.length<=1000)(hlw:i.weight.length<=maxLen)(hlv:i.value.length<=maxLen)(hls:i.weight.length+i.value.length<=maxLen)
  (WO:(ZW i x).2=0->∀ W,Ext w W->Calls Tryz.prog 42 #[.agg (List.toArray us),.slice P x.length c] W fun e w'=>e=.returned (txS (YU i.kind x))/\Ext W w')
  (WL0:(ZW i x).2=0->(YU i.kind x).length<=10000) :
  Calls Tryz.prog 18 #[.agg (List.toArray us),.slice P x.length c] w fun e w'=>e=.returned (.tuple #[txS (Zfi i x).1,.int .i64 (Zfi i x).2])/\Ext w w':=by
 have VV:=fun(W:World) (y:Ext w W)=>Zfh i us P c x W (H.ext y) (hP.ext y) hx hlw hlv hls
 unfold Zfi;unfold Zjo at VV
 by_cases h:(ZW i x).2=0
 ·have A:=ZcX h
  have vb:=ZjW h;have WO':=WO h;have WL:=WL0 h;have WD:=fun(W:World) (y:Ext w W)=>WZ (ofG i (ZW i x).1) vb.1 vb.2 W (hT.ext y)
  have li:=Lib.itoa_length_le _ vb.1 vb.2;rw[if_pos h] at VV ⊢;rw[Zea (ZL A.chk)];clear WO WL0 A vb h hT hP hx hlw hlv hls;generalize ofG i (ZW i x).1=vv at *;generalize hiv:Lib.itoa vv=tv at *;generalize YU i.kind x=l at *;have lA:¬9223372036854775807<l.length+2:=by omega
  have lB:¬9223372036854775807<l.length+2+tv.length:=by omega
  have lC:¬9223372036854775807<l.length+2+tv.length+1:=by omega
  have ES:Hid ((⟨l.toArray⟩:ByteArray)++⟨#[58,32]⟩++⟨tv.toArray⟩++⟨#[10]⟩=⟨(l++tAt++tv++[10]).toArray⟩):=Hd (by
   rw[show (⟨#[58,32]⟩:ByteArray)=⟨(tAt:Txt).toArray⟩ from rfl,show (⟨#[10]⟩:ByteArray)=⟨([10]:Txt).toArray⟩ from rfl,Z8,Z8,Z8])
  obtain⟨kind,nn,cap,xw,xv,co⟩:=i;obtain⟨A,a,B,b,D,d,rfl,-,-,-⟩:=H;simp only at *;have B1:Hid (Blk (w.alloc (.cells #[.int .i64 kind,.int .i64 nn,.int .i64 cap,.slice A xw.length a,.slice B xv.length b,.slice D co.length d] 25)) w.heap.size 25 #[.int .i64 kind,.int .i64 nn,.int .i64 cap,.slice A xw.length a,.slice B xv.length b,.slice D co.length d]):=.new rfl;replace VV:=Hd VV;replace WO':=Hd WO';replace WD:=Hd WD;replace hiv:=Hd hiv;unfold txS at *;go_enter Tryz.func18,Tryz.ntmps18;go_wp2_with (fail);refine(VV.out _ XI).mono ?_;rintro e w1 ⟨rfl,x1⟩;have X1:=Hd (Ext.tr (a:=w) XI x1);have b1:=B1.out.ext x1;have t0:=b1.c0;have t1:=b1.c1;have t2:=b1.c2;have t3:=b1.c3;have t4:=b1.c4;have t5:=b1.c5;clear x1 B1 b1;go_wp2_with (fail);refine(WO'.out _ (X1.out.tr XI)).mono ?_;rintro e w2 ⟨rfl,x2⟩;have X2:=Hd (X1.out.tr (Ext.tr XI x2));clear x2 t0 t1 t2 t3 t4 t5;go_wp2_with (fail);refine(WD.out _ (X2.out.tr XI)).mono ?_;rintro e w3 ⟨rfl,x3⟩;have X3:=Hd (X2.out.tr (Ext.tr XI x3));clear x3;go_wp2_with (fail);go_ret2;exact⟨by rw[<-ES.out];rfl,X3.out⟩
 ·rw[if_neg h] at VV ⊢
  generalize (ZW i x).2=ee at *;have e1:(ee != 0)=true:=by simpa using h
  clear h hP WO WL0 hT hx hlw hlv hls;obtain⟨kind,nn,cap,xw,xv,co⟩:=i;obtain⟨A,a,B,b,D,d,rfl,-,-,-⟩:=H;simp only at *;replace VV:=Hd VV;unfold txS;go_enter Tryz.func18,Tryz.ntmps18;go_wp2_with (fail);refine(VV.out _ XI).mono ?_;rintro e w1 ⟨rfl,x1⟩;have X1:=Hd (Ext.tr (a:=w) XI x1);clear x1;go_wp2_with (fail);go_ret2;exact⟨rfl,X1.out⟩
theorem Zbe (kind:Int)(x:List Int)(hl:x.length<=64)(hx:∀ y∈x,0<=y/\y<=1000) : ∀ k,k<=x.length->(Yu kind x k).length<=48*k+4
 | 0,_=>by
  unfold Yu;split<;>simp[Xg]
 | k+1,h=>by
  have ih:=Zbe kind x hl hx k (by omega);have e:x.getD k 0=x[k]:=getD_some (List.getElem?_eq_getElem (by omega));have b:=hx (x[k]'(by omega)) (List.getElem_mem _);have h1:=Zam (x[k]'(by omega)) (by omega);have h2:=Zam (k:Int) (by omega);rw[<-e] at h1;unfold Yu;split
  ·split
   ·simp only[List.length_append,List.length_cons,List.length_nil];omega
   ·omega
  ·split
   ·split<;>(simp only[List.length_append,tTo,Zcl,List.length_cons,List.length_nil];omega)
   ·simp only[List.length_append,ZbD,List.length_cons,List.length_nil];omega
theorem Zfj {kind:Int}(hk:kind=1\/kind=2\/kind=3){x:List Int}(hl:x.length<=64)(hx:∀ y∈x,0<=y/\y<=1000) : (YU kind x).length<=10000:=by
 rw[<-Zea hk];have h:=Zbe kind x hl hx x.length (Nat.le_refl _);unfold Zbd;split
 ·simp only[List.length_append,List.length_cons,List.length_nil];omega
 ·omega
end
section
open Go.Shelf
def J3 : Go.Shelf.Ren:=⟨fun | 156=>72 | 165=>67 | 166=>15 | 169=>17 | 240=>40 | 241=>98 | 276=>69 | 277=>114 | n=>n,fun | 31=>106 | 9=>9 | 3=>3 | 4=>4 | 0=>0 | 20=>20 | 72=>50 | 76=>55 | 70=>47 | 37=>48 | 75=>54 | 127=>94 | 164=>117 | 5=>5 | 80=>58 | n=>n,fun n=>n⟩
theorem Zjr : Lays.n156 Tryz.prog J3 where
 mixed:=by kernel_rfl
 f156:=Tryz.func72.trans (congrArg some (by kernel_rfl))
 f165:=Tryz.func67.trans (congrArg some (by kernel_rfl))
 f166:=Tryz.func15.trans (congrArg some (by kernel_rfl))
 f169:=Tryz.func17.trans (congrArg some (by kernel_rfl))
 f240:=Tryz.func40.trans (congrArg some (by kernel_rfl))
 f241:=Tryz.func98.trans (congrArg some (by kernel_rfl))
 f276:=Tryz.func69.trans (congrArg some (by kernel_rfl))
 f277:=Tryz.func114.trans (congrArg some (by kernel_rfl))
 t0:=Tryz.underlying0
 a0:=Tryz.isAgg0
 z0:=Tryz.sizeOf0
 v0:=Tryz.zeroValue0
 t3:=Tryz.underlying3
 a3:=Tryz.isAgg3
 z3:=Tryz.sizeOf3
 v3:=Tryz.zeroValue3
 t4:=Tryz.underlying4
 a4:=Tryz.isAgg4
 z4:=Tryz.sizeOf4
 v4:=Tryz.zeroValue4
 t9:=Tryz.underlying9
 a9:=Tryz.isAgg9
 z9:=Tryz.sizeOf9
 v9:=Tryz.zeroValue9
 t20:=Tryz.underlying20
 a20:=Tryz.isAgg20
 z20:=Tryz.sizeOf20
 v20:=Tryz.zeroValue20
 t31:=Tryz.underlying106
 a31:=Tryz.isAgg106
 z31:=Tryz.sizeOf106
 v31:=Tryz.zeroValue106
 t37:=Tryz.underlying48
 a37:=Tryz.isAgg48
 z37:=Tryz.sizeOf48
 v37:=Tryz.zeroValue48
 t70:=Tryz.underlying47
 a70:=Tryz.isAgg47
 z70:=Tryz.sizeOf47
 v70:=Tryz.zeroValue47
 t72:=Tryz.underlying50
 a72:=Tryz.isAgg50
 z72:=Tryz.sizeOf50
 v72:=Tryz.zeroValue50
 t75:=Tryz.underlying54
 a75:=Tryz.isAgg54
 z75:=Tryz.sizeOf54
 v75:=Tryz.zeroValue54
 t76:=Tryz.underlying55
 a76:=Tryz.isAgg55
 z76:=Tryz.sizeOf55
 v76:=Tryz.zeroValue55
 t127:=Tryz.underlying94
 a127:=Tryz.isAgg94
 z127:=Tryz.sizeOf94
 v127:=Tryz.zeroValue94
 t164:=Tryz.underlying117
 a164:=Tryz.isAgg117
 z164:=Tryz.sizeOf117
 v164:=Tryz.zeroValue117
theorem Zg5 : Builder.Extra Tryz.prog J3 where
 sizeBuilder:=by kernel_rfl
 liesBuilder:=by kernel_rfl
 t5:=Tryz.underlying5
 a5:=Tryz.isAgg5
 z5:=Tryz.sizeOf5
 v5:=Tryz.zeroValue5
 infoByte:=by kernel_rfl
 cellsByte:=by kernel_rfl
 sizeByte:=by kernel_rfl
 neB5:=by decide
theorem Zih (bk o c:Nat)(xs:List ByteArray)(sep:ByteArray)(w:World)
  (hcells:∀ (j:Nat) x,xs[j]?=some x->w.cell? ⟨bk,o+j,none⟩=some (.string x))
  (hbk:bk<w.heap.size) (hN:xs.length<=140737488355328) (hcap:xs.length<=c)
  (hlen:(Lib.join (xs.map (·.data.toList)) sep.data.toList).length<=140737488355328) :
  Calls Tryz.prog 72 #[.slice (some ⟨bk,o,none⟩) xs.length c,.string sep] w fun e w'=>e=.returned (.string ⟨(Lib.join (xs.map (·.data.toList)) sep.data.toList).toArray⟩)/\Ext w w' :=
 Any.strings_Join Zjr Zg5 bk o c xs sep w hcells hbk hN hcap hlen
end
section
theorem Zbf : (Tryz.prog.info? 9).map (fun i=>(i.zero,i.size,i.bytes))=some (some (.string ⟨#[]⟩),1,16):=by kernel_rfl
def txV (l:List Txt) : List Value:=l.map txS
theorem Jc (l:List Txt)(a:Txt) : txV (l++[a])=txV l++[txS a]:=by unfold txV;rw[List.map_append];rfl
theorem Zbg (base:Nat)(A:Option Addr)(c:Nat)(l:List Txt)(s:Txt)(w:World)(h:OwV w base 9 1 A l.length c (txV l))(h0:l≠[])(hn:l.length<=1000)(hlen:(Lib.join l s).length<=140737488355328) :
  Calls Tryz.prog 72 #[.slice A l.length c,.string ⟨s.toArray⟩] w fun e w'=>e=.returned (txS (Lib.join l s))/\Ext w w':=by
 have hr:=h.read.rdC;have hle:=h.le;rcases hr with e | ⟨b,off,rfl,hlt,hc⟩
 ·exact absurd (List.map_eq_nil_iff.1 e) h0
 ·have e1:(l.map fun t:Txt=>(⟨t.toArray⟩:ByteArray)).map (·.data.toList)=l:=by
   rw[List.map_map];exact(List.map_congr_left fun t _=>by simp).trans (List.map_id l)
  have J:=Zih b off c (l.map fun t:Txt=>(⟨t.toArray⟩:ByteArray)) ⟨s.toArray⟩ w (fun j x hj=>by
   rw[List.getElem?_map] at hj;obtain⟨t,ht,rfl⟩:=Option.map_eq_some_iff.1 hj;refine hc j _ ?_;unfold txV;rw[List.getElem?_map,ht]
   rfl) hlt (by rw[List.length_map];omega) (by rw[List.length_map];exact hle.1) (by rw[e1];simpa using hlen)
  rw[e1,List.length_map] at J;refine J.mono ?_;rintro e w' ⟨rfl,x⟩;exact⟨by simp[txS],x⟩
theorem Zfk (i:InstP)(us:List Value)(P:Option Addr)(c:Nat)(x:List Int)(w:World)(H:RInst w us i)(hP:RdI w P x)(hT:Ten w)(hk:i.kind=3)(hl:x.length<=64)(hx:∀ y∈x,0<=y/\y<=1000)(hJ:(YU 3 x).length<=10000) :
  Calls Tryz.prog 42 #[.agg (List.toArray us),.slice P x.length c] w fun e w'=>e=.returned (txS (YU 3 x))/\Ext w w':=by
 obtain⟨i0,hi,hz0,hz1,hz2⟩:=info_parts Zbf;have WE:Hid (YU 3 x=Lib.join (ZO x x.length++[[48]]) ZbD):=Hd (by unfold YU;rw[if_neg (by decide),if_neg (by decide)]);have WD:=fun(W:World) (y:Ext w W) (n:Int) (h:0<=n/\n<=1000)=>WZ n (by omega) (by omega) W (hT.ext y)
 have PS:Hid (∀ k,ZO x (k+1)=ZO x k++[Lib.itoa (x.getD k 0)]):=fun k=>Jb x k
 have PL:Hid (∀ k,(ZO x k).length=k):=fun k=>by unfold ZO;rw[List.length_map,List.length_range]
 obtain⟨kind,nn,cap,xw,xv,co⟩:=i;obtain⟨A,a,B,b,D,d,rfl,-,-,-⟩:=H;simp only at *;subst hk;replace hi:=Hd hi;replace hz0:=Hd hz0;replace hz1:=Hd hz1;replace hz2:=Hd hz2;replace WD:=Hd WD;replace hP:=Hd hP;replace hx:=Hd hx;replace hJ:=Hd hJ;clear hT;have START:Hid (OwV (w.alloc (.cells #[.int .i64 3,.int .i64 nn,.int .i64 cap,.slice A xw.length a,.slice B xv.length b,.slice D co.length d] 25)) w.heap.size 9 1 none 0 0 (txV (ZO x 0))):=OwV.nil _ _ _ _;unfold txS at *;go_enter Tryz.func42,Tryz.ntmps42;go_wp2_with (fail);go_loopw [5,59] (fun v5 v59 wr=>∃ (k:Nat) (C':Option Addr) (cc:Nat),v59=.int .i64 k/\v5=.slice C' k cc/\k<=x.length/\Hid (OwV wr w.heap.size 9 1 C' k cc (txV (ZO x k)))/\Hid (Ext w wr)) (fun _ v _=>x.length-(intOf v).toNat)
 case atStart=>exact⟨0,none,0,rfl,rfl,by omega,START,XI⟩
 case round =>
  obtain⟨wo,rfl⟩:=Wq wr;clear START;obtain⟨k,C',cc,rfl,rfl,hk,oV,Y⟩:=hrel;have hk64:k<=64:=by omega
  have zw:=Y.out.size
  by_cases hlt:k<x.length
  ·obtain⟨pb,po,y,rfl,zy,cy,ey,_⟩:=(hP.out.ext Y.out).at (k:=k) hlt
   have q1:(k:Int)<(x.length:Int):=by omega
   have yb:=hx.out y (List.mem_of_getElem? ey.out);have PE:Hid (txV (ZO x (k+1))=txV (ZO x k)++[txS (Lib.itoa y)]):=Hd (by rw[PS.out,getD_some ey.out,Jc]);clear ey;go_wp2_with (fail);refine(WD.out _ (Y.out.tr XI) y yb).mono ?_;rintro e w5 ⟨rfl,x5⟩;have oV5:=oV.out.ext (Ext.tr (a:=wo) XI x5);have x5':=Ext.tr (a:=wo) XI x5;have zw5:=x5'.size;go_wp2_with (at_builtin;refine ZU _ (e:=9) Tryz.underlying106 hi.out hz0.out hz1.out hz2.out (by simp[Value.cells]) (by omega) rfl _ _ rfl w.heap.size C' k cc (txV (ZO x k)) (some ⟨w5.heap.size,0,none⟩) 1 1 [txS (Lib.itoa y)] rfl rfl (oV5.ext ((Ext.rf _).alloc _)) (RdV.blk (.new (by simp))).rdC (by simp) (by simp[Value.oneCell',txS]) (by simp only[maxLen];omega) (by omega) (by simp;omega) ?_;rintro C6 c6 w6 o6 g6 _);have M6:=(oV5.ext ((Ext.rf w5).alloc (.cells #[txS (Lib.itoa y)] 9))).grownT g6;have X6:Ext wo (w5.alloc (.cells #[txS (Lib.itoa y)] 9)):=x5'.tr ((Ext.rf _).alloc _);have NEW:Hid (OwV w6 w.heap.size 9 1 C6 (k+1) c6 (txV (ZO x (k+1)))):=Hd (by rw[PE.out];exact o6);have XN:Hid (Ext w w6):=(Y.out.tr X6).modT M6 (Nat.le_refl _);clear oV5 x5 x5' o6 g6 M6 X6;go_wp2_with (fail);go_roundw
   case rel=>exact⟨k+1,C6,c6,by go_num,rfl,by omega,NEW,XN⟩
   case measure=>simp[intOf];omega
  ·obtain rfl:k=x.length:=by omega
   have PN:Hid (txV (ZO x x.length++[[48]])=txV (ZO x x.length)++[txS [48]]):=by
    have h:txV (ZO x x.length++[[48]])=txV (ZO x x.length)++[txS [48]]:=Jc _ _;exact h
   have LN:Hid ((ZO x x.length++[[48]]).length=x.length+1):=Hd (by rw[List.length_append,PL.out];rfl);go_wp2_with (at_builtin;refine ZU _ (e:=9) Tryz.underlying106 hi.out hz0.out hz1.out hz2.out (by simp[Value.cells]) (by omega) rfl _ _ rfl w.heap.size C' x.length cc (txV (ZO x x.length)) (some ⟨wo.heap.size,0,none⟩) 1 1 [txS [48]] rfl rfl (oV.out.ext ((Ext.rf _).alloc _)) (RdV.blk (.new (by simp))).rdC (by simp) (by simp[Value.oneCell',txS]) (by simp only[maxLen];omega) (by omega) (by simp;omega) ?_;rintro C6 c6 w6 o6 g6 _);have M6:=(oV.out.ext ((Ext.rf wo).alloc (.cells #[txS [48]] 9))).grownT g6;have X6:Ext wo (wo.alloc (.cells #[txS [48]] 9)):=(Ext.rf _).alloc _;have XN:Hid (Ext w w6):=(Y.out.tr X6).modT M6 (Nat.le_refl _);have NEW:OwV w6 w.heap.size 9 1 C6 (ZO x x.length++[[48]]).length c6 (txV (ZO x x.length++[[48]])):=by
    rw[PN.out,LN.out];exact o6
   have J:=Zbg w.heap.size C6 c6 (ZO x x.length++[[48]]) ZbD w6 NEW (by simp) (by rw[LN.out];omega) (by rw[<-WE.out];have:=hJ.out;omega);rw[LN.out,<-WE.out] at J;replace J:=Hd J;clear M6 X6 o6 g6 NEW;go_wp2_with (fail);refine J.out.mono ?_;rintro e w7 ⟨rfl,x7⟩;have X7:=Hd (XN.out.tr x7);clear x7 J;go_wp2_with (fail);go_ret;exact⟨rfl,X7.out⟩
theorem Zfl (i:InstP)(us:List Value)(P:Option Addr)(c:Nat)(x:List Int)(w:World)(H:RInst w us i)(hP:RdI w P x)(hT:Ten w)(hk:i.kind=1)(hl:x.length<=64)(hx:∀ y∈x,0<=y/\y<=1000)(hJ:(YU 1 x).length<=10000) :
  Calls Tryz.prog 42 #[.agg (List.toArray us),.slice P x.length c] w fun e w'=>e=.returned (txS (YU 1 x))/\Ext w w':=by
 obtain⟨i0,hi,hz0,hz1,hz2⟩:=info_parts Zbf;have WE:Hid (YU 1 x=Lib.join (Xg::ZH x x.length) [32]):=Hd (by unfold YU;rw[if_pos rfl]);have WD:=fun(W:World) (y:Ext w W) (n:Int) (h:0<=n/\n<=1000)=>WZ n (by omega) (by omega) W (hT.ext y)
 have PS:Hid (∀ k,x.getD k 0=1->Xg::ZH x (k+1)=(Xg::ZH x k)++[Lib.itoa (k:Int)]):=fun k h=>by rw[Um,if_pos h];rfl
 have PN:Hid (∀ k,x.getD k 0≠1->ZH x (k+1)=ZH x k):=fun k h=>by rw[Um,if_neg h]
 have PZ:Hid (Xg::ZH x 0=[Xg]):=by
  have h:Xg::ZH x 0=[Xg]:=rfl;exact h
 obtain⟨kind,nn,cap,xw,xv,co⟩:=i;obtain⟨A,a,B,b,D,d,rfl,-,-,-⟩:=H;simp only at *;subst hk;replace hi:=Hd hi;replace hz0:=Hd hz0;replace hz1:=Hd hz1;replace hz2:=Hd hz2;replace WD:=Hd WD;replace hP:=Hd hP;replace hx:=Hd hx;replace hJ:=Hd hJ;clear hT;unfold txS at *;go_enter Tryz.func42,Tryz.ntmps42;go_wp2_with (at_builtin;refine ZU _ (e:=9) Tryz.underlying106 hi.out hz0.out hz1.out hz2.out (by simp[Value.cells]) (by omega) rfl _ _ rfl w.heap.size none 0 0 [] (some ⟨w.heap.size+1,0,none⟩) 1 1 [txS Xg] rfl rfl (OwV.nil _ _ _ _) (RdV.blk (.new (by simp))).rdC (by simp) (by simp[Value.oneCell',txS]) (by simp only[maxLen];omega) (by omega) (by simp;omega) ?_;rintro C0 c0 w0 o0 g0 _);have M0:=(OwV.nil _ w.heap.size 9 1).grownT g0;have START:Hid (OwV w0 w.heap.size 9 1 C0 1 c0 (txV (Xg::ZH x 0))):=Hd (by rw[PZ.out];exact o0);have XS:Hid (Ext w w0):=Ext.modT XI M0 (Nat.le_refl _);clear o0 g0 M0;go_wp2_with (fail);go_loopw [5,21] (fun v5 v21 wr=>∃ (k n:Nat) (C':Option Addr) (cc:Nat),v21=.int .i64 k/\v5=.slice C' n cc/\k<=x.length/\n<=k+1/\Hid ((Xg::ZH x k).length=n)/\Hid (OwV wr w.heap.size 9 1 C' n cc (txV (Xg::ZH x k)))/\Hid (Ext w wr)) (fun _ v _=>x.length-(intOf v).toNat)
 case atStart=>exact⟨0,1,C0,c0,rfl,rfl,by omega,by omega,rfl,START,XS.out⟩
 case round =>
  obtain⟨wo,rfl⟩:=Wq wr;clear START;obtain⟨k,n,C',cc,rfl,rfl,hk,hn,LN,oV,Y⟩:=hrel;have hk64:k<=64:=by omega
  have zw:=Y.out.size
  by_cases hlt:k<x.length
  ·obtain⟨pb,po,y,rfl,zy,cy,ey,_⟩:=(hP.out.ext Y.out).at (k:=k) hlt
   have q1:(k:Int)<(x.length:Int):=by omega
   by_cases hy:y=1
   ·subst hy
    have PE:Hid (Xg::ZH x (k+1)=(Xg::ZH x k)++[Lib.itoa (k:Int)]):=by
     have h:Xg::ZH x (k+1)=(Xg::ZH x k)++[Lib.itoa (k:Int)]:=PS.out k (getD_some ey.out);exact h
    clear ey;go_wp2_with (fail);refine(WD.out _ (Y.out.tr XI) (k:Int) (by omega)).mono ?_;rintro e w5 ⟨rfl,x5⟩;have oV5:=oV.out.ext (Ext.tr (a:=wo) XI x5);have x5':=Ext.tr (a:=wo) XI x5;have zw5:=x5'.size;go_wp2_with (at_builtin;refine ZU _ (e:=9) Tryz.underlying106 hi.out hz0.out hz1.out hz2.out (by simp[Value.cells]) (by omega) rfl _ _ rfl w.heap.size C' n cc (txV (Xg::ZH x k)) (some ⟨w5.heap.size,0,none⟩) 1 1 [txS (Lib.itoa (k:Int))] rfl rfl (oV5.ext ((Ext.rf _).alloc _)) (RdV.blk (.new (by simp))).rdC (by simp) (by simp[Value.oneCell',txS]) (by simp only[maxLen];omega) (by omega) (by simp;omega) ?_;rintro C6 c6 w6 o6 g6 _);have M6:=(oV5.ext ((Ext.rf w5).alloc (.cells #[txS (Lib.itoa (k:Int))] 9))).grownT g6;have X6:Ext wo (w5.alloc (.cells #[txS (Lib.itoa (k:Int))] 9)):=x5'.tr ((Ext.rf _).alloc _);have NEW:Hid (OwV w6 w.heap.size 9 1 C6 (n+1) c6 (txV (Xg::ZH x (k+1)))):=Hd (by rw[PE.out,Jc];exact o6);have NL:Hid ((Xg::ZH x (k+1)).length=n+1):=Hd (by rw[PE.out,List.length_append,LN.out];rfl);have XN:Hid (Ext w w6):=(Y.out.tr X6).modT M6 (Nat.le_refl _);clear oV5 x5 x5' o6 g6 M6 X6;go_wp2_with (fail);go_roundw
    case rel=>exact⟨k+1,n+1,C6,c6,by go_num,rfl,by omega,by omega,NL,NEW,XN⟩
    case measure=>simp[intOf];omega
   ·have PE:Hid (ZH x (k+1)=ZH x k):=by
     have h:ZH x (k+1)=ZH x k:=PN.out k (by rw[getD_some ey.out];exact hy);exact h
    have e2:(y==1)=false:=by simpa using hy
    clear ey;go_wp2_with (fail);go_roundw
    case rel=>exact⟨k+1,n,C',cc,by go_num,rfl,by omega,by omega,by rw[PE.out];exact LN,by rw[PE.out];exact oV,Y⟩
    case measure=>simp[intOf];omega
  ·obtain rfl:k=x.length:=by omega
   have J:=Zbg w.heap.size C' cc (Xg::ZH x x.length) [32] wo (by rw[LN.out];exact oV.out) (by simp) (by rw[LN.out];omega) (by rw[<-WE.out];have:=hJ.out;omega);rw[LN.out,<-WE.out] at J;replace J:=Hd J;go_wp2_with (fail);refine J.out.mono ?_;rintro e w7 ⟨rfl,x7⟩;have X7:=Hd (Y.out.tr x7);clear x7 J;go_wp2_with (fail);go_ret;exact⟨rfl,X7.out⟩
theorem Zfm (i:InstP)(us:List Value)(P:Option Addr)(c:Nat)(x:List Int)(w:World)(H:RInst w us i)(hP:RdI w P x)(hT:Ten w)(hk:i.kind=2)(hl:x.length<=64)(h0:x≠[])(hx:∀ y∈x,0<=y/\y<=1000)(hJ:(YU 2 x).length<=10000) :
  Calls Tryz.prog 42 #[.agg (List.toArray us),.slice P x.length c] w fun e w'=>e=.returned (txS (YU 2 x))/\Ext w w':=by
 obtain⟨i0,hi,hz0,hz1,hz2⟩:=info_parts Zbf;have WE:Hid (YU 2 x=Lib.join (Yg x x.length) Zcl):=Hd (by unfold YU;rw[if_neg (by decide),if_pos rfl]);have WD:=fun(W:World) (y:Ext w W) (n:Int) (h:0<=n/\n<=1000)=>WZ n (by omega) (by omega) W (hT.ext y)
 have PS:Hid (∀ k,Yg x (k+1)=Yg x k++[Lib.itoa (k:Int)++tTo++Lib.itoa (x.getD k 0)]):=fun k=>Ja x k
 have PL:Hid (∀ k,(Yg x k).length=k):=fun k=>by unfold Yg;rw[List.length_map,List.length_range]
 obtain⟨kind,nn,cap,xw,xv,co⟩:=i;obtain⟨A,a,B,b,D,d,rfl,-,-,-⟩:=H;simp only at *;subst hk;replace hi:=Hd hi;replace hz0:=Hd hz0;replace hz1:=Hd hz1;replace hz2:=Hd hz2;replace WD:=Hd WD;replace hP:=Hd hP;replace hx:=Hd hx;replace hJ:=Hd hJ;clear hT;have START:Hid (OwV (w.alloc (.cells #[.int .i64 2,.int .i64 nn,.int .i64 cap,.slice A xw.length a,.slice B xv.length b,.slice D co.length d] 25)) w.heap.size 9 1 none 0 0 (txV (Yg x 0))):=OwV.nil _ _ _ _;unfold txS at *;go_enter Tryz.func42,Tryz.ntmps42;go_wp2_with (fail);go_loopw [5,40] (fun v5 v59 wr=>∃ (k:Nat) (C':Option Addr) (cc:Nat),v59=.int .i64 k/\v5=.slice C' k cc/\k<=x.length/\Hid (OwV wr w.heap.size 9 1 C' k cc (txV (Yg x k)))/\Hid (Ext w wr)) (fun _ v _=>x.length-(intOf v).toNat)
 case atStart=>exact⟨0,none,0,rfl,rfl,by omega,START,XI⟩
 case round =>
  obtain⟨wo,rfl⟩:=Wq wr;clear START;obtain⟨k,C',cc,rfl,rfl,hk,oV,Y⟩:=hrel;have hk64:k<=64:=by omega
  have zw:=Y.out.size
  by_cases hlt:k<x.length
  ·obtain⟨pb,po,y,rfl,zy,cy,ey,_⟩:=(hP.out.ext Y.out).at (k:=k) hlt
   have q1:(k:Int)<(x.length:Int):=by omega
   have yb:=hx.out y (List.mem_of_getElem? ey.out);have li:=Zam y (by omega);have lj:=Zam (k:Int) (by omega);have RK:=Hd (fun(W:World) (z:Ext w W)=>WD.out W z (k:Int) (by omega));have RY:=Hd (fun(W:World) (z:Ext w W)=>WD.out W z y yb);obtain⟨tk,hek⟩:∃ tk,Hid (Lib.itoa (k:Int)=tk):=⟨_,rfl⟩;obtain⟨ty,hey⟩:∃ ty,Hid (Lib.itoa y=ty):=⟨_,rfl⟩;have PE:Hid (txV (Yg x (k+1))=txV (Yg x k)++[txS (tk++tTo++ty)]):=Hd (by rw[PS.out,getD_some ey.out,Jc,hek.out,hey.out]);rw[hek.out] at lj RK;rw[hey.out] at li RY;have ll4:¬9223372036854775807<tk.length+4:=by omega
   have ll5:¬9223372036854775807<tk.length+4+ty.length:=by omega
   have ES:(⟨tk.toArray⟩:ByteArray)++⟨#[32,116,111,32]⟩++⟨ty.toArray⟩=⟨(tk++tTo++ty).toArray⟩:=by
    rw[show (⟨#[32,116,111,32]⟩:ByteArray)=⟨(tTo:Txt).toArray⟩ from rfl,Z8,Z8]
   clear ey yb li lj hek hey;replace ES:=Hd ES;go_wp2_with (fail);refine(RK.out _ (Y.out.tr XI)).mono ?_;rintro e w4 ⟨rfl,x4⟩;have x4':=Ext.tr (a:=wo) XI x4;go_wp2_with (fail);refine(RY.out _ (Y.out.tr (x4'.tr XI))).mono ?_;rintro e w5 ⟨rfl,x5⟩;replace x5:=x4'.tr (Ext.tr XI x5);clear x4 x4';have oV5:=oV.out.ext x5;have x5':=x5;have zw5:=x5'.size;go_wp2_with (at_builtin;refine ZU _ (e:=9) Tryz.underlying106 hi.out hz0.out hz1.out hz2.out (by simp[Value.cells]) (by omega) rfl _ _ rfl w.heap.size C' k cc (txV (Yg x k)) (some ⟨w5.heap.size,0,none⟩) 1 1 [.string ((⟨tk.toArray⟩:ByteArray)++⟨#[32,116,111,32]⟩++⟨ty.toArray⟩)] rfl rfl (oV5.ext ((Ext.rf _).alloc _)) (RdV.blk (.new (by simp))).rdC (by simp) (by simp[Value.oneCell',txS]) (by simp only[maxLen];omega) (by omega) (by simp;omega) ?_;rintro C6 c6 w6 o6 g6 _);have M6:=(oV5.ext ((Ext.rf w5).alloc (.cells #[.string ((⟨tk.toArray⟩:ByteArray)++⟨#[32,116,111,32]⟩++⟨ty.toArray⟩)] 9))).grownT g6;have X6:Ext wo (w5.alloc (.cells #[.string ((⟨tk.toArray⟩:ByteArray)++⟨#[32,116,111,32]⟩++⟨ty.toArray⟩)] 9)):=x5'.tr ((Ext.rf _).alloc _);have NEW:Hid (OwV w6 w.heap.size 9 1 C6 (k+1) c6 (txV (Yg x (k+1)))):=Hd (by rw[PE.out,txS,<-ES.out];exact o6);have XN:Hid (Ext w w6):=(Y.out.tr X6).modT M6 (Nat.le_refl _);clear oV5 x5 x5' o6 g6 M6 X6;go_wp2_with (fail);go_roundw
   case rel=>exact⟨k+1,C6,c6,by go_num,rfl,by omega,NEW,XN⟩
   case measure=>simp[intOf];omega
  ·obtain rfl:k=x.length:=by omega
   have J:=Zbg w.heap.size C' cc (Yg x x.length) Zcl wo (by rw[PL.out];exact oV.out) (by
    intro e;have h:=PL.out x.length;rw[e] at h;exact h0 (List.eq_nil_of_length_eq_zero h.symm)) (by rw[PL.out];omega) (by rw[<-WE.out];have:=hJ.out;omega)
   rw[PL.out,<-WE.out] at J;replace J:=Hd J;go_wp2_with (fail);refine J.out.mono ?_;rintro e w7 ⟨rfl,x7⟩;have X7:=Hd (Y.out.tr x7);clear x7 J;go_wp2_with (fail);go_ret;exact⟨rfl,X7.out⟩
theorem Zg6 (i:InstP)(us:List Value)(P:Option Addr)(c:Nat)(x:List Int)(w:World)(H:RInst w us i)(hP:RdI w P x)(hT:Ten w)(hx:x.length<=1000)(hlw:i.weight.length<=maxLen)(hlv:i.value.length<=maxLen)(hls:i.weight.length+i.value.length<=maxLen) :
  Calls Tryz.prog 18 #[.agg (List.toArray us),.slice P x.length c] w fun e w'=>e=.returned (.tuple #[txS (Zfi i x).1,.int .i64 (Zfi i x).2])/\Ext w w':=by
 have WL:(ZW i x).2=0->(YU i.kind x).length<=10000:=fun h=>by
  have A:=ZcX h;exact Zfj (ZL A.chk) A.n64 A.rng
 refine Zig i us P c x w H hP hT hx hlw hlv hls (fun h W y=>?_) WL;have A:=ZcX h;have L:=WL h;rcases ZL A.chk with hk | hk | hk
 ·rw[hk] at L ⊢
  exact Zfl i us P c x W (H.ext y) (hP.ext y) (hT.ext y) hk A.n64 A.rng L
 ·rw[hk] at L ⊢
  refine Zfm i us P c x W (H.ext y) (hP.ext y) (hT.ext y) hk A.n64 ?_ A.rng L;intro h0;have h1:=A.len;have h2:=(Zt A.chk (by omega:i.kind≠1)).n1;rw[h0] at h1;simp at h1;omega
 ·rw[hk] at L ⊢
  exact Zfk i us P c x W (H.ext y) (hP.ext y) (hT.ext y) hk A.n64 A.rng L
def exS : InstP:=⟨3,3,0,[],[],[[0,1,2],[3,0,4],[5,2,0]]⟩
theorem Zjs : Zfi exS [0,2,1]=([48,32,62,32,50,32,62,32,49,32,62,32,48,58,32,55,10],0):=by
 have hd:∀ k:Nat,k<10->Lib.itoa (k:Int)=[UInt8.ofNat (48+k)]:=fun k hk=>by
  unfold Lib.itoa;rw[if_neg (by omega),Lib.decDigits,dif_pos (by omega)]
  rfl
 have h0:Lib.itoa (0:Int)=[48]:=hd 0 (by omega);have h1:Lib.itoa (1:Int)=[49]:=hd 1 (by omega);have h2:Lib.itoa (2:Int)=[50]:=hd 2 (by omega);have h7:Lib.itoa (7:Int)=[55]:=hd 7 (by omega);have hc:ZW exS [0,2,1]=(7,0):=by decide +kernel
 unfold Zfi;rw[hc];rw[if_pos rfl];have ho:ofG exS 7=7:=by decide
 simp only[ho];unfold Zbd;rw[if_pos (show exS.kind=3 from rfl)];simp only[Yu,List.length_cons,List.length_nil,exS,List.getD,Nat.reduceAdd];simp[Yu,List.getD,ZbD,tAt,h0,h1,h2,h7]
theorem JC {w:World}{b:Nat}{x y v:Int}{c:Nat}(h:Blk w b 3 #[.int .i64 x,.int .i64 y,.int .i64 v])(hb:∀ z∈[x,y,v],-9223372036854775808<=z/\z<=9223372036854775807)(hc:3<=c)(hm:c<=maxLen) : RInts w [.slice (some ⟨b,0,none⟩) 3 c] [x,y,v] :=
 ⟨some ⟨b,0,none⟩,c,rfl,.blk h rfl,hb,hc,hm⟩
theorem Zg7 (w w1:World)(b0:Blk w1 w.heap.size 3 #[.int .i64 0,.int .i64 1,.int .i64 2])(b1:Blk w1 (w.heap.size+1) 3 #[.int .i64 3,.int .i64 0,.int .i64 4])(b2:Blk w1 (w.heap.size+1+1) 3 #[.int .i64 5,.int .i64 2,.int .i64 0])
  (b3:Blk w1 (w.heap.size+1+1+1) 22 #[.slice (some ⟨w.heap.size,0,none⟩) 3 3,.slice (some ⟨w.heap.size+1,0,none⟩) 3 3,.slice (some ⟨w.heap.size+1+1,0,none⟩) 3 3]) :
  RInst w1 [.int .i64 3,.int .i64 3,.int .i64 0,.slice none 0 0,.slice none 0 0,.slice (some ⟨w.heap.size+1+1+1,0,none⟩) 3 3] exS:=by
 have hz:3<=maxLen:=by simp[maxLen]
 refine⟨none,0,none,0,some ⟨w.heap.size+1+1+1,0,none⟩,3,rfl,⟨.inl rfl,Ints.nil,by simp[exS],Ya⟩,⟨.inl rfl,Ints.nil,by simp[exS],Ya⟩,⟨.inr ⟨_,0,rfl,b3.lt,?_⟩,by simp[exS],hz⟩⟩;intro i x hi
 match i,hi with
 | 0,hi =>
  simp[exS] at hi;subst hi;refine⟨_,JC b0 (by intro z hz;simp at hz;omega) (Nat.le_refl 3) hz,rfl,fun j v hj=>?_⟩
  match j,hj with
  | 0,hj=>rw[b3.cell];simp at hj;subst hj;rfl
 | 1,hi =>
  simp[exS] at hi;subst hi;refine⟨_,JC b1 (by intro z hz;simp at hz;omega) (Nat.le_refl 3) hz,rfl,fun j v hj=>?_⟩
  match j,hj with
  | 0,hj=>rw[b3.cell];simp at hj;subst hj;rfl
 | 2,hi =>
  simp[exS] at hi;subst hi;refine⟨_,JC b2 (by intro z hz;simp at hz;omega) (Nat.le_refl 3) hz,rfl,fun j v hj=>?_⟩
  match j,hj with
  | 0,hj=>rw[b3.cell];simp at hj;subst hj;rfl
 | i+3,hi=>simp[exS] at hi
theorem Zg8 (w:World)(hT:Ten w) : Calls Tryz.prog 6 #[] w fun e w'=>e=.returned (.bool true)/\Ext w w':=by
 have AN:=fun(us:List Value) (P:Option Addr) (c:Nat) (W:World) (x:Ext w W) (H:RInst W us exS) (hP:RdI W P [0,2,1])=>Zg6 exS us P c [0,2,1] W H hP (hT.ext x) (by decide) (by decide) (by decide) (by decide)
 rw[Zjs] at AN;unfold txS at AN;simp only[List.length_cons,List.length_nil,Nat.reduceAdd] at AN;replace AN:=Hd AN;clear hT;go_enter Tryz.func6,Tryz.ntmps6;have b0:Blk (((((w.alloc (.cells #[.int .i64 0,.int .i64 1,.int .i64 2] 3)).alloc (.cells #[.int .i64 3,.int .i64 0,.int .i64 4] 3)).alloc (.cells #[.int .i64 5,.int .i64 2,.int .i64 0] 3)).alloc (.cells #[.slice (some ⟨w.heap.size,0,none⟩) 3 3,.slice (some ⟨w.heap.size+1,0,none⟩) 3 3,.slice (some ⟨w.heap.size+1+1,0,none⟩) 3 3] 22)).alloc (.cells #[.int .i64 3,.int .i64 3,.int .i64 0,.slice none 0 0,.slice none 0 0,.slice (some ⟨w.heap.size+1+1+1,0,none⟩) 3 3] 25)) w.heap.size 3 #[.int .i64 0,.int .i64 1,.int .i64 2]:=.alloc (.alloc (.alloc (.alloc (.new rfl) _) _) _) _;have b1:Blk (((((w.alloc (.cells #[.int .i64 0,.int .i64 1,.int .i64 2] 3)).alloc (.cells #[.int .i64 3,.int .i64 0,.int .i64 4] 3)).alloc (.cells #[.int .i64 5,.int .i64 2,.int .i64 0] 3)).alloc (.cells #[.slice (some ⟨w.heap.size,0,none⟩) 3 3,.slice (some ⟨w.heap.size+1,0,none⟩) 3 3,.slice (some ⟨w.heap.size+1+1,0,none⟩) 3 3] 22)).alloc (.cells #[.int .i64 3,.int .i64 3,.int .i64 0,.slice none 0 0,.slice none 0 0,.slice (some ⟨w.heap.size+1+1+1,0,none⟩) 3 3] 25)) (w.heap.size+1) 3 #[.int .i64 3,.int .i64 0,.int .i64 4]:=.alloc (.alloc (.alloc (.new (by simp)) _) _) _;have b2:Blk (((((w.alloc (.cells #[.int .i64 0,.int .i64 1,.int .i64 2] 3)).alloc (.cells #[.int .i64 3,.int .i64 0,.int .i64 4] 3)).alloc (.cells #[.int .i64 5,.int .i64 2,.int .i64 0] 3)).alloc (.cells #[.slice (some ⟨w.heap.size,0,none⟩) 3 3,.slice (some ⟨w.heap.size+1,0,none⟩) 3 3,.slice (some ⟨w.heap.size+1+1,0,none⟩) 3 3] 22)).alloc (.cells #[.int .i64 3,.int .i64 3,.int .i64 0,.slice none 0 0,.slice none 0 0,.slice (some ⟨w.heap.size+1+1+1,0,none⟩) 3 3] 25)) (w.heap.size+1+1) 3 #[.int .i64 5,.int .i64 2,.int .i64 0]:=.alloc (.alloc (.new (by simp)) _) _;have b3:Blk (((((w.alloc (.cells #[.int .i64 0,.int .i64 1,.int .i64 2] 3)).alloc (.cells #[.int .i64 3,.int .i64 0,.int .i64 4] 3)).alloc (.cells #[.int .i64 5,.int .i64 2,.int .i64 0] 3)).alloc (.cells #[.slice (some ⟨w.heap.size,0,none⟩) 3 3,.slice (some ⟨w.heap.size+1,0,none⟩) 3 3,.slice (some ⟨w.heap.size+1+1,0,none⟩) 3 3] 22)).alloc (.cells #[.int .i64 3,.int .i64 3,.int .i64 0,.slice none 0 0,.slice none 0 0,.slice (some ⟨w.heap.size+1+1+1,0,none⟩) 3 3] 25)) (w.heap.size+1+1+1) 22 #[.slice (some ⟨w.heap.size,0,none⟩) 3 3,.slice (some ⟨w.heap.size+1,0,none⟩) 3 3,.slice (some ⟨w.heap.size+1+1,0,none⟩) 3 3]:=.alloc (.new (by simp)) _;have b4:Hid (Blk (((((w.alloc (.cells #[.int .i64 0,.int .i64 1,.int .i64 2] 3)).alloc (.cells #[.int .i64 3,.int .i64 0,.int .i64 4] 3)).alloc (.cells #[.int .i64 5,.int .i64 2,.int .i64 0] 3)).alloc (.cells #[.slice (some ⟨w.heap.size,0,none⟩) 3 3,.slice (some ⟨w.heap.size+1,0,none⟩) 3 3,.slice (some ⟨w.heap.size+1+1,0,none⟩) 3 3] 22)).alloc (.cells #[.int .i64 3,.int .i64 3,.int .i64 0,.slice none 0 0,.slice none 0 0,.slice (some ⟨w.heap.size+1+1+1,0,none⟩) 3 3] 25)) (w.heap.size+1+1+1+1) 25 #[.int .i64 3,.int .i64 3,.int .i64 0,.slice none 0 0,.slice none 0 0,.slice (some ⟨w.heap.size+1+1+1,0,none⟩) 3 3]):=.new (by simp);have R:=Hd (Zg7 w _ b0 b1 b2 b3);have X:Hid (Ext w (((((w.alloc (.cells #[.int .i64 0,.int .i64 1,.int .i64 2] 3)).alloc (.cells #[.int .i64 3,.int .i64 0,.int .i64 4] 3)).alloc (.cells #[.int .i64 5,.int .i64 2,.int .i64 0] 3)).alloc (.cells #[.slice (some ⟨w.heap.size,0,none⟩) 3 3,.slice (some ⟨w.heap.size+1,0,none⟩) 3 3,.slice (some ⟨w.heap.size+1+1,0,none⟩) 3 3] 22)).alloc (.cells #[.int .i64 3,.int .i64 3,.int .i64 0,.slice none 0 0,.slice none 0 0,.slice (some ⟨w.heap.size+1+1+1,0,none⟩) 3 3] 25))):=XI;clear b0 b1 b2 b3;go_upto_region 2 with(fail);generalize (((((w.alloc (.cells #[.int .i64 0,.int .i64 1,.int .i64 2] 3)).alloc (.cells #[.int .i64 3,.int .i64 0,.int .i64 4] 3)).alloc (.cells #[.int .i64 5,.int .i64 2,.int .i64 0] 3)).alloc (.cells #[.slice (some ⟨w.heap.size,0,none⟩) 3 3,.slice (some ⟨w.heap.size+1,0,none⟩) 3 3,.slice (some ⟨w.heap.size+1+1,0,none⟩) 3 3] 22)).alloc (.cells #[.int .i64 3,.int .i64 3,.int .i64 0,.slice none 0 0,.slice none 0 0,.slice (some ⟨w.heap.size+1+1+1,0,none⟩) 3 3] 25))=w1 at *;have t0:=b4.out.c0;have t1:=b4.out.c1;have t2:=b4.out.c2;have t3:=b4.out.c3;have t4:=b4.out.c4;have t5:=b4.out.c5;go_wp2_with (fail);have y:=Ext.alloc (Ext.rf w1) (.cells #[.int .i64 0,.int .i64 2,.int .i64 1] 3);refine(AN.out _ _ _ _ (X.out.tr y) (R.out.ext y) (.blk (.new rfl) rfl)).mono ?_;rintro e w2 ⟨rfl,x2⟩;have X2:=Hd ((X.out.tr y).tr x2);clear x2 y t0 t1 t2 t3 t4 t5 b4 R X AN;go_wp2_with (fail);go_ret;exact⟨rfl,X2.out⟩
section
variable {D:Nat} {kids:List Int->List Int} {bound:List Int->Int}
end
structure KrnOk (D:Nat)(kids:List Int->List Int)(bound:List Int->Int)(okp:List Int->Prop)(bx:List Int->Int) : Prop where
 len:∀ p,okp p->p.length<=D
 kid:∀ p,okp p->p.length<D->∀ n∈kids p,okp (p++[n])
 leaf:∀ p,okp p->p.length=D->bound p=bx p
 low:∀ p,okp p->bound p<=bx p
 node:∀ p,okp p->p.length<D->(∃ n∈kids p,bx (p++[n])=bx p)/\∀ n∈kids p,bx p<=bx (p++[n])
section
variable {D:Nat} {kids:List Int->List Int} {bound:List Int->Int} {okp:List Int->Prop} {bx:List Int->Int}
end
end
section
abbrev Wd : Type:=List UInt8
section
variable {D:Nat} {kids:List Int->List Int} {bound:List Int->Int} {cost:Int}
end
section
variable {D:Nat} {kids:List Int->List Int} {bound:List Int->Int} {okp:List Int->Prop} {bx:List Int->Int} {cost:Int}
end
end
section
def V5 (x y:Int) : Int:=if x<y then -1 else if y<x then 1 else 0
def Qx : List Int->List Int->Int
 | [],[]=>0
 | [],_::_=>-1
 | _::_,[]=>1
 | x::xs,y::ys=>if V5 x y=0 then Qx xs ys else V5 x y
theorem Zec {x y:Int}(h:x<y) : V5 x y=-1:=by simp[V5,h]
theorem Zed {x y:Int}(h:y<x) : V5 x y=1:=by simp[V5,h];omega
theorem Zee (x:Int) : V5 x x=0:=by simp[V5]
theorem Zg9 (x:Int)(w:World) : Calls Tryz.prog 91 #[.int .i64 x] w fun e w'=>e=.returned (.bool false)/\w=w':=by
 go_enter Tryz.func91,Tryz.ntmps91;go_wp2;go_ret;exact⟨rfl,rfl⟩
theorem Zef (x y:Int)(w:World) : Calls Tryz.prog 59 #[.int .i64 x,.int .i64 y] w fun e w'=>e=.returned (.int .i64 (V5 x y))/\w=w':=by
 rcases Int.lt_trichotomy x y with h | rfl | h
 all_goals
  go_enter Tryz.func59,Tryz.ntmps59;go_wp2_with (go_at_call 91;refine(Zg9 _ _).mono ?_;rintro e w' ⟨rfl,rfl⟩);go_ret
 ·exact⟨Z3 (Zec h).symm,rfl⟩
 ·exact⟨Z3 (Zee _).symm,rfl⟩
 ·exact⟨Z3 (Zed h).symm,rfl⟩
theorem Zha (A B:Option Addr)(c d:Nat)(xs ys:List Int)(w:World)(hx:RdI w A xs)(hy:RdI w B ys)(lx:xs.length<=maxLen)(ly:ys.length<=maxLen) :
  Calls Tryz.prog 31 #[.slice A xs.length c,.slice B ys.length d] w fun e w'=>e=.returned (.int .i64 (Qx xs ys))/\w=w':=by
 unfold maxLen at lx ly;go_enter Tryz.func31,Tryz.ntmps31;go_wp2_with fail;go_loop [11] (fun i=>∃ k:Nat,k<=xs.length/\k<=ys.length/\i=.int .i64 k/\Hid (Qx xs ys=Qx (xs.drop k) (ys.drop k))) (fun i=>xs.length-(intOf i).toNat)
 case atStart=>exact⟨0,by omega,by omega,rfl,by exact rfl⟩
 case round =>
  obtain⟨k,hk1,hk2,rfl,hH⟩:=hrel
  by_cases h1:k<xs.length
  ·obtain⟨b,off,x,rfl,_,hc1,_,hd1⟩:=hx.at h1
   by_cases h2:k<ys.length
   ·obtain⟨b',off',y,rfl,_,hc2,_,hd2⟩:=hy.at h2
    go_wp2_with (go_at_call 59;refine(Zef _ _ _).mono ?_;rintro e w' ⟨rfl,rfl⟩)
    ·go_ret
     have hne:V5 x y≠0:=by(have h:(V5 x y != 0)=true:=by assumption);simpa using h
     exact⟨Z3 (by rw[hH.out,hd1.out,hd2.out,Qx,if_neg hne]),rfl⟩
    ·have he:V5 x y=0:=by(have h:(V5 x y != 0)=false:=by assumption);simpa using h
     go_round
     case rel=>exact⟨k+1,by omega,by omega,by go_num,by rw[hH.out,hd1.out,hd2.out,Qx,if_pos he];exact rfl⟩
     case measure=>simp[intOf];omega
   ·have hd2:=Xp (xs:=ys) (k:=k) (by omega)
    go_wp2;go_ret;exact⟨Z3 (by rw[hH.out,hd1.out,hd2.out,Qx]),rfl⟩
  ·have hd1:=Xp (xs:=xs) (k:=k) (by omega)
   by_cases h2:xs.length<ys.length
   ·obtain⟨y,_,hy'⟩:=ZbK (xs:=ys) (k:=k) (by omega)
    go_wp2;go_ret;exact⟨Z3 (by rw[hH.out,hd1.out,hy'.out,Qx]),rfl⟩
   ·have hy':=Xp (xs:=ys) (k:=k) (by omega)
    go_wp2;go_ret;exact⟨Z3 (by rw[hH.out,hd1.out,hy'.out,Qx]),rfl⟩
def ahd : List Int->List Int->Bool
 | [],[]=>false
 | [],_::_=>true
 | _::_,[]=>false
 | x::xs,y::ys=>if x=y then ahd xs ys else decide (x<y)
theorem Zeg : ∀ (xs ys:List Int),decide (Qx xs ys<0)=ahd xs ys
 | [],[]=>rfl
 | [],_::_=>rfl
 | _::_,[]=>rfl
 | x::xs,y::ys=>by
  have ih:=Zeg xs ys;rcases Int.lt_trichotomy x y with h | rfl | h
  ·have:x≠y:=by omega
   simp[Qx,ahd,Zec h,this,h]
  ·simp[Qx,ahd,Zee,ih]
  ·have h1:x≠y:=by omega
   have h2:¬x<y:=by omega
   simp[Qx,ahd,Zed h,h1,h2]
theorem Zbh (A B:Option Addr)(c d:Nat)(xs ys:List Int)(w:World)(hx:RdI w A xs)(hy:RdI w B ys)(lx:xs.length<=maxLen)(ly:ys.length<=maxLen) :
  Calls Tryz.prog 85 #[.slice A xs.length c,.slice B ys.length d] w fun e w'=>e=.returned (.bool (ahd xs ys))/\Ext w w':=by
 unfold maxLen at lx ly;go_enter Tryz.func85,Tryz.ntmps85;go_wp2_with fail;go_loopw [5] (fun i wr=>∃ k:Nat,k<=xs.length/\k<=ys.length/\i=.int .i64 k/\Hid (ahd xs ys=ahd (xs.drop k) (ys.drop k))/\Ext w wr) (fun i _=>xs.length-(intOf i).toNat)
 case atStart=>exact⟨0,by omega,by omega,rfl,by exact rfl,Ext.rf _⟩
 case round =>
  obtain⟨k,hk1,hk2,rfl,hH,he⟩:=hrel;have hx':=hx.ext he;have hy':=hy.ext he
  by_cases h1:k<xs.length
  ·obtain⟨b,off,x,rfl,_,hc1,_,hd1⟩:=hx'.at h1
   by_cases h2:k<ys.length
   ·obtain⟨b',off',y,rfl,_,hc2,_,hd2⟩:=hy'.at h2
    by_cases h3:x=y
    ·subst h3
     go_wp2_with (go_quiet (fail));go_roundw
     case rel=>exact⟨k+1,by omega,by omega,by go_num,by rw[hH.out,hd1.out,hd2.out,ahd,if_pos rfl];exact rfl,he.drewN _⟩
     case measure=>simp[intOf];omega
    ·have h3':(x != y)=true:=by simpa using h3
     go_wp2_with (go_quiet (fail));go_ret;exact⟨XX (by rw[hH.out,hd1.out,hd2.out,ahd,if_neg h3]),(he.drewN _).drewN _⟩
   ·have hd2:=Xp (xs:=ys) (k:=k) (by omega)
    have h4:¬xs.length<ys.length:=by omega
    go_wp2;go_ret;exact⟨XX (by rw[hH.out,hd1.out,hd2.out,ahd]),he⟩
  ·have hd1:=Xp (xs:=xs) (k:=k) (by omega)
   by_cases h2:xs.length<ys.length
   ·obtain⟨y,_,hy'⟩:=ZbK (xs:=ys) (k:=k) (by omega)
    go_wp2;go_ret;exact⟨XX (by rw[hH.out,hd1.out,hy'.out,ahd]),he⟩
   ·have hy':=Xp (xs:=ys) (k:=k) (by omega)
    go_wp2;go_ret;exact⟨XX (by rw[hH.out,hd1.out,hy'.out,ahd]),he⟩
structure Rec where
 kind:Int
 path:List Int
def RecsO (w:World)(base:Nat)(vs:List Value)(rs:List Rec) : Prop :=
 vs.length=rs.length*2/\∀ (i:Nat) (r:Rec),rs[i]?=some r->∃ (A:Option Addr) (c:Nat),vs[i*2]?=some (.int .i64 r.kind)/\vs[i*2+1]?=some (.slice A r.path.length c)/\OwI w base A c r.path
section
variable {w w':World} {base:Nat} {vs:List Value} {rs:List Rec}
theorem RecsO.nil (w:World)(base:Nat) : RecsO w base [] []:=⟨rfl,fun i r h=>by simp at h⟩
theorem RecsO.ext (h:RecsO w base vs rs)(hx:Ext w w') : RecsO w' base vs rs :=
 ⟨h.1,fun i r hr=>by obtain⟨A,c,h1,h2,h3⟩:=h.2 i r hr;exact⟨A,c,h1,h2,h3.ext hx⟩⟩
theorem RecsO.more {base':Nat}(h:RecsO w base vs rs)(hb:base'<=base) : RecsO w base' vs rs :=
 ⟨h.1,fun i r hr=>by obtain⟨A,c,h1,h2,h3⟩:=h.2 i r hr;exact⟨A,c,h1,h2,h3.more hb⟩⟩
theorem RecsO.modT {base':Nat}{ts:List TypeId}(h:RecsO w base vs rs)(k:ModT base' ts w w')(ht:3∉ts) : RecsO w' base vs rs :=
 ⟨h.1,fun i r hr=>by obtain⟨A,c,h1,h2,h3⟩:=h.2 i r hr;exact⟨A,c,h1,h2,h3.modT k ht⟩⟩
theorem RecsO.snoc (h:RecsO w base vs rs){r:Rec}{A:Option Addr}{c:Nat}(ho:OwI w base A c r.path) : RecsO w base (vs++[.int .i64 r.kind,.slice A r.path.length c]) (rs++[r]):=by
 obtain⟨h1,h2⟩:=h;refine⟨by simp[h1];omega,fun i q hq=>?_⟩
 by_cases hi:i<rs.length
 ·rw[List.getElem?_append_left hi] at hq
  obtain⟨A',c',q1,q2,q3⟩:=h2 i q hq;exact⟨A',c',by rw[List.getElem?_append_left (by omega)];exact q1,by rw[List.getElem?_append_left (by omega)];exact q2,q3⟩
 ·rw[List.getElem?_append_right (by omega)] at hq
  obtain⟨h0,hq⟩:=List.getElem?_eq_some_iff.1 hq;have:i=rs.length:=by simp at h0;omega
  subst this;simp at hq;subst hq;exact⟨A,c,by rw[List.getElem?_append_right (by omega),h1];simp,by rw[List.getElem?_append_right (by omega),h1];simp,ho⟩
theorem RecsO.at {E:TypeId}{A:Option Addr}(h:RecsO w base vs rs)(hr:RdV w E A vs){i:Nat}(hi:i<rs.length) :
  ∃ b off r A' c',A=some ⟨b,off,none⟩/\b<w.heap.size/\w.cell? ⟨b,off+i*2,none⟩=some (.int .i64 r.kind)/\w.cell? ⟨b,off+i*2+1,none⟩=some (.slice A' r.path.length c')/\OwI w base A' c' r.path/\Hid (rs[i]?=some r):=by
 obtain⟨h1,h2⟩:=h;obtain⟨A',c',q1,q2,q3⟩:=h2 i rs[i] (List.getElem?_eq_getElem hi);obtain⟨b,off,rfl,hb,hc⟩:=hr.form (fun e=>by rw[e] at h1;simp at h1;omega);exact⟨b,off,rs[i],A',c',rfl,hb,hc _ _ q1,by rw[Nat.add_assoc];exact hc _ _ q2,q3,List.getElem?_eq_getElem hi⟩
end
def VN (N:Nat->Prop)(vs:List Value) : Prop:=∀ (i:Nat) (A:Option Addr) (m c b:Nat),vs[i]?=some (.slice A m c)->bl A=some b->N b
theorem VN.snoc {N:Nat->Prop}{vs:List Value}(h:VN N vs){k:Int}{A:Option Addr}{m c:Nat}(hA:∀ b,bl A=some b->N b) : VN N (vs++[.int .i64 k,.slice A m c]):=by
 intro i A' m' c' b hv hb
 by_cases hi:i<vs.length
 ·rw[List.getElem?_append_left hi] at hv
  exact h i A' m' c' b hv hb
 ·rw[List.getElem?_append_right (by omega)] at hv
  obtain⟨h0,hv'⟩:=List.getElem?_eq_some_iff.1 hv;have h0:i-vs.length<2:=by simpa using h0
  have:i-vs.length=0\/i-vs.length=1:=by omega
  rcases this with e | e
  ·rw[e] at hv;simp at hv
  ·rw[e] at hv
   simp at hv;obtain⟨rfl,_,_⟩:=hv;exact hA b hb
theorem VN.mono {N M:Nat->Prop}{vs:List Value}(h:VN N vs)(hm:∀ b,N b->M b) : VN M vs:=fun i A m c b hv hb=>hm b (h i A m c b hv hb)
theorem RecsO.mod {w w':World}{base:Nat}{vs:List Value}{rs:List Rec}{S:Nat->Prop}(h:RecsO w base vs rs)(hm:Mod S w w')(hn:VN (fun b=>¬S b) vs) : RecsO w' base vs rs :=
 ⟨h.1,fun i r hr=>by
  obtain⟨A,c,h1,h2,h3⟩:=h.2 i r hr;exact⟨A,c,h1,h2,h3.keep fun b hb=>hm.block b (h3.lt b hb).2 (hn _ A _ c b h2 hb)⟩⟩
theorem Zbi : (Tryz.prog.info? 51).map (fun i=>(i.zero,i.size,i.bytes))=some (some (.agg #[.int .i64 0,.slice none 0 0]),2,32):=by kernel_rfl
end
section
structure RB where
 b:Nat
 kd:Nat->Int
 ad:Nat->Option Addr
 ln:Nat->Nat
 cp:Nat->Nat
abbrev RB.v (B:RB)(n:Nat) : Value:=.agg #[.int .i64 (B.kd n),.slice (B.ad n) (B.ln n) (B.cp n)]
def Z4 (B:RB) : List Nat->List Value
 | []=>[]
 | n::l=>.int .i64 (B.kd n)::.slice (B.ad n) (B.ln n) (B.cp n)::Z4 B l
theorem Wl (B:RB) : ∀ l,(Z4 B l).length=l.length*2
 | []=>rfl
 | n::l=>by simp[Z4,Wl B l];omega
theorem W4 (B:RB) : ∀ {l:List Nat} {k n:Nat},l[k]?=some n->(Z4 B l)[k*2]?=some (.int .i64 (B.kd n))/\(Z4 B l)[k*2+1]?=some (.slice (B.ad n) (B.ln n) (B.cp n))
 | [],k,n,h=>by simp at h
 | x::l,0,n,h=>by simp at h;subst h;simp[Z4]
 | x::l,k+1,n,h=>by
  have:=W4 B (l:=l) (k:=k) (n:=n) (by simpa using h);rw[show (k+1)*2=k*2+1+1 by omega]
  simpa [Z4] using this
theorem JD (B:RB) : ∀ (l:List Nat) (k m:Nat),((Z4 B l).set (k*2) (.int .i64 (B.kd m))).set (k*2+1) (.slice (B.ad m) (B.ln m) (B.cp m))=Z4 B (l.set k m)
 | [],k,m=>by simp[Z4]
 | x::l,0,m=>by simp[Z4]
 | x::l,k+1,m=>by
  have:=JD B l k m;rw[show (k+1)*2=k*2+1+1 by omega]
  simpa [Z4] using this
def OwNRc (w:World)(base:RB)(g c:Nat)(l:List Nat) : Prop:=OwV w base.b 51 2 (some ⟨g,0,none⟩) l.length c (Z4 base l)
def CellR (w:World)(base:RB)(g k n:Nat) : Prop:=w.cell? ⟨g,k*2,none⟩=some (.int .i64 (base.kd n))/\w.cell? ⟨g,k*2+1,none⟩=some (.slice (base.ad n) (base.ln n) (base.cp n))
def FrzR (w:World)(g k:Nat) : Prop:=w.frozen? ⟨g,k*2,none⟩=false/\w.frozen? ⟨g,k*2+1,none⟩=false
abbrev setR (w:World)(base:RB)(g k m:Nat) : World:=(w.setCell ⟨g,k*2,none⟩ (.int .i64 (base.kd m))).setCell ⟨g,k*2+1,none⟩ (.slice (base.ad m) (base.ln m) (base.cp m))
theorem OwNRc.cell {w:World}{base:RB}{g c:Nat}{l:List Nat}(h:OwNRc w base g c l){k n:Nat}(hk:l[k]?=some n) :
  CellR w base g k n/\FrzR w g k/\Hid (∀ m:Nat,OwNRc (setR w base g k m) base g c (l.set k m)):=by
 have hl:=(List.getElem?_eq_some_iff.1 hk).1;obtain⟨e1,e2⟩:=W4 base hk;have l1:k*2<(Z4 base l).length:=by rw[Wl];omega
 have l2:k*2+1<(Z4 base l).length:=by rw[Wl];omega
 have hs:=fun(u:Value)=>h.set l1 u
 have hs2:=fun(u v:Value)=>(hs u).2.2.2.set (j:=k*2+1) (by rw[List.length_set];exact l2) v
 refine⟨⟨(hs undef).1.trans e1,(h.set l2 undef).1.trans e2⟩,⟨(hs undef).2.1,(h.set l2 undef).2.1⟩,fun m=>?_⟩;have:=(hs2 (.int .i64 (base.kd m)) (.slice (base.ad m) (base.ln m) (base.cp m))).2.2.2;rw[JD] at this;unfold OwNRc;rw[List.length_set];exact this
theorem OwNRc.ext {w w':World}{base:RB}{g c:Nat}{l:List Nat}(h:OwNRc w base g c l)(x:Ext w w') : OwNRc w' base g c l:=OwV.ext h x
theorem OwNRc.lt {w:World}{base:RB}{g c:Nat}{l:List Nat}(h:OwNRc w base g c l) : base.b<=g/\g<w.heap.size:=OwV.lt h g rfl
theorem CellR.ext {w w':World}{base:RB}{g k n:Nat}(h:CellR w base g k n)(x:Ext w w')(hg:g<w.heap.size) : CellR w' base g k n:=⟨Zd x hg h.1,Zd x hg h.2⟩
theorem FrzR.ext {w w':World}{g k:Nat}(h:FrzR w g k)(x:Ext w w')(hg:g<w.heap.size) : FrzR w' g k:=⟨(x.cells.2 _ _ hg).trans h.1,(x.cells.2 _ _ hg).trans h.2⟩
def Qy (base:RB)(g c:Nat)(l':List Nat)(w:World)(e:Ending)(w':World) : Prop:=e=.returned (.tuple #[])/\OwNRc w' base g c l'/\Mod (fun k=>k=g) w w'
def Zfn (base:RB)(g c:Nat)(l l':List Nat)(a b k:Nat)(w w':World) : Prop:=SwR l l' a b k/\OwNRc w' base g c l'/\Mod (fun k=>k=g) w w'
def Zii (base:RB)(g c:Nat)(l:List Nat)(a b n:Nat)(w:World)(e:Ending)(w':World) : Prop:=∃ l',e=.returned (.tuple #[])/\Zfn base g c l l' a b n w w'
theorem Mod.setR {S:Nat->Prop}{a b:World}(h:Mod S a b){base:RB}{g k m:Nat}(hp:S g) : Mod S a (setR b base g k m):=(h.set (p:=⟨g,k*2,none⟩) (.inl hp) _).set (p:=⟨g,k*2+1,none⟩) (.inl hp) _
theorem Zbj (base:RB)(g c:Nat)(fv:Value)(a b n N:Nat)(l:List Nat)(w:World)(h:OwNRc w base g c l)(hN:l.length=N)(hab:a+n<=b)(hb:b+n<=N)(hl:N<=1000000000) :
  Calls Tryz.prog 119 #[.slice (some ⟨g,0,none⟩) N c,.int .i64 a,.int .i64 b,.int .i64 n,fv] w (Zii base g c l a b n w):=by
 replace hN:=Hd hN;replace h:=Hd h;go_enter Tryz.func119,Tryz.ntmps119;go_wp2_with (fail);go_loopw [10] (fun i wr=>∃ (k:Nat) (l':List Nat),i=.int .i64 k/\k<=n/\Hid (Zfn base g c l l' a b k w wr)) (fun i _=>n-(intOf i).toNat)
 case atStart=>exact⟨0,l,rfl,by omega,SwR.start _ _ _,h.out,Mod.rf _⟩
 case round =>
  obtain⟨wo,rfl⟩:=Wq wr;obtain⟨k,l',rfl,hk,HH⟩:=hrel
  by_cases hlt:k<n
  ·obtain⟨HR,HO,HM⟩:=HH.out
   clear HH;have hll:l'.length=N:=HR.1.trans hN.out;obtain⟨i1,hi1⟩:∃ i1,Hid (i1=a+k):=⟨_,rfl⟩;obtain⟨i2,hi2⟩:∃ i2,Hid (i2=b+k):=⟨_,rfl⟩;have h12:i1<i2:=by rw[hi1.out,hi2.out];omega
   have h2N:i2<N:=by rw[hi2.out];omega
   have hx:l'[i1]?=some (l'[i1]'(by omega)):=List.getElem?_eq_getElem _;have hy:l'[i2]?=some (l'[i2]'(by omega)):=List.getElem?_eq_getElem _;generalize l'[i1]'(by omega)=x at hx;generalize l'[i2]'(by omega)=y at hy;obtain⟨⟨c1,c1'⟩,⟨f1,f1'⟩,s1⟩:=HO.cell hx;obtain⟨⟨c2,c2'⟩,⟨f2,f2'⟩,s2⟩:=HO.cell hy;have t1:OwNRc (setR (setR wo base g i1 y) base g i2 x) base g c ((l'.set i1 y).set i2 x):=((s1.out y).cell (n:=y) (by rw[List.getElem?_set_ne (by omega)];exact hy)).2.2.out x;have FIN:Hid (Zfn base g c l ((l'.set i1 y).set i2 x) a b (k+1) w (setR (setR wo base g i1 y) base g i2 x).drew):=by
    refine⟨?_,t1.ext ((Ext.rf _).drew),((HM.setR rfl).setR rfl).drew⟩;rw[hi1.out,hi2.out] at *;exact HR.step hab (by rw[hN.out];omega) hlt hx hy
   have e1:(a:Int)+(k:Int)=(i1:Int):=by rw[hi1.out];omega
   have e2:(b:Int)+(k:Int)=(i2:Int):=by rw[hi2.out];omega
   have w1:IntKind.i64.wrap ((a:Int)+(k:Int))=(i1:Int):=by rw[e1];exact IntWalk.i64_in _ (by omega)
   have w2:IntKind.i64.wrap ((b:Int)+(k:Int))=(i2:Int):=by rw[e2];exact IntWalk.i64_in _ (by omega)
   clear s1 s2 t1 HR HO HM hx hy hll;go_wp2_with (fail);go_region
   all_goals go_wp2
   go_roundw
   case rel=>exact⟨k+1,_,by go_num,by omega,FIN⟩
   case measure=>simp[intOf];omega
  ·obtain rfl:k=n:=by omega
   go_wp2;go_end0;exact⟨_,rfl,HH.out⟩
theorem WU (base:RB)(g c:Nat)(fv:Value)(a b n N:Nat)(P A M B Q:List Nat)(w:World)(h:OwNRc w base g c (P++(A++(M++(B++Q)))))(hN:(P++(A++(M++(B++Q)))).length=N)(ha:P.length=a)(hA:A.length=n)(hB:B.length=n)(hb:a+n+M.length=b)(hl:N<=1000000000) :
  Calls Tryz.prog 119 #[.slice (some ⟨g,0,none⟩) N c,.int .i64 a,.int .i64 b,.int .i64 n,fv] w (Qy base g c (P++(B++(M++(A++Q)))) w):=by
 refine(Zbj base g c fv a b n N _ w h hN (by omega) (by simp only[List.length_append] at hN;omega) hl).mono ?_;rintro e w' ⟨l',rfl,h1,h2,h3⟩;obtain rfl:=h1.done ha hA hB hb;exact⟨rfl,h2,h3⟩
def ZcY (base:RB)(g c:Nat)(m i j:Nat)(goal:List Nat)(w w':World) : Prop:=∃ P U V Q,P.length+i=m/\U.length=i/\V.length=j/\goal=P++(V++(U++Q))/\OwNRc w' base g c (P++(U++(V++Q)))/\Mod (fun k=>k=g) w w'
theorem ZcZ (base:RB)(g c:Nat)(fv:Value)(a m b N:Nat)(P U V Q:List Nat)(w:World)(h:OwNRc w base g c (P++(U++(V++Q))))(hN:(P++(U++(V++Q))).length=N)(ha:P.length=a)(hU:a+U.length=m)(hV:m+V.length=b)(h1:0<U.length)(h2:0<V.length)(hl:N<=1000000000) :
  Calls Tryz.prog 110 #[.slice (some ⟨g,0,none⟩) N c,.int .i64 a,.int .i64 m,.int .i64 b,fv] w (Qy base g c (P++(V++(U++Q))) w):=by
 have HS:Hid (ZcY base g c m U.length V.length (P++(V++(U++Q))) w w):=⟨P,U,V,Q,by omega,rfl,rfl,rfl,h,Mod.rf _⟩;have hG:Hid ((P++(V++(U++Q))).length=N):=by
  have:(P++(V++(U++Q))).length=N:=by simp only[List.length_append] at hN ⊢;omega
  exact this
 have ei:(m:Int)-(a:Int)=(U.length:Int):=by omega
 have ej:(b:Int)-(m:Int)=(V.length:Int):=by omega
 have hmN:m+V.length<=N:=by simp only[List.length_append] at hN;omega
 generalize U.length=u0 at *;generalize V.length=v0 at *;generalize P++(V++(U++Q))=goal at *;have ei':IntKind.i64.wrap ((m:Int)-(a:Int))=(u0:Int):=by rw[ei];exact IntWalk.i64_in _ (by omega)
 have ej':IntKind.i64.wrap ((b:Int)-(m:Int))=(v0:Int):=by rw[ej];exact IntWalk.i64_in _ (by omega)
 clear h hN ha hU;go_enter Tryz.func110,Tryz.ntmps110;go_wp2_with (fail);go_loopw [10,11] (fun iv jv wr=>∃ (i j:Nat),iv=.int .i64 i/\jv=.int .i64 j/\0<i/\0<j/\i<=m/\m+j<=N/\Hid (ZcY base g c m i j goal w wr)) (fun iv jv _=>(intOf iv).toNat+(intOf jv).toNat)
 case atStart=>exact⟨u0,v0,rfl,rfl,by omega,by omega,by omega,by omega,HS⟩
 case round =>
  obtain⟨wo,rfl⟩:=Wq wr;obtain⟨i,j,rfl,rfl,hi,hj,him,hjN,HH⟩:=hrel;clear HS ei ej ei' ej';obtain⟨P',U',V',Q',q1,q2,q3,q4,hO,hM⟩:=HH.out;have gl:(P'++(U'++(V'++Q'))).length=N:=by
   have:=hG.out;rw[q4] at this;simp only[List.length_append] at this ⊢;omega
  clear HH;rcases Nat.lt_trichotomy j i with hc | hc | hc
  ·
   obtain⟨U1,U2,rfl,hu⟩:=ZdJ U' j (by omega);have hu2:U2.length=i-j:=by simp only[List.length_append] at q2;omega
   rw[List.append_assoc] at hO gl;have CC:=Hd (WU base g c fv (m-i) m j N P' U1 U2 V' Q' wo hO gl (by omega) hu q3 (by omega) hl);have FIN:∀ w',OwNRc w' base g c (P'++(V'++(U2++(U1++Q'))))->Mod (fun k=>k=g) wo w'->ZcY base g c m (i-j) j goal w w':=fun w' h1 h2=>⟨P'++V',U2,U1,Q',by rw[List.length_append];omega,hu2,hu,by rw[q4];simp only[List.append_assoc],by simpa only [List.append_assoc] using h1,hM.tr h2⟩
   replace FIN:=Hd FIN;have e1:(m:Int)-(i:Int)=((m-i:Nat):Int):=by omega
   have e2:(i:Int)-(j:Int)=((i-j:Nat):Int):=by omega
   have d1:((i:Int) != (j:Int))=true:=by rw[bne_iff_ne];omega
   clear hO gl q1 q2 q3 q4 hu hu2 hM;go_wp2_with (fail);refine CC.out.mono ?_;rintro e w' ⟨rfl,h1,h2⟩;have FIN2:=Hd (FIN.out w' h1 h2);clear h1 h2;go_wp2_with (fail);go_roundw
   case rel=>exact⟨i-j,j,by first | rfl | go_num | (congr 1),rfl,by omega,hj,by omega,hjN,FIN2⟩
   case measure=>simp[intOf];omega
  ·
   subst hc;have CC:=Hd (WU base g c fv (m-j) m j N P' U' [] V' Q' wo (by simpa using hO) (by simpa using gl) (by omega) q2 q3 (by simp;omega) hl);have e1:(m:Int)-(j:Int)=((m-j:Nat):Int):=by omega
   have d1:((j:Int) != (j:Int))=false:=by simp
   have hg:Hid (goal=P'++(V'++([]++(U'++Q')))):=by rw[q4];rfl
   clear hO gl q1 q2 q3 q4;replace hM:=Hd hM;go_wp2_with (fail);refine CC.out.mono ?_;rintro e w' ⟨rfl,h1,h2⟩;rw[<-hg.out] at h1;have FIN2:Hid (Qy base g c goal w (.returned (.tuple #[])) w'):=⟨rfl,h1,hM.out.tr h2⟩;clear h1 h2;go_wp2_with (fail);go_end0;exact FIN2.out
  ·
   obtain⟨V1,V2,rfl,hv⟩:=Wj V' i (by omega);have hv1:V1.length=j-i:=by simp only[List.length_append] at q3;omega
   rw[List.append_assoc] at hO gl;have CC:=Hd (WU base g c fv (m-i) (m+j-i) i N P' U' V1 V2 Q' wo hO gl (by omega) q2 hv (by omega) hl);have FIN:∀ w',OwNRc w' base g c (P'++(V2++(V1++(U'++Q'))))->Mod (fun k=>k=g) wo w'->ZcY base g c m i (j-i) goal w w':=fun w' h1 h2=>⟨P',V2,V1,U'++Q',q1,hv,hv1,by rw[q4];simp only[List.append_assoc],h1,hM.tr h2⟩
   replace FIN:=Hd FIN;have e1:(m:Int)-(i:Int)=((m-i:Nat):Int):=by omega
   have e2:(j:Int)-(i:Int)=((j-i:Nat):Int):=by omega
   have e3:(m:Int)+(j:Int)-(i:Int)=((m+j-i:Nat):Int):=by omega
   have d1:((i:Int) != (j:Int))=true:=by rw[bne_iff_ne];omega
   clear hO gl q1 q2 q3 q4 hv hv1 hM;go_wp2_with (fail);refine CC.out.mono ?_;rintro e w' ⟨rfl,h1,h2⟩;have FIN2:=Hd (FIN.out w' h1 h2);clear h1 h2;go_wp2_with (fail);go_roundw
   case rel=>exact⟨i,j-i,rfl,by first | rfl | go_num | (congr 1),hi,by omega,him,by omega,FIN2⟩
   case measure=>simp[intOf];omega
def CmpOkRc (base:RB)(f:Nat)(lb:Array Value)(cf:Nat->Nat->Int)(nn g:Nat)(w:World) : Prop :=
 ∀ (W:World) (x y:Nat),x<nn->y<nn->Mod (fun k=>k=g) w W->Calls Tryz.prog f (#[base.v x,base.v y]++lb) W fun e W'=>e=.returned (.int .i64 (cf x y))/\Ext W W'
theorem CmpOkRc.mod {base:RB}{f:Nat}{lb:Array Value}{cf:Nat->Nat->Int}{nn g:Nat}{w w':World}(h:CmpOkRc base f lb cf nn g w)(hm:Mod (fun k=>k=g) w w') : CmpOkRc base f lb cf nn g w':=fun W x y hx hy hW=>h W x y hx hy (hm.tr hW)
def Zx (cf:Nat->Nat->Int)(x y:Nat) : Bool:=decide (cf x y<0)
def Zz (base:RB)(g c:Nat)(lt:Nat->Nat->Bool)(P S Q:List Nat)(w:World)(e:Ending)(w':World) : Prop:=∃ M,Is lt S M/\e=.returned (.tuple #[])/\OwNRc w' base g c (P++(M++Q))/\Mod (fun k=>k=g) w w'
def InsSRc (base:RB)(g c:Nat)(lt:Nat->Nat->Bool)(P S Q:List Nat)(k:Nat)(w w':World) : Prop:=∃ M,Is lt (S.take k) M/\OwNRc w' base g c (P++(M++(S.drop k++Q)))/\Mod (fun k=>k=g) w w'
def SinkSRc (base:RB)(g c:Nat)(lt:Nat->Nat->Bool)(P M:List Nat)(x:Nat)(T:List Nat)(p:Nat)(w w':World) : Prop:=∃ B1 B2,M=B1++B2/\B1.length=p/\(∀ y∈B2,lt x y=true)/\OwNRc w' base g c (P++(B1++(x::(B2++T))))/\Mod (fun k=>k=g) w w'
theorem SinkSRc.two {base:RB}{g c:Nat}{lt:Nat->Nat->Bool}{P M:List Nat}{x:Nat}{T:List Nat}{p a:Nat}{w w':World}(h:SinkSRc base g c lt P M x T (p+1) w w')(ha:P.length=a) :
  ∃ y,y∈M/\CellR w' base g (a+p) y/\FrzR w' g (a+p)/\CellR w' base g (a+p+1) x/\FrzR w' g (a+p+1) /\
   Hid (lt x y=true->∀ w2,Ext w' w2->SinkSRc base g c lt P M x T p w (setR (setR w2 base g (a+p+1) y) base g (a+p) x))/\Hid (Weak lt->lt x y=false->(∀ z∈M,z<x)->Srt lt M->∀ w2,Ext w' w2->∃ M',M'.Perm (M++[x])/\Srt lt M'/\OwNRc w2 base g c (P++(M'++T))):=by
 obtain⟨B1,B2,rfl,hp,hB,hO,hM⟩:=h;obtain⟨B,B',rfl,hb⟩:=Wj B1 1 (by omega);obtain⟨y,rfl⟩:∃ y,B'=[y]:=by
  match B',hb with
  | [y],_=>exact⟨y,rfl⟩
 have hBp:B.length=p:=by simp only[List.length_append] at hp;simp at hp;exact hp
 have e:P++(B++[y]++(x::(B2++T)))=(P++B)++(y::(x::(B2++T))):=by simp
 rw[e] at hO;have hl:(P++B).length=a+p:=by rw[List.length_append];omega
 obtain⟨g1,g2⟩:=QW (P++B) (B2++T) y x;obtain⟨c1,f1,_⟩:=hO.cell g1;obtain⟨c2,f2,_⟩:=hO.cell g2;have t:∀ w2,Ext w' w2->OwNRc (setR (setR w2 base g ((P++B).length+1) y) base g ((P++B).length) x) base g c ((P++B)++(x::(y::(B2++T)))):=fun w2 x2=>by
  have:=((((hO.ext x2).cell g2).2.2.out y).cell (k:=(P++B).length) (n:=y) (by rw[List.getElem?_set_ne (by omega)];exact g1)).2.2.out x
  rwa [QV] at this
 rw[hl] at c1 f1 c2 f2 t;refine⟨y,by simp,c1,f1,c2,f2,fun hlt w2 x2=>⟨B,y::B2,by simp,hBp,?_,by simpa using t w2 x2,((hM.ext x2).setR rfl).setR rfl⟩,fun hw hlt hz hs w2 x2=>?_⟩
 ·intro z hz
  rcases List.mem_cons.1 hz with rfl | hz
  ·exact hlt
  ·exact hB z hz
 ·refine⟨B++[y]++(x::B2),?_,?_,by simpa using hO.ext x2⟩
  ·simp only[List.append_assoc]
   refine List.Perm.append_left B (List.Perm.append_left [y] ?_);exact(List.perm_append_comm (l₁:=[x]) (l₂:=B2))
  ·refine QX hw hs ?_ hB ?_
   ·intro z h1 z' h2
    obtain rfl:=List.mem_singleton.1 h2;exact hz z h1
   ·intro z h
    simp at h;subst h;exact hlt
theorem SinkSRc.bottom {base:RB}{g c:Nat}{lt:Nat->Nat->Bool}{P M:List Nat}{x:Nat}{T:List Nat}{w w':World}(h:SinkSRc base g c lt P M x T 0 w w')(hw:Weak lt)(hz:∀ z∈M,z<x)(hs:Srt lt M) : ∀ w2,Ext w' w2->∃ M',M'.Perm (M++[x])/\Srt lt M'/\OwNRc w2 base g c (P++(M'++T)):=by
 obtain⟨B1,B2,rfl,hp,hB,hO,_⟩:=h;intro w2 x2;obtain rfl:=List.eq_nil_of_length_eq_zero hp;refine⟨x::B2,List.perm_append_comm (l₁:=[x]) (l₂:=B2),?_,by simpa using hO.ext x2⟩;refine QX hw (A:=[]) hs ?_ hB (by simp);intro z h1 z' h2;obtain rfl:=List.mem_singleton.1 h2;exact hz z h1
theorem SinkSRc.ext {base:RB}{g c:Nat}{lt:Nat->Nat->Bool}{P M:List Nat}{x:Nat}{T:List Nat}{p:Nat}{w w' w2:World}(h:SinkSRc base g c lt P M x T p w w')(x2:Ext w' w2) : SinkSRc base g c lt P M x T p w w2:=by
 obtain⟨B1,B2,h1,h2,h3,h4,h5⟩:=h;exact⟨B1,B2,h1,h2,h3,h4.ext x2,h5.ext x2⟩
theorem SinkSRc.lt {base:RB}{g c:Nat}{lt:Nat->Nat->Bool}{P M:List Nat}{x:Nat}{T:List Nat}{p:Nat}{w w':World}(h:SinkSRc base g c lt P M x T p w w') : g<w'.heap.size:=by
 obtain⟨B1,B2,h1,h2,h3,h4,h5⟩:=h;exact h4.lt.2
theorem SinkSRc.mod {base:RB}{g c:Nat}{lt:Nat->Nat->Bool}{P M:List Nat}{x:Nat}{T:List Nat}{p:Nat}{w w':World}(h:SinkSRc base g c lt P M x T p w w') : Mod (fun k=>k=g) w w':=by
 obtain⟨B1,B2,h1,h2,h3,h4,h5⟩:=h;exact h5
theorem InsSRc.next {base:RB}{g c:Nat}{lt:Nat->Nat->Bool}{P S Q:List Nat}{k:Nat}{w w':World}(h:InsSRc base g c lt P S Q k w w')(hk:k<S.length)(hr:S.Pairwise (· < ·)) :
  ∃ M x,x∈S/\(∀ z∈M,z∈S)/\M.length=k/\(∀ z∈M,z<x)/\Srt lt M/\SinkSRc base g c lt P M x (S.drop (k+1)++Q) k w w' /\
   Hid (∀ w2,Mod (fun k=>k=g) w w2->(∃ M',M'.Perm (M++[x])/\Srt lt M'/\OwNRc w2 base g c (P++(M'++(S.drop (k+1)++Q))))->InsSRc base g c lt P S Q (k+1) w w2):=by
 obtain⟨M,⟨hp,hs⟩,hO,hM⟩:=h;have hx:S[k]?=some S[k]:=List.getElem?_eq_getElem hk;have hd:S.drop k=S[k]::S.drop (k+1):=List.drop_eq_getElem_cons hk;have hms:∀ z∈M,z∈S.take k:=fun z hz=>hp.mem_iff.1 hz
 refine⟨M,S[k],List.getElem_mem hk,fun z hz=>List.mem_of_mem_take (hms z hz),by rw[hp.length_eq,List.length_take];omega,?_,hs,⟨M,[],by simp,by rw[hp.length_eq,List.length_take];omega,by simp,by rw[hd] at hO;exact hO,hM⟩,?_⟩
 ·intro z hz
  obtain⟨i,hi,rfl⟩:=List.mem_iff_getElem.1 (hms z hz);rw[List.getElem_take];rw[List.length_take] at hi;exact List.pairwise_iff_getElem.1 hr i k (by omega) hk (by omega)
 ·rintro w2 hm2 ⟨M',hp',hs',hO'⟩
  refine⟨M',⟨hp'.trans ?_,hs'⟩,hO',hm2⟩;rw[List.take_add_one,hx];exact hp.append (List.Perm.refl _)
theorem Zae (base:RB)(g c:Nat)(f:Nat)(lb:Array Value)(cf:Nat->Nat->Int)(nn a b N:Nat)(P S Q:List Nat)(w:World)(hw:Weak (Zx cf))(eg:∀ args w,(callFunc f args).run Tryz.prog w=.ok (.enter f args) w)(hcmp:CmpOkRc base f lb cf nn g w)
  (h:OwNRc w base g c (P++(S++Q))) (hN:(P++(S++Q)).length=N) (ha:P.length=a) (hS:a+S.length=b) (hr:S.Pairwise (· < ·)) (hn:∀ x∈S,x<nn) (hl:N<=1000000000) :
  Calls Tryz.prog 89 #[.slice (some ⟨g,0,none⟩) N c,.int .i64 a,.int .i64 b,.func (.func f) #[] lb] w (Zz base g c (Zx cf) P S Q w):=by
 have HS:Hid (InsSRc base g c (Zx cf) P S Q 1 w w):=by
  refine⟨S.take 1,⟨List.Perm.refl _,?_⟩,?_,Mod.rf _⟩
  ·match S with
   | []=>exact List.Pairwise.nil
   | [x]=>exact List.pairwise_singleton _ _
   | x::y::z=>exact List.pairwise_singleton _ _
  ·rw[<-List.append_assoc (S.take 1),List.take_append_drop];exact h
 have hbN:b<=N:=by simp only[List.length_append] at hN;omega
 replace hN:=Hd hN;replace hcmp:=Hd hcmp;replace hw:=Hd hw;replace ha:=Hd ha;replace hn:=Hd hn;replace hr:=Hd hr;clear h;go_enter Tryz.func89,Tryz.ntmps89;go_wp2_with (fail);go_loopw [8] (fun iv wr=>∃ (i k:Nat),iv=.int .i64 i/\Hid (i=a+k)/\0<k/\k<=S.length+1/\Hid (InsSRc base g c (Zx cf) P S Q k w wr)) (fun iv _=>b+1-(intOf iv).toNat)
 case atStart=>exact⟨a+1,1,by first | rfl | go_num,rfl,by omega,by omega,HS⟩
 case round =>
  obtain⟨wo,rfl⟩:=Wq wr;obtain⟨i,k,rfl,hi,hk0,hk,HH⟩:=hrel;clear HS
  by_cases hlt:k<S.length
  ·obtain⟨M,x,hxS,hMS,hMl,hz,hs,hsink,hout⟩:=HH.out.next hlt hr.out
   have hxn:=hn.out x hxS;have hMn:Hid (∀ z∈M,z<nn):=fun z hz=>hn.out z (hMS z hz)
   replace hMl:=Hd hMl;replace hz:=Hd hz;replace hs:=Hd hs;replace hsink:=Hd hsink;clear HH hMS hxS;have hltz:(i:Int)<(b:Int):=by rw[hi.out];omega
   have hiN:i<N:=by rw[hi.out];omega
   go_wp2_with (fail);go_loopw [9] (fun jv wr=>∃ (j p:Nat),jv=.int .i64 j/\Hid (j=a+p)/\p<=k/\Hid (SinkSRc base g c (Zx cf) P M x (S.drop (k+1)++Q) p w wr)) (fun jv _=>(intOf jv).toNat)
   case atStart=>exact⟨i,k,rfl,hi,by omega,hsink⟩
   case round =>
    obtain⟨wi,rfl⟩:=Wq wr;obtain⟨j,p,rfl,hj,hp,HI⟩:=hrel;clear hsink
    cases p with
    | zero =>
     have hbot:=Hd (HI.out.bottom hw.out hz.out hs.out);have hM:=Hd HI.out.mod;obtain rfl:j=a:=hj.out;go_wp2_with (fail);go_quiet (fail);go_wp2_with (fail);go_roundw
     case rel=>exact⟨i+1,k+1,by go_num,by have:=hi.out;show i+1=_+(k+1);omega,by omega,by omega,hout.out _ (hM.out.drewN _) (hbot.out _ ((Ext.rf _).drewN _))⟩
     case measure=>simp[intOf];omega
    | succ p =>
     obtain⟨y,hyM,cy,fy,cx,fx,hstep,hstop⟩:=HI.out.two ha.out;have hM:=Hd HI.out.mod;have hyn:=hMn.out y hyM;obtain⟨jp,hjp⟩:∃ jp,Hid (jp=a+p):=⟨_,rfl⟩;rw[<-hjp.out] at cy fy cx fx hstep;obtain rfl:j=jp+1:=by rw[hj.out,hjp.out];omega
     have hg:g<wi.heap.size:=HI.out.lt;have hc:∀ W,Ext wi W->Calls Tryz.prog f (#[base.v x,base.v y]++lb) W fun e W'=>e=.returned (.int .i64 (cf x y))/\Ext W W':=fun W hW=>hcmp.out _ x y hxn hyn (hM.out.ext hW)
     have hwp:IntKind.i64.wrap (jp:Int)=(jp:Int):=IntWalk.i64_in _ (by rw[hjp.out];omega);have jz:(jp:Int)+1<(N:Int):=by rw[hjp.out];omega
     have jz1:(jp:Int)<(N:Int):=by omega
     have hjaz:(a:Int)<(jp:Int)+1:=by rw[hjp.out];omega
     have p0:(0:Int)<=(jp:Int)+1:=by omega
     have e0:((jp:Int)+1).toNat=jp+1:=by omega
     obtain⟨cy,cy'⟩:=cy;obtain⟨cx,cx'⟩:=cx;clear hyM
     by_cases hlv:cf x y<0
     ·replace hstep:=Hd (hstep.out (decide_eq_true hlv))
      clear hstop;go_wp2_with (fail);go_region_held3 (fun W=>W.cell? ⟨g,jp*2,none⟩=some (.int .i64 (base.kd y))/\W.cell? ⟨g,jp*2+1,none⟩=some (.slice (base.ad y) (base.ln y) (base.cp y))/\W.cell? ⟨g,(jp+1)*2,none⟩=some (.int .i64 (base.kd x))/\W.cell? ⟨g,(jp+1)*2+1,none⟩=some (.slice (base.ad x) (base.ln x) (base.cp x))) (go_keep)
       (first | (go_at_fn f;refine(hc _ XI).mono ?_;rintro e w2 ⟨rfl,x2⟩;have y2:=Ext.tr (a:=wi) XI x2;have s1:=Zd y2 hg cy;have s2:=Zd y2 hg cy';have s3:=Zd y2 hg cx;have s4:=Zd y2 hg cx'))
      go_wp2_with (fail);have Fy:=fy.ext y2 hg;have Fx:=fx.ext y2 hg;obtain⟨fy2,fy2'⟩:=Fy;obtain⟨fx2,fx2'⟩:=Fx;have NX:=Hd (hstep.out _ y2);clear cy cx cy' cx' fy fx hc hstep;go_region
      all_goals go_wp2
      go_roundw
      case rel=>exact⟨jp,p,by first | rfl | go_num,hjp,by omega,NX.out.ext ((Ext.rf _).drew)⟩
      case measure=>simp[intOf]<;>omega
     ·replace hstop:=Hd (hstop.out hw.out (decide_eq_false hlv) hz.out hs.out)
      clear hstep;go_wp2_with (fail);go_region_held3 (fun W=>W.cell? ⟨g,jp*2,none⟩=some (.int .i64 (base.kd y))/\W.cell? ⟨g,jp*2+1,none⟩=some (.slice (base.ad y) (base.ln y) (base.cp y))/\W.cell? ⟨g,(jp+1)*2,none⟩=some (.int .i64 (base.kd x))/\W.cell? ⟨g,(jp+1)*2+1,none⟩=some (.slice (base.ad x) (base.ln x) (base.cp x))) (go_keep)
       (first | (go_at_fn f;refine(hc _ XI).mono ?_;rintro e w2 ⟨rfl,x2⟩;have y2:=Ext.tr (a:=wi) XI x2;have s1:=Zd y2 hg cy;have s2:=Zd y2 hg cy';have s3:=Zd y2 hg cx;have s4:=Zd y2 hg cx'))
      go_wp2_with (fail);go_roundw
      case rel=>exact⟨i+1,k+1,by go_num,by have:=hi.out;show i+1=_+(k+1);omega,by omega,by omega,hout.out _ (hM.out.ext (by assumption)) (hstop.out _ (by assumption))⟩
      case measure=>simp[intOf]<;>omega
  ·have hltz:¬(i:Int)<(b:Int):=by rw[hi.out];omega
   obtain⟨M,hM1,hM2,hM3⟩:=HH.out;have FIN:Hid (Zz base g c (Zx cf) P S Q w (.returned (.tuple #[])) wo):=by
    refine⟨M,?_,rfl,?_,hM3⟩
    ·rwa [List.take_of_length_le (by omega)] at hM1
    ·rwa [List.drop_of_length_le (by omega),List.nil_append] at hM2
   clear hM1 hM2 hM3 HH;go_wp2_with (fail);go_end0;exact FIN.out
theorem OwNRc.pair {w:World}{base:RB}{g c k:Nat}{P Q:List Nat}{y x:Nat}(h:OwNRc w base g c (P++(y::(x::Q))))(hk:P.length=k) :
  CellR w base g (k) y/\FrzR w g (k)/\CellR w base g (k+1) x/\FrzR w g (k+1) /\
   Hid (∀ w2,Ext w w2->OwNRc (setR (setR w2 base g (k) x) base g (k+1) y) base g c (P++(x::(y::Q)))) /\
   Hid (∀ w2,Ext w w2->OwNRc (setR (setR w2 base g (k+1) y) base g (k) x) base g c (P++(x::(y::Q)))):=by
 subst hk;obtain⟨g1,g2⟩:=QW P Q y x;obtain⟨c1,f1,_⟩:=h.cell g1;obtain⟨c2,f2,_⟩:=h.cell g2;refine⟨c1,f1,c2,f2,fun w2 x2=>?_,fun w2 x2=>?_⟩
 ·have:=((((h.ext x2).cell g1).2.2.out x).cell (k:=P.length+1) (n:=x) (by rw[List.getElem?_set_ne (by omega)];exact g2)).2.2.out y
  rwa [Zb2] at this
 ·have:=((((h.ext x2).cell g2).2.2.out y).cell (k:=P.length) (n:=y) (by rw[List.getElem?_set_ne (by omega)];exact g1)).2.2.out x
  rwa [QV] at this
theorem OwNRc.at {w:World}{base:RB}{g c k:Nat}{P Q:List Nat}{j y:Nat}(h:OwNRc w base g c (P++Q))(hj:Q[j]?=some y)(hk:P.length+j=k) : CellR w base g (k) y:=(h.cell (by rw[ZjF P Q k j hk];exact hj)).1
def BsRRc (good:Nat->Bool)(R:List Nat)(p q:Nat) : Prop:=p<=q/\q<=R.length/\(∀ y,(R.take p).getLast?=some y->good y=true)/\(∀ y,(R.drop q).head?=some y->good y=false)
theorem BsRRc.start (good:Nat->Bool)(R:List Nat) : BsRRc good R 0 R.length:=⟨by omega,by omega,by simp,by simp⟩
theorem BsRRc.mid {good:Nat->Bool}{R:List Nat}{p q:Nat}(h:BsRRc good R p q)(hlt:p<q) : ∃ y,R[(p+q) / 2]?=some y/\y∈R/\p<=(p+q) / 2/\(p+q) / 2<q/\Hid (good y=true->BsRRc good R ((p+q) / 2+1) q)/\Hid (good y=false->BsRRc good R p ((p+q) / 2)):=by
 obtain⟨h1,h2,h3,h4⟩:=h;have ht:(p+q) / 2<R.length:=by omega
 have e:R[(p+q) / 2]?=some R[(p+q) / 2]:=List.getElem?_eq_getElem ht;refine⟨_,e,List.getElem_mem _,by omega,by omega,fun hg=>⟨by omega,h2,fun y hy=>?_,h4⟩,fun hg=>⟨by omega,by omega,h3,fun y hy=>?_⟩⟩
 ·rw[Zb5 e] at hy
  obtain rfl:=Option.some.inj hy;exact hg
 ·rw[Zb6 e] at hy
  obtain rfl:=Option.some.inj hy;exact hg
def UpSRc (base:RB)(g c:Nat)(P B:List Nat)(x:Nat)(T:List Nat)(s:Nat)(w w':World) : Prop:=OwNRc w' base g c (P++(B.take s++(x::(B.drop s++T))))/\Mod (fun k=>k=g) w w'
theorem UpSRc.ext {base:RB}{g c:Nat}{P B:List Nat}{x:Nat}{T:List Nat}{s:Nat}{w w' w2:World}(h:UpSRc base g c P B x T s w w')(x2:Ext w' w2) : UpSRc base g c P B x T s w w2:=⟨h.1.ext x2,h.2.ext x2⟩
theorem UpSRc.up {base:RB}{g c a:Nat}{P B:List Nat}{x:Nat}{T:List Nat}{s:Nat}{w w':World}(h:UpSRc base g c P B x T s w w')(hs:s<B.length)(ha:P.length=a) :
  ∃ y,CellR w' base g (a+s) x/\FrzR w' g (a+s)/\CellR w' base g (a+s+1) y/\FrzR w' g (a+s+1) /\
   Hid (UpSRc base g c P B x T (s+1) w (setR (setR w' base g (a+s) y) base g (a+s+1) x)):=by
 obtain⟨hO,hM⟩:=h;have e:B[s]?=some B[s]:=List.getElem?_eq_getElem hs;have hd:B.drop s=B[s]::B.drop (s+1):=List.drop_eq_getElem_cons hs;have ht:B.take (s+1)=B.take s++[B[s]]:=by rw[List.take_add_one,e];rfl
 have e2:P++(B.take s++(x::(B.drop s++T)))=(P++B.take s)++(x::(B[s]::(B.drop (s+1)++T))):=by rw[hd];simp only[List.append_assoc,List.cons_append]
 have e3:P++(B.take (s+1)++(x::(B.drop (s+1)++T)))=(P++B.take s)++(B[s]::(x::(B.drop (s+1)++T))):=by rw[ht];simp only[List.append_assoc,List.singleton_append]
 rw[e2] at hO;obtain⟨c1,f1,c2,f2,u1,_⟩:=hO.pair (k:=a+s) (by rw[List.length_append,List.length_take];omega);refine⟨_,c1,f1,c2,f2,?_,(hM.setR rfl).setR rfl⟩;have:=u1.out _ (Ext.rf _);rw[<-e3] at this;exact this
theorem UpSRc.down {base:RB}{g c a:Nat}{P B:List Nat}{x:Nat}{T:List Nat}{s:Nat}{w w':World}(h:UpSRc base g c P B x T (s+1) w w')(hs:s<B.length)(ha:P.length=a) :
  ∃ y,CellR w' base g (a+s) y/\FrzR w' g (a+s)/\CellR w' base g (a+s+1) x/\FrzR w' g (a+s+1) /\
   Hid (UpSRc base g c P B x T s w (setR (setR w' base g (a+s+1) y) base g (a+s) x)):=by
 obtain⟨hO,hM⟩:=h;have e:B[s]?=some B[s]:=List.getElem?_eq_getElem hs;have hd:B.drop s=B[s]::B.drop (s+1):=List.drop_eq_getElem_cons hs;have ht:B.take (s+1)=B.take s++[B[s]]:=by rw[List.take_add_one,e];rfl
 have e2:P++(B.take (s+1)++(x::(B.drop (s+1)++T)))=(P++B.take s)++(B[s]::(x::(B.drop (s+1)++T))):=by rw[ht];simp only[List.append_assoc,List.singleton_append]
 have e3:P++(B.take s++(x::(B.drop s++T)))=(P++B.take s)++(x::(B[s]::(B.drop (s+1)++T))):=by rw[hd];simp only[List.append_assoc,List.cons_append]
 rw[e2] at hO;obtain⟨c1,f1,c2,f2,_,u2⟩:=hO.pair (k:=a+s) (by rw[List.length_append,List.length_take];omega);refine⟨_,c1,f1,c2,f2,?_,(hM.setR rfl).setR rfl⟩;have:=u2.out _ (Ext.rf _);rw[<-e3] at this;exact this
theorem Zfo (base:RB)(g c:Nat)(f:Nat)(lb:Array Value)(cf:Nat->Nat->Int)(nn a m b N x:Nat)(P R Q:List Nat)(w:World)(hw:Weak (Zx cf))(eg:∀ args w,(callFunc f args).run Tryz.prog w=.ok (.enter f args) w)(hcmp:CmpOkRc base f lb cf nn g w)
  (h:OwNRc w base g c (P++(x::(R++Q)))) (hN:(P++(x::(R++Q))).length=N) (ha:P.length=a) (hL:a+1=m) (hR:m+R.length=b) (sr:Srt (Zx cf) R) (hlt:Apart (· < ·) [x] R) (hx:x<nn) (hn:∀ y∈R,y<nn) (hl:N<=1000000000) :
  Calls Tryz.prog 90 #[.slice (some ⟨g,0,none⟩) N c,.int .i64 a,.int .i64 m,.int .i64 b,.func (.func f) #[] lb] w (Zz base g c (Zx cf) P (x::R) Q w):=by
 have hbN:b<=N:=by simp only[List.length_append,List.length_cons] at hN;omega
 have hm1:Hid (m=a+1):=hL.symm;have d1:((m:Int)-(a:Int)==1)=true:=by rw[beq_iff_eq];omega
 have hmb:m<=b:=by omega
 replace hN:=Hd hN;replace hcmp:=Hd hcmp;replace hw:=Hd hw;replace ha:=Hd ha;replace hn:=Hd hn;replace h:=Hd h;replace hR:=Hd hR;replace sr:=Hd sr;have hax:a<N:=by have:=hm1.out;omega
 clear hL;go_enter Tryz.func90,Tryz.ntmps90;go_wp2_with (fail);go_loopw [10,11] (fun iv jv wr=>∃ (i j p q:Nat),iv=.int .i64 i/\jv=.int .i64 j/\Hid (i=m+p)/\Hid (j=m+q)/\Hid (BsRRc (fun y=>Zx cf y x) R p q)/\Hid (Ext w wr)) (fun iv jv _=>(intOf jv).toNat-(intOf iv).toNat)
 case atStart=>exact⟨m,b,0,R.length,rfl,rfl,rfl,hR.out.symm,BsRRc.start _ _,Ext.rf _⟩
 case round =>
  obtain⟨wo,rfl⟩:=Wq wr;obtain⟨i,j,p,q,rfl,rfl,hi,hj,HB,Y⟩:=hrel
  by_cases hpq:p<q
  ·obtain⟨y,ey,hyR,t1,t2,st1,st2⟩:=HB.out.mid hpq
   have hq:=HB.out.2.1;have hij:i<j:=by rw[hi.out,hj.out];omega
   have hjb:j<=b:=by rw[hj.out,<-hR.out];omega
   have hyn:=hn.out y hyR;obtain⟨t,ht⟩:∃ t,Hid (t=(p+q) / 2):=⟨_,rfl⟩;obtain⟨hh,hhh⟩:∃ hh,Hid (hh=(i+j) / 2):=⟨_,rfl⟩;rw[<-ht.out] at ey t1 t2 st1 st2;have eh:hh=m+t:=by rw[hhh.out,hi.out,hj.out,ht.out];omega
   have h1:i<=hh:=by rw[hhh.out];omega
   have h2:hh<j:=by rw[hhh.out];omega
   have mv:((i:Int)+(j:Int)) / 2=(hh:Int):=by rw[hhh.out];omega
   have ch:CellR wo base g (hh) y:=(h.out.ext Y.out).at (P:=P) (j:=t+1) (by rw[List.getElem?_cons_succ,List.getElem?_append_left (by have:=(List.getElem?_eq_some_iff.1 ey).1;omega)];exact ey) (by have:=ha.out;have:=hm1.out;omega);have ca:CellR wo base g (a) x:=(h.out.ext Y.out).at (P:=P) (j:=0) rfl (by have:=ha.out;omega);have hg:g<wo.heap.size:=(h.out.ext Y.out).lt.2;have hhN:(hh:Int)<(N:Int):=by omega
   have hh0:(0:Int)<=(hh:Int):=by omega
   have hM:=Hd (Mod.of_ext (S:=fun k=>k=g) Y.out);have hc:∀ W,Ext wo W->Calls Tryz.prog f (#[base.v y,base.v x]++lb) W fun e W'=>e=.returned (.int .i64 (cf y x))/\Ext W W':=fun W hW=>hcmp.out _ y x hyn hx (hM.out.ext hW)
   obtain⟨ch,ch'⟩:=ch;obtain⟨ca,ca'⟩:=ca;replace eh:=Hd eh;replace ht:=Hd ht;clear ey hyR
   by_cases hlv:cf y x<0
   ·replace st1:=Hd (st1.out (decide_eq_true hlv))
    clear st2;go_wp2_with (fail);go_region_held3 (fun W=>W.cell? ⟨g,hh*2,none⟩=some (.int .i64 (base.kd y))/\W.cell? ⟨g,hh*2+1,none⟩=some (.slice (base.ad y) (base.ln y) (base.cp y))/\W.cell? ⟨g,a*2,none⟩=some (.int .i64 (base.kd x))/\W.cell? ⟨g,a*2+1,none⟩=some (.slice (base.ad x) (base.ln x) (base.cp x))) (go_keep)
     (first | (go_at_fn f;refine(hc _ XI).mono ?_;rintro e w2 ⟨rfl,x2⟩;have y2:=Ext.tr (a:=wo) XI x2;have s1:=Zd y2 hg ch;have s2:=Zd y2 hg ch';have s3:=Zd y2 hg ca;have s4:=Zd y2 hg ca'))
    go_wp2_with (fail);go_roundw
    case rel=>exact⟨hh+1,j,t+1,q,by go_num,rfl,by have:=eh.out;show hh+1=_+(t+1);omega,hj,st1.out,Y.out.tr (by assumption)⟩
    case measure=>simp[intOf]<;>omega
   ·replace st2:=Hd (st2.out (decide_eq_false hlv))
    clear st1;go_wp2_with (fail);go_region_held3 (fun W=>W.cell? ⟨g,hh*2,none⟩=some (.int .i64 (base.kd y))/\W.cell? ⟨g,hh*2+1,none⟩=some (.slice (base.ad y) (base.ln y) (base.cp y))/\W.cell? ⟨g,a*2,none⟩=some (.int .i64 (base.kd x))/\W.cell? ⟨g,a*2+1,none⟩=some (.slice (base.ad x) (base.ln x) (base.cp x))) (go_keep)
     (first | (go_at_fn f;refine(hc _ XI).mono ?_;rintro e w2 ⟨rfl,x2⟩;have y2:=Ext.tr (a:=wo) XI x2;have s1:=Zd y2 hg ch;have s2:=Zd y2 hg ch';have s3:=Zd y2 hg ca;have s4:=Zd y2 hg ca'))
    go_wp2_with (fail);go_roundw
    case rel=>exact⟨i,hh,p,t,rfl,rfl,hi,eh,st2.out,Y.out.tr (by assumption)⟩
    case measure=>simp[intOf]<;>omega
  ·obtain⟨b1,b2,b3,b4⟩:=HB.out
   obtain rfl:p=q:=by omega
   obtain⟨ip,hip⟩:∃ ip,Hid (ip=a+p):=⟨_,rfl⟩;obtain rfl:i=ip+1:=by rw[hi.out,hip.out,hm1.out];omega
   obtain rfl:j=ip+1:=by rw[hj.out,hip.out,hm1.out];omega
   have ipN:ip+1<=N:=by rw[hip.out];have:=hR.out;have:=hm1.out;omega
   have START:Hid (UpSRc base g c P (R.take p) x (R.drop p++Q) 0 w wo):=by
    refine⟨?_,Mod.of_ext Y.out⟩;have h1:=h.out.ext Y.out;rw[List.take_zero,List.nil_append,List.drop_zero,<-List.append_assoc (R.take p),List.take_append_drop];exact h1
   have HF:Hid (Is (Zx cf) (x::R) (R.take p++(x::R.drop p))):=by
    refine⟨?_,ZdK hw.out (by rw[List.take_append_drop];exact sr.out) (by rw[List.take_append_drop];exact hlt) b3 b4⟩;have:=List.take_append_drop p R;refine List.perm_middle.trans ?_;rw[this]
   have hRl:(R.take p).length=p:=by rw[List.length_take];omega
   generalize R.take p=R1 at *;generalize R.drop p=R2 at *;replace hRl:=Hd hRl;have hwp:IntKind.i64.wrap (ip:Int)=(ip:Int):=IntWalk.i64_in _ (by omega);clear HB b1 b2 b3 b4 hi hj hlt hR;go_wp2_with (fail);go_loopw [13] (fun kv wr=>∃ (k s:Nat),kv=.int .i64 k/\Hid (k=a+s)/\s<=p/\Hid (UpSRc base g c P R1 x (R2++Q) s w wr)) (fun kv _=>ip-(intOf kv).toNat)
   case atStart=>exact⟨a,0,rfl,rfl,by omega,START⟩
   case round =>
    obtain⟨wi,rfl⟩:=Wq wr;obtain⟨k,s,rfl,hk,hs,HU⟩:=hrel;clear START
    by_cases hsp:s<p
    ·obtain⟨y,c1,f1,c2,f2,NX⟩:=HU.out.up (by rw[hRl.out];exact hsp) ha.out
     have hk':=hk.out;rw[<-hk'] at c1 f1 c2 f2 NX;have l1:(k:Int)<(ip:Int):=by rw[hip.out];omega
     have l2:(k:Int)+1<(N:Int):=by omega
     have l3:(k:Int)<(N:Int):=by omega
     obtain⟨c1,c1'⟩:=c1;obtain⟨c2,c2'⟩:=c2;obtain⟨f1,f1'⟩:=f1;obtain⟨f2,f2'⟩:=f2;clear hk' HU;go_wp2_with (fail);go_region
     all_goals go_wp2
     go_roundw
     case rel=>exact⟨k+1,s+1,by go_num,by have:=hk.out;show k+1=_+(s+1);omega,by omega,NX.out.ext ((Ext.rf _).drew)⟩
     case measure=>simp[intOf]<;>omega
    ·obtain rfl:s=p:=by omega
     have l1:¬(k:Int)<(ip:Int):=by rw[hip.out,hk.out];omega
     have FIN:Hid (Zz base g c (Zx cf) P (x::R) Q w (.returned (.tuple #[])) wi):=by
      refine⟨_,HF.out,rfl,?_,HU.out.2⟩;have:=HU.out.1;rw[<-hRl.out,List.take_length,List.drop_length] at this
      simpa only [List.append_assoc,List.cons_append,List.nil_append] using this
     clear HU;go_wp2_with (fail);go_end0;exact FIN.out
theorem Zeh (base:RB)(g c:Nat)(f:Nat)(lb:Array Value)(cf:Nat->Nat->Int)(nn a m b N y:Nat)(P L Q:List Nat)(w:World)(hw:Weak (Zx cf))(eg:∀ args w,(callFunc f args).run Tryz.prog w=.ok (.enter f args) w)(hcmp:CmpOkRc base f lb cf nn g w)
  (h:OwNRc w base g c (P++(L++(y::Q)))) (hN:(P++(L++(y::Q))).length=N) (ha:P.length=a) (hL:a+L.length=m) (hR:m+1=b) (h2:2<=L.length) (sl:Srt (Zx cf) L) (hlt:Apart (· < ·) L [y]) (hy:y<nn) (hn:∀ x∈L,x<nn) (hl:N<=1000000000) :
  Calls Tryz.prog 90 #[.slice (some ⟨g,0,none⟩) N c,.int .i64 a,.int .i64 m,.int .i64 b,.func (.func f) #[] lb] w (Zz base g c (Zx cf) P (L++[y]) Q w):=by
 have hbN:b<=N:=by simp only[List.length_append,List.length_cons] at hN;omega
 have d0:((m:Int)-(a:Int)==1)=false:=by rw[beq_eq_false_iff_ne];omega
 have d1:((b:Int)-(m:Int)==1)=true:=by rw[beq_iff_eq];omega
 have hmN:m<N:=by omega
 have ham:a<=m:=by omega
 replace hN:=Hd hN;replace hcmp:=Hd hcmp;replace hw:=Hd hw;replace ha:=Hd ha;replace hn:=Hd hn;replace h:=Hd h;replace hL:=Hd hL;replace sl:=Hd sl;clear hR h2;go_enter Tryz.func90,Tryz.ntmps90;go_wp2_with (fail);go_loopw [14,15] (fun iv jv wr=>∃ (i j p q:Nat),iv=.int .i64 i/\jv=.int .i64 j/\Hid (i=a+p)/\Hid (j=a+q)/\Hid (BsRRc (fun z => !Zx cf y z) L p q)/\Hid (Ext w wr)) (fun iv jv _=>(intOf jv).toNat-(intOf iv).toNat)
 case atStart=>exact⟨a,m,0,L.length,rfl,rfl,rfl,hL.out.symm,BsRRc.start _ _,Ext.rf _⟩
 case round =>
  obtain⟨wo,rfl⟩:=Wq wr;obtain⟨i,j,p,q,rfl,rfl,hi,hj,HB,Y⟩:=hrel
  by_cases hpq:p<q
  ·obtain⟨z,ez,hzL,t1,t2,st1,st2⟩:=HB.out.mid hpq
   have hq:=HB.out.2.1;have hij:i<j:=by rw[hi.out,hj.out];omega
   have hjm:j<=m:=by rw[hj.out,<-hL.out];omega
   have hzn:=hn.out z hzL;obtain⟨t,ht⟩:∃ t,Hid (t=(p+q) / 2):=⟨_,rfl⟩;obtain⟨hh,hhh⟩:∃ hh,Hid (hh=(i+j) / 2):=⟨_,rfl⟩;rw[<-ht.out] at ez t1 t2 st1 st2;have eh:hh=a+t:=by rw[hhh.out,hi.out,hj.out,ht.out];omega
   have h1:i<=hh:=by rw[hhh.out];omega
   have h2:hh<j:=by rw[hhh.out];omega
   have mv:((i:Int)+(j:Int)) / 2=(hh:Int):=by rw[hhh.out];omega
   have ch:CellR wo base g (hh) z:=(h.out.ext Y.out).at (P:=P) (j:=t) (by rw[List.getElem?_append_left (by have:=(List.getElem?_eq_some_iff.1 ez).1;omega)];exact ez) (by have:=ha.out;omega);have cm:CellR wo base g (m) y:=(h.out.ext Y.out).at (P:=P) (j:=L.length) (by rw[List.getElem?_append_right (by omega),Nat.sub_self];rfl) (by have:=ha.out;have:=hL.out;omega);have hg:g<wo.heap.size:=(h.out.ext Y.out).lt.2;have hhN:(hh:Int)<(N:Int):=by omega
   have hh0:(0:Int)<=(hh:Int):=by omega
   have hM:=Hd (Mod.of_ext (S:=fun k=>k=g) Y.out);have hc:∀ W,Ext wo W->Calls Tryz.prog f (#[base.v y,base.v z]++lb) W fun e W'=>e=.returned (.int .i64 (cf y z))/\Ext W W':=fun W hW=>hcmp.out _ y z hy hzn (hM.out.ext hW)
   obtain⟨ch,ch'⟩:=ch;obtain⟨cm,cm'⟩:=cm;replace eh:=Hd eh;replace ht:=Hd ht;clear ez hzL
   by_cases hlv:cf y z<0
   ·replace st2:=Hd (st2.out (by show (!decide (cf y z<0))=false;rw[decide_eq_true hlv];rfl))
    have hlb:decide (cf y z<0)=true:=decide_eq_true hlv;clear st1;go_wp2_with (fail);go_region_held3 (fun W=>W.cell? ⟨g,hh*2,none⟩=some (.int .i64 (base.kd z))/\W.cell? ⟨g,hh*2+1,none⟩=some (.slice (base.ad z) (base.ln z) (base.cp z))/\W.cell? ⟨g,m*2,none⟩=some (.int .i64 (base.kd y))/\W.cell? ⟨g,m*2+1,none⟩=some (.slice (base.ad y) (base.ln y) (base.cp y))) (go_keep)
     (first | (go_at_fn f;refine(hc _ XI).mono ?_;rintro e w2 ⟨rfl,x2⟩;have y2:=Ext.tr (a:=wo) XI x2;have s1:=Zd y2 hg ch;have s2:=Zd y2 hg ch';have s3:=Zd y2 hg cm;have s4:=Zd y2 hg cm'))
    go_wp2_with (fail);go_roundw
    case rel=>exact⟨i,hh,p,t,rfl,rfl,hi,eh,st2.out,Y.out.tr (by assumption)⟩
    case measure=>simp[intOf]<;>omega
   ·replace st1:=Hd (st1.out (by show (!decide (cf y z<0))=true;rw[decide_eq_false hlv];rfl))
    have hlb:decide (cf y z<0)=false:=decide_eq_false hlv;clear st2;go_wp2_with (fail);go_region_held3 (fun W=>W.cell? ⟨g,hh*2,none⟩=some (.int .i64 (base.kd z))/\W.cell? ⟨g,hh*2+1,none⟩=some (.slice (base.ad z) (base.ln z) (base.cp z))/\W.cell? ⟨g,m*2,none⟩=some (.int .i64 (base.kd y))/\W.cell? ⟨g,m*2+1,none⟩=some (.slice (base.ad y) (base.ln y) (base.cp y))) (go_keep)
     (first | (go_at_fn f;refine(hc _ XI).mono ?_;rintro e w2 ⟨rfl,x2⟩;have y2:=Ext.tr (a:=wo) XI x2;have s1:=Zd y2 hg ch;have s2:=Zd y2 hg ch';have s3:=Zd y2 hg cm;have s4:=Zd y2 hg cm'))
    go_wp2_with (fail);go_roundw
    case rel=>exact⟨hh+1,j,t+1,q,by go_num,rfl,by have:=eh.out;show hh+1=_+(t+1);omega,hj,st1.out,Y.out.tr (by assumption)⟩
    case measure=>simp[intOf]<;>omega
  ·obtain⟨b1,b2,b3,b4⟩:=HB.out
   obtain rfl:p=q:=by omega
   obtain rfl:i=j:=by rw[hi.out,hj.out]
   have iN:i<=m:=by rw[hi.out,<-hL.out];omega
   have b3':∀ z,(L.take p).getLast?=some z->Zx cf y z=false:=fun z hz=>by simpa using b3 z hz
   have b4':∀ z,(L.drop p).head?=some z->Zx cf y z=true:=fun z hz=>by simpa using b4 z hz
   have START:Hid (UpSRc base g c (P++L.take p) (L.drop p) y Q (L.drop p).length w wo):=by
    refine⟨?_,Mod.of_ext Y.out⟩;have h1:=h.out.ext Y.out;rw[List.take_length,List.drop_length,List.append_assoc,<-List.append_assoc (L.take p),List.take_append_drop];exact h1
   have HF:Hid (Is (Zx cf) (L++[y]) (L.take p++(y::L.drop p))):=by
    refine⟨?_,Zb3 hw.out (by rw[List.take_append_drop];exact sl.out) (by rw[List.take_append_drop];exact hlt) b3' b4'⟩;have:=List.take_append_drop p L;refine List.perm_middle.trans ?_;rw[this];exact List.perm_append_comm (l₁:=[y]) (l₂:=L)
   have hi2:Hid ((P++L.take p).length=i):=by
    have:(P++L.take p).length=i:=by rw[List.length_append,List.length_take,ha.out,hi.out];omega
    exact this
   have hLm:Hid (m=i+(L.drop p).length):=by
    have:m=i+(L.drop p).length:=by rw[List.length_drop,hi.out];have:=hL.out;omega
    exact this
   generalize L.take p=L1 at *;generalize L.drop p=L2 at *;clear HB b1 b2 b3 b4 b3' b4' hj hlt hL;go_wp2_with (fail);go_loopw [17] (fun kv wr=>∃ (k s:Nat),kv=.int .i64 k/\Hid (k=i+s)/\s<=L2.length/\Hid (UpSRc base g c (P++L1) L2 y Q s w wr)) (fun kv _=>(intOf kv).toNat)
   case atStart=>exact⟨m,L2.length,rfl,hLm,by omega,START⟩
   case round =>
    obtain⟨wi,rfl⟩:=Wq wr;obtain⟨k,s,rfl,hk,hs,HU⟩:=hrel;clear START
    cases s with
    | succ s =>
     obtain⟨z,c1,f1,c2,f2,NX⟩:=HU.out.down (by omega) hi2.out;obtain⟨kp,hkp⟩:∃ kp,Hid (kp=i+s):=⟨_,rfl⟩;rw[<-hkp.out] at c1 f1 c2 f2 NX;obtain rfl:k=kp+1:=by rw[hk.out,hkp.out];omega
     have kpm:kp<m:=by rw[hkp.out,hLm.out];omega
     have hwp:IntKind.i64.wrap (kp:Int)=(kp:Int):=IntWalk.i64_in _ (by omega);have jz:(kp:Int)+1<(N:Int):=by omega
     have jz1:(kp:Int)<(N:Int):=by omega
     have hjaz:(i:Int)<(kp:Int)+1:=by rw[hkp.out];omega
     have p0:(0:Int)<=(kp:Int)+1:=by omega
     have e0:((kp:Int)+1).toNat=kp+1:=by omega
     obtain⟨c1,c1'⟩:=c1;obtain⟨c2,c2'⟩:=c2;obtain⟨f1,f1'⟩:=f1;obtain⟨f2,f2'⟩:=f2;clear HU;go_wp2_with (fail);go_region
     all_goals go_wp2
     go_roundw
     case rel=>exact⟨kp,s,by first | rfl | go_num,hkp,by omega,NX.out.ext ((Ext.rf _).drew)⟩
     case measure=>simp[intOf]<;>omega
    | zero =>
     obtain rfl:k=i:=hk.out;have FIN:Hid (Zz base g c (Zx cf) P (L++[y]) Q w (.returned (.tuple #[])) wi):=by
      refine⟨_,HF.out,rfl,?_,HU.out.2⟩;have:=HU.out.1;rw[List.take_zero,List.drop_zero] at this
      simpa only [List.append_assoc,List.cons_append,List.nil_append] using this
     clear HU;go_wp2_with (fail);go_end0;exact FIN.out
end
end Go.Proofs.YtnbcmiaaleambaaGreatDoor
