/- packed and squeezed by programs (see wip/) -/
import Derived.Test.YtmojhhlcocjoaaaGreatDoorShowLinesP5
import Derived.Lib.ItoaNum
import Derived.Lib.Join
import Derived.Laws.BytesArg
import Derived.Lib.ItoaLen
import Derived.Shelf.LaysM
import Derived.Shelf.Strconv.Itoa3
import Derived.Lib.AppendIntMem
import Derived.Shelf.Lays
import Derived.Shelf.Strings.OnBuilder
set_option maxRecDepth 100000
set_option maxHeartbeats 16000000
set_option linter.unusedVariables false
set_option linter.unusedSimpArgs false
namespace Go.Proofs.YtmojhhlcocjoaaaGreatDoor
open Go.RowKit Go.ChangeShapes Go.WideShapes Go.ChangeAt Go.Deep
theorem ZaB (i:InstP)(us:List Value)(P:Option Addr)(c:Nat)(q:List Nat)(w:World)(H:RInst w us i)(hc:Zn i=0)(hk:i.kind=3)(hP:RdI w P (Zl (0::q)))(hl:(0::q).Perm (List.range i.cost.length)) :
  Calls Tryz.prog 41 #[.agg (List.toArray us),.slice P i.cost.length c] w fun e w'=>e=.returned (.tuple #[.int .i64 (WP i.cost 0 q),.int .i64 0])/\Ext w w':=by
 have sq:=ZG hc (by omega);have rok:=Yx sq;have CH:=fun(W:World) (x:Ext w W)=>ZT i us W (H.ext x) (by rw[sq.w];simp) (by rw[sq.v];simp)
 have OY:=fun(W:World) (x:Ext w W)=>QF P c i.cost.length (0::q) hl (by have:=rok.n2;omega) W (hP.ext x)
 rw[hc] at CH;have hnn:i.n=(i.cost.length:Int):=sq.len.symm;have hlt:Hid (∀ x∈0::q,x<i.cost.length):=fun x hx=>List.mem_range.1 (hl.mem_iff.1 hx)
 have hlen:Hid ((0::q).length=i.cost.length):=Hd (by rw[hl.length_eq,List.length_range]);have n24:=rok.n2;have n1:=rok.n1;clear hl hc sq;obtain⟨kind,nn,cap,xw,xv,co⟩:=i;obtain⟨A,a,B,b,D,d,rfl,-,-,hC,-⟩:=H;simp only at *;subst hk hnn;obtain⟨cb,cof,_,_,_,rfl,_,_⟩:=Vw rok hC (r:=0) (c:=0) (by omega) (by omega);have num:=WH rok;have CA:=Hd (fun(W:World) (x:Ext w W) (r c:Nat) (hr:r<co.length) (hc:c<co.length)=>Q1 rok (hC.ext x fun _ _ h=>h.ext x) hr hc);obtain⟨tot,htot⟩:∃ tot,Hid (WP co 0 q=tot):=⟨_,rfl⟩;rw[htot.out];have bt:0<=tot/\tot<=2147483647*24:=by
  have h1:=Vz num q 0 (by omega) fun x hx=>hlt.out x (by simp[hx])
  have h2:=hlen.out;rw[List.length_cons] at h2;rw[htot.out] at h1;omega
 have START:Hid ((0:Int)+WQ co ((0::q).drop 0)=tot):=Hd (by rw[<-htot.out];simp[WQ]);obtain⟨l,hll⟩:∃ l,Hid (0::q=l):=⟨_,rfl⟩;have h00:Hid (l[0]?=some 0):=Hd (by rw[<-hll.out];rfl);rw[hll.out] at hP hlt hlen START;obtain⟨pb,po,x0,rfl,zp0,cp0,ep0,_⟩:=hP.at (k:=0) (by rw[Zq,hlen.out];omega);obtain rfl:x0=0:=by
  have h:=ep0.out;rw[U7 h00.out] at h;exact(Option.some.inj h).symm
 replace cp0:w.cell? ⟨pb,po,none⟩=some (.int .i64 0):=cp0;have DR:Hid (∀ k,k<co.length->∃ u,l[k]?=some u/\u<co.length/\l.drop k=u::l.drop (k+1)):=fun k hk=>by
  have h:k<l.length:=by rw[hlen.out];exact hk
  exact⟨l[k],List.getElem?_eq_getElem h,hlt.out _ (List.getElem_mem h),List.drop_eq_getElem_cons h⟩
 replace CH:=Hd CH;replace OY:=Hd OY;replace hP:=Hd hP;replace hC:=Hd hC;replace rok:=Hd rok;replace num:=Hd num;have B1:Hid (Blk (w.alloc (.cells #[.int .i64 3,.int .i64 co.length,.int .i64 cap,.slice A xw.length a,.slice B xv.length b,.slice (some ⟨cb,cof,none⟩) co.length d] 25)) w.heap.size 25 #[.int .i64 3,.int .i64 co.length,.int .i64 cap,.slice A xw.length a,.slice B xv.length b,.slice (some ⟨cb,cof,none⟩) co.length d]):=.new rfl;have q00:(0:Int)<(co.length:Int):=by omega
 clear ep0;go_enter Tryz.func41,Tryz.ntmps41;go_wp2_with (fail);refine(CH.out _ (by(repeat (first | assumption | exact Ext.rf _ | apply Ext.drew | apply Ext.drewN | apply Ext.alloc)))).mono ?_;rintro e w1 ⟨rfl,x1⟩;have X1:=Hd (Ext.tr (a:=w) (by(repeat (first | assumption | exact Ext.rf _ | apply Ext.drew | apply Ext.drewN | apply Ext.alloc))) x1);have b1:=Hd (B1.out.ext x1);have t0:=b1.out.c0;have t1:=b1.out.c1;clear x1 B1;go_wp2_with (fail);refine(OY.out _ (X1.out.tr (by(repeat (first | assumption | exact Ext.rf _ | apply Ext.drew | apply Ext.drewN | apply Ext.alloc))))).mono ?_;rintro e w2 ⟨rfl,x2⟩;have X2:=Hd (X1.out.tr (Ext.tr (by(repeat (first | assumption | exact Ext.rf _ | apply Ext.drew | apply Ext.drewN | apply Ext.alloc))) x2));have BC:=Hd (b1.out.ext (Ext.tr (by(repeat (first | assumption | exact Ext.rf _ | apply Ext.drew | apply Ext.drewN | apply Ext.alloc))) x2));have s0:=BC.out.c0;have e2:w2.cell? ⟨pb,po,none⟩=some (.int .i64 0):=Ze X2.out zp0 cp0;clear x2 b1 X1 t0 t1;go_wp2_with (fail);go_loopw [7,44] (fun s v wr=>∃ (k:Nat) (su:Int),v=.int .i64 k/\s=.int .i64 su/\k<=co.length/\Hid (0<=su/\su+WQ co (l.drop k)=tot)/\Hid (Ext w2 wr)) (fun _ v _=>co.length-(intOf v).toNat)
 case atStart=>exact⟨0,0,rfl,rfl,by omega,by exact(show (0:Int)<=0/\(0:Int)+WQ co (l.drop 0)=tot from⟨by omega,START.out⟩),Ext.rf _⟩
 case round =>
  clear s0;obtain⟨wo,rfl⟩:∃ wo:World,wo=wr:=⟨_,rfl⟩;obtain⟨k,su,rfl,rfl,hk,HS,Y⟩:=hrel;have s0:wo.cell? ⟨w.heap.size,0,none⟩=some (.int .i64 3):=(BC.out.ext Y.out).cell 0;have d1:wo.cell? ⟨w.heap.size,1,none⟩=some (.int .i64 co.length):=(BC.out.ext Y.out).cell 1;have d5:wo.cell? ⟨w.heap.size,5,none⟩=some (.slice (some ⟨cb,cof,none⟩) co.length d):=(BC.out.ext Y.out).cell 5;have XW:=Hd (X2.out.tr Y.out);clear e2 START
  by_cases hkl:k<co.length
  ·obtain⟨u,ek,hun,edr⟩:=DR.out k hkl
   obtain⟨pb',po',xu,hPq,zpk,cpk,epk,_⟩:=(hP.out.ext XW.out).at (k:=k) (by rw[Zq,hlen.out];exact hkl);obtain⟨rfl,rfl⟩:pb=pb'/\po=po':=by simpa using hPq
   obtain rfl:xu=(u:Int):=by
    have h:=epk.out;rw[U7 ek] at h;exact(Option.some.inj h).symm
   have HS1:=HS.out;rw[edr] at HS1;have q1:(k:Int)<(co.length:Int):=by omega
   have q2:(u:Int)<(co.length:Int):=by omega
   have hw0:IntKind.i64.wrap ((k:Int)+1)=(k:Int)+1:=IntWalk.i64_in _ (by omega);clear ek edr hPq epk HS
   by_cases hlast:k+1=co.length
   ·have e1:l.drop (k+1)=[]:=List.drop_of_length_le (by rw[hlen.out];omega)
    rw[e1] at HS1;obtain⟨rb,ro,d',c1,c2⟩:=CA.out _ XW.out u 0 hun (by omega);have nu:=num.out u 0 hun (by omega);obtain⟨y,hy⟩:∃ y,Hid (Za co u 0=y):=⟨_,rfl⟩;simp only[WQ,WP] at HS1;rw[hy.out] at c2 nu HS1;replace c2:wo.cell? ⟨rb,ro,none⟩=some (.int .i64 y):=c2;have hrem:((k:Int)+1).tmod (co.length:Int)=0:=by
     have h:(k:Int)+1=(co.length:Int):=by omega
     rw[h,Int.tmod_self]
    have hw1:IntKind.i64.wrap 0=0:=IntWalk.i64_in _ (by omega);have hw:IntKind.i64.wrap (su+y)=su+y:=IntWalk.i64_in _ (by omega);have p0:wo.cell? ⟨pb,po,none⟩=some (.int .i64 0):=Ze XW.out zp0 cp0;have NEW:Hid (0<=su+y/\su+y+WQ co (l.drop (k+1))=tot):=Hd (by
     rw[e1];simp only[WQ];omega)
    have hnz:((co.length:Int)==0)=false:=by rw[beq_eq_false_iff_ne];omega
    clear HS1 e1;replace hlast:=Hd hlast;go_wp2_with (fail);go_quiet (fail);go_wp2_with (fail);go_roundw
    case rel=>exact⟨k+1,su+y,by go_num,rfl,by omega,NEW,Y.out.drewN _⟩
    case measure=>simp[intOf];omega
   ·have hk1:k+1<co.length:=by omega
    obtain⟨v,ek1,hvn,edr1⟩:=DR.out (k+1) hk1;obtain⟨pb',po',xu,hPq,zpk1,cpk1,epk1,_⟩:=(hP.out.ext XW.out).at (k:=k+1) (by rw[Zq,hlen.out];exact hk1);obtain⟨rfl,rfl⟩:pb=pb'/\po=po':=by simpa using hPq
    obtain rfl:xu=(v:Int):=by
     have h:=epk1.out;rw[U7 ek1] at h;exact(Option.some.inj h).symm
    rw[edr1] at HS1;obtain⟨rb,ro,d',c1,c2⟩:=CA.out _ XW.out u v hun hvn;have nu:=num.out u v hun hvn;obtain⟨y,hy⟩:∃ y,Hid (Za co u v=y):=⟨_,rfl⟩;simp only[WQ,WP] at HS1;rw[hy.out] at c2 nu HS1;have hpp:=(Vz num.out (l.drop (k+1+1)) v hvn fun x hx=>hlt.out x (List.mem_of_mem_drop hx)).1;have hrem:((k:Int)+1).tmod (co.length:Int)=((k+1:Nat):Int):=by
     rw[Int.tmod_eq_emod_of_nonneg (by omega),Int.emod_eq_of_lt (by omega) (by omega)];omega
    have hw1:IntKind.i64.wrap ((k+1:Nat):Int)=((k+1:Nat):Int):=IntWalk.i64_in _ (by omega);have hw:IntKind.i64.wrap (su+y)=su+y:=IntWalk.i64_in _ (by omega);have NEW:Hid (0<=su+y/\su+y+WQ co (l.drop (k+1))=tot):=Hd (by
     rw[edr1];simp only[WQ];omega)
    have q3:(v:Int)<(co.length:Int):=by omega
    have q4:((k+1:Nat):Int)<(co.length:Int):=by omega
    have hnz:((co.length:Int)==0)=false:=by rw[beq_eq_false_iff_ne];omega
    clear HS1 edr1 ek1 hPq epk1 hpp;replace hlast:=Hd hlast;go_wp2_with (fail);go_quiet (fail);go_wp2_with (fail);go_roundw
    case rel=>exact⟨k+1,su+y,by go_num,rfl,by omega,NEW,Y.out.drewN _⟩
    case measure=>simp[intOf];omega
  ·have q1:¬(k:Int)<(co.length:Int):=by omega
   have HS2:Hid (su=tot):=by
    have h:=HS.out.2;rw[List.drop_of_length_le (by rw[hlen.out];omega)] at h;simp only[WQ] at h;have h2:su=tot:=by omega
    exact h2
   go_wp2_with (fail);go_ret2;rw[HS2.out];exact⟨rfl,XW.out⟩
theorem ZbM (i:InstP)(us:List Value)(P:Option Addr)(c:Nat)(x:List Int)(w:World)(H:RInst w us i)(hc:Zn i=0)(hk:i.kind=1)(hP:RdI w P x)(lx:(x.length:Int)=i.n) :
  Calls Tryz.prog 78 #[.agg (List.toArray us),.slice P x.length c] w fun e w'=>e=.returned (.tuple #[.int .i64 (if ∀ v∈x,v=0\/v=1 then XB i.cap i.weight i.value x else(0,1)).1,.int .i64 (if ∀ v∈x,v=0\/v=1 then XB i.cap i.weight i.value x else(0,1)).2])/\Ext w w':=by
 have ok:=YL hc hk;have k1:=ok.n1;have k2:=ok.n2;have k3:=ok.w;have k4:=ok.v;have k5:=ok.cap;have k6:=Hd ok.sw;have k7:=Hd ok.sv;clear ok hc;obtain⟨kind,nn,cap,xw,xv,co⟩:=i;obtain⟨A,a,B,b,D,d,rfl,⟨rA,iA,lA,mA⟩,⟨rB,iB,lB,mB⟩,-⟩:=H;simp only at *;subst hk;obtain⟨n,rfl⟩:∃ n:Nat,nn=(n:Int):=⟨nn.toNat,by omega⟩;have lxn:x.length=n:=by omega
 have lwn:xw.length=n:=by omega
 have lvn:xv.length=n:=by omega
 have hn2:n<=64:=by omega
 replace lwn:=Hd lwn;replace lvn:=Hd lvn;replace lxn:=Hd lxn;clear lx k3 k4;have W1:∀ k v u,x[k]?=some v->xw[k]?=some u->Xe (x.take (k+1)) xw=Xe (x.take k) xw+if v=1 then u else 0:=fun k v u h1 h2=>Wz _ k x xw h1 h2
 have V1:∀ k v u,x[k]?=some v->xv[k]?=some u->Y5 (x.take (k+1)) xv=Y5 (x.take k) xv+if v=1 then 0 else u:=fun k v u h1 h2=>Wz _ k x xv h1 h2
 replace W1:=Hd W1;replace V1:=Hd V1;replace rA:=Hd rA;replace rB:=Hd rB;replace hP:=Hd hP;replace mA:=Hd mA;replace mB:=Hd mB;replace iA:=Hd iA;replace iB:=Hd iB;have B1:Hid (Blk (w.alloc (.cells #[.int .i64 1,.int .i64 n,.int .i64 cap,.slice A xw.length a,.slice B xv.length b,.slice D co.length d] 25)) w.heap.size 25 #[.int .i64 1,.int .i64 n,.int .i64 cap,.slice A xw.length a,.slice B xv.length b,.slice D co.length d]):=.new rfl;have lz:=List.take_length (l:=x);have bW:∀ k,k<=n->0<=Xe (x.take k) xw/\Xe (x.take k) xw<=2147483647*(k:Int):=by
  intro k
  induction k with
  | zero=>intro _;simp[Xe,Zi]
  | succ k ih =>
   intro hk;have h0:=ih (by omega);have h8:k<x.length:=by rw[lxn.out];omega
   have e1:x[k]?=some x[k]:=List.getElem?_eq_getElem h8;have h9:k<xw.length:=by rw[lwn.out];omega
   have e2:xw[k]?=some xw[k]:=List.getElem?_eq_getElem h9;have h1:=W1.out k _ _ e1 e2;have h2:=k6.out.get e2;rw[h1];split<;>omega
 have bV:∀ k,k<=n->0<=Y5 (x.take k) xv/\Y5 (x.take k) xv<=2147483647*(k:Int):=by
  intro k
  induction k with
  | zero=>intro _;simp[Y5,Zi]
  | succ k ih =>
   intro hk;have h0:=ih (by omega);have h8:k<x.length:=by rw[lxn.out];omega
   have e1:x[k]?=some x[k]:=List.getElem?_eq_getElem h8;have h9:k<xv.length:=by rw[lvn.out];omega
   have e2:xv[k]?=some xv[k]:=List.getElem?_eq_getElem h9;have h1:=V1.out k _ _ e1 e2;have h2:=k7.out.get e2;rw[h1];split<;>omega
 replace bW:=Hd bW;replace bV:=Hd bV;clear lz;have BAD:Hid (∀ y,y∈x->¬(y=0\/y=1)->(if ∀ v∈x,v=0\/v=1 then XB cap xw xv x else(0,1))=(0,1)):=fun y hy h=>if_neg fun h9=>h (h9 y hy)
 have YES:Hid ((∀ v∈x,v=0\/v=1)->(if ∀ v∈x,v=0\/v=1 then XB cap xw xv x else(0,1))=if cap<Xe x xw then(0,9) else(Y5 x xv,0)):=fun h=>if_pos h
 generalize (if ∀ v∈x,v=0\/v=1 then XB cap xw xv x else(0,1))=res at *;have exn:(x.length:Int)=(n:Int):=by rw[lxn.out]
 have ne0:((n:Int) != (n:Int))=false:=by simp
 rw[lxn.out];have X1:Hid (Ext w (w.alloc (.cells #[.int .i64 1,.int .i64 n,.int .i64 cap,.slice A xw.length a,.slice B xv.length b,.slice D co.length d] 25))):=(Ext.rf _).alloc _;go_enter Tryz.func78,Tryz.ntmps78;go_wp2_with (fail);go_loopw [6,7,17] (fun v6 v7 i wr=>∃ k:Nat,i=.int .i64 k/\v6=.int .i64 (Xe (x.take k) xw)/\v7=.int .i64 (Y5 (x.take k) xv)/\k<=n/\Hid (∀ j y,j<k->x[j]?=some y->y=0\/y=1)/\Ext (w.alloc (.cells #[.int .i64 1,.int .i64 n,.int .i64 cap,.slice A xw.length a,.slice B xv.length b,.slice D co.length d] 25)) wr) (fun _ _ i _=>n-(intOf i).toNat)
 case atStart=>exact⟨0,rfl,rfl,rfl,by omega,(fun j y h=>by omega),Ext.rf _⟩
 case round =>
  obtain⟨wo,rfl⟩:∃ wo:World,wo=wr:=⟨_,rfl⟩;obtain⟨k,rfl,rfl,rfl,hk,HG,Y⟩:=hrel;have BB:=B1.out.ext Y;have t2:=BB.c2;have t3:=BB.c3;have t4:=BB.c4;clear BB;obtain⟨tw1,tw2⟩:=bW.out k hk;obtain⟨tv1,tv2⟩:=bV.out k hk
  by_cases hlt:k<n
  ·obtain⟨pb,po,y,rfl,zy,cy,ey,_⟩:=(hP.out.ext (X1.out.tr Y)).at (k:=k) (by rw[lxn.out];exact hlt)
   obtain⟨ab,ao,u,rfl,zu,cu,eu,_⟩:=(rA.out.ext (X1.out.tr Y)).at (k:=k) (by rw[lwn.out];exact hlt);obtain⟨vb,vo,v,rfl,zv,cv,ev,_⟩:=(rB.out.ext (X1.out.tr Y)).at (k:=k) (by rw[lvn.out];exact hlt);have sW:=Hd (W1.out k y u ey.out eu.out);have sV:=Hd (V1.out k y v ey.out ev.out);have bu:=k6.out.get eu.out;have bv:=k7.out.get ev.out;have q1:(k:Int)<(n:Int):=by omega
   have q2:(k:Int)<(xw.length:Int):=by rw[lwn.out];omega
   have q3:(k:Int)<(xv.length:Int):=by rw[lvn.out];omega
   have HGN:Hid ((y=0\/y=1)->∀ j y',j<k+1->x[j]?=some y'->y'=0\/y'=1):=fun hy j y' hj e=>by
    by_cases ej:j=k
    ·subst ej
     rw[ey.out] at e;obtain rfl:=Option.some.inj e;exact hy
    ·exact HG.out j y' (by omega) e
   obtain⟨tw,htw⟩:∃ tw,tw=Xe (x.take k) xw:=⟨_,rfl⟩;obtain⟨tv,htv⟩:∃ tv,tv=Y5 (x.take k) xv:=⟨_,rfl⟩;rw[<-htw] at tw1 tw2 sW ⊢;rw[<-htv] at tv1 tv2 sV ⊢;have ymem:y∈x:=List.mem_of_getElem? ey.out;have BADY:=Hd (BAD.out y ymem);clear ey eu ev htw htv ymem
   by_cases y1:y=1
   ·subst y1
    have sW2:Hid (Xe (x.take (k+1)) xw=tw+u):=by
     have h:=sW.out;rw[if_pos rfl] at h;exact h
    have sV2:Hid (Y5 (x.take (k+1)) xv=tv):=by
     have h:=sV.out;rw[if_pos rfl,Int.add_zero] at h;exact h
    have HN:=Hd (HGN.out (.inr rfl));clear sW sV HGN;have w1':IntKind.i64.wrap (tw+u)=tw+u:=IntWalk.i64_in _ (by omega);go_wp2_with (go_quiet (fail));go_roundw
    case rel=>exact⟨k+1,by go_num,by rw[sW2.out],by rw[sV2.out],by omega,HN.out,by repeat (first | exact Y | apply Ext.drewN)⟩
    case measure=>simp[intOf];omega
   by_cases y0:y=0
   ·subst y0
    have sW2:Hid (Xe (x.take (k+1)) xw=tw):=by
     have h:=sW.out;rw[if_neg (by decide),Int.add_zero] at h;exact h
    have sV2:Hid (Y5 (x.take (k+1)) xv=tv+v):=by
     have h:=sV.out;rw[if_neg (by decide)] at h;exact h
    have HN:=Hd (HGN.out (.inl rfl));clear sW sV HGN y1;have w1':IntKind.i64.wrap (tv+v)=tv+v:=IntWalk.i64_in _ (by omega);go_wp2_with (go_quiet (fail));go_roundw
    case rel=>exact⟨k+1,by go_num,by rw[sW2.out],by rw[sV2.out],by omega,HN.out,by repeat (first | exact Y | apply Ext.drewN)⟩
    case measure=>simp[intOf];omega
   ·have e0:(y==0)=false:=by simpa using y0
    have e1:(y==1)=false:=by simpa using y1
    have hr:=Hd (BADY.out (by omega));clear sW sV HGN;go_wp2_with (fail);go_ret2;exact⟨by rw[hr.out];rfl,X1.out.tr Y⟩
  ·obtain rfl:k=n:=by omega
   have HX:=YES.out (fun y hy=>by
    obtain⟨j,hj,rfl⟩:=List.mem_iff_getElem.1 hy;exact HG.out j _ (by rw[lxn.out] at hj;omega) (List.getElem?_eq_getElem hj))
   have lz:x.take k=x:=List.take_of_length_le (by rw[lxn.out];omega);rw[lz] at tw1 tw2 tv1 tv2 ⊢;replace HX:=Hd HX;clear lz;generalize Xe x xw=tw at *;generalize Y5 x xv=tv at *
   by_cases hcap:cap<tw
   ·have hr:Hid (res=(0,9)):=by
     have h:res=(0,9):=by rw[HX.out,if_pos hcap]
     exact h
    go_wp2_with (fail);go_ret2;exact⟨by rw[hr.out];rfl,X1.out.tr Y⟩
   ·have hr:Hid (res=(tv,0)):=by
     have h:res=(tv,0):=by rw[HX.out,if_neg hcap]
     exact h
    go_wp2_with (fail);go_ret2;exact⟨by rw[hr.out];rfl,X1.out.tr Y⟩
theorem ZbN (i:InstP)(us:List Value)(P:Option Addr)(c m:Nat)(w:World)(H:RInst w us i)(hm:(m:Int)≠i.n) :
  Calls Tryz.prog 78 #[.agg (List.toArray us),.slice P m c] w fun e w'=>e=.returned (.tuple #[.int .i64 0,.int .i64 1])/\Ext w w':=by
 obtain⟨kind,nn,cap,xw,xv,co⟩:=i;obtain⟨A,a,B,b,D,d,rfl,-,-,-⟩:=H;simp only at *;have e1:((m:Int) != nn)=true:=by simpa using hm
 clear hm;go_enter Tryz.func78,Tryz.ntmps78;go_wp2_with (fail);go_ret2;exact⟨rfl,by(repeat (first | assumption | exact Ext.rf _ | apply Ext.drew | apply Ext.drewN | apply Ext.alloc))⟩
theorem ZaC (i:InstP)(us:List Value)(P:Option Addr)(c:Nat)(x:List Int)(w:World)(H:RInst w us i)(hc:Zn i=0)(hk:i.kind=1)(hP:RdI w P x) :
  Calls Tryz.prog 41 #[.agg (List.toArray us),.slice P x.length c] w fun e w'=>e=.returned (.tuple #[.int .i64 (if (x.length:Int)=i.n/\∀ v∈x,v=0\/v=1 then XB i.cap i.weight i.value x else(0,1)).1,.int .i64 (if (x.length:Int)=i.n/\∀ v∈x,v=0\/v=1 then XB i.cap i.weight i.value x else(0,1)).2])/\Ext w w':=by
 have ok:=YL hc hk;have CH:=fun(W:World) (x:Ext w W)=>ZT i us W (H.ext x) (by have:=ok.w;have:=ok.n2;omega) (by have:=ok.v;have:=ok.n2;omega)
 have VK:∀ (W:World),Ext w W->Calls Tryz.prog 78 #[.agg (List.toArray us),.slice P x.length c] W fun e w'=>e=.returned (.tuple #[.int .i64 (if (x.length:Int)=i.n/\∀ v∈x,v=0\/v=1 then XB i.cap i.weight i.value x else(0,1)).1,.int .i64 (if (x.length:Int)=i.n/\∀ v∈x,v=0\/v=1 then XB i.cap i.weight i.value x else(0,1)).2])/\Ext W w':=fun W y=>by
  by_cases hl:(x.length:Int)=i.n
  ·have e:(if (x.length:Int)=i.n/\∀ v∈x,v=0\/v=1 then XB i.cap i.weight i.value x else(0,1))=if ∀ v∈x,v=0\/v=1 then XB i.cap i.weight i.value x else(0,1):=by
    simp[hl]
   rw[e];exact ZbM i us P c x W (H.ext y) hc hk (hP.ext y) hl
  ·rw[if_neg (fun h=>hl h.1)]
   exact ZbN i us P c x.length W (H.ext y) hl
 rw[hc] at CH;clear ok hP hc;obtain⟨kind,nn,cap,xw,xv,co⟩:=i;obtain⟨A,a,B,b,D,d,rfl,-,-,-⟩:=H;simp only at *;subst hk;generalize (if (x.length:Int)=nn/\∀ v∈x,v=0\/v=1 then XB cap xw xv x else(0,1))=res at *;have B1:Hid (Blk (w.alloc (.cells #[.int .i64 1,.int .i64 nn,.int .i64 cap,.slice A xw.length a,.slice B xv.length b,.slice D co.length d] 25)) w.heap.size 25 #[.int .i64 1,.int .i64 nn,.int .i64 cap,.slice A xw.length a,.slice B xv.length b,.slice D co.length d]):=.new rfl;replace CH:=Hd CH;replace VK:=Hd VK;go_enter Tryz.func41,Tryz.ntmps41;go_wp2_with (fail);refine(CH.out _ (by(repeat (first | assumption | exact Ext.rf _ | apply Ext.drew | apply Ext.drewN | apply Ext.alloc)))).mono ?_;rintro e w1 ⟨rfl,x1⟩;have X1:=Hd (Ext.tr (a:=w) (by(repeat (first | assumption | exact Ext.rf _ | apply Ext.drew | apply Ext.drewN | apply Ext.alloc))) x1);have b1:=B1.out.ext x1;have t0:=b1.c0;have t1:=b1.c1;have t2:=b1.c2;have t3:=b1.c3;have t4:=b1.c4;have t5:=b1.c5;clear x1 B1 b1;go_wp2_with (fail);refine(VK.out _ X1.out).mono ?_;rintro e w2 ⟨rfl,x2⟩;have X2:=Hd (X1.out.tr x2);clear x2 t0 t1 t2 t3 t4 t5;go_wp2_with (fail);go_ret2;exact⟨rfl,X2.out.tr (by(repeat (first | assumption | exact Ext.rf _ | apply Ext.drew | apply Ext.drewN | apply Ext.alloc)))⟩
theorem ZbO (i:InstP)(us:List Value)(X:Value)(w:World)(H:RInst w us i)(hc:Zn i≠0)(hlw:i.weight.length<=maxLen)(hlv:i.value.length<=maxLen)(hls:i.weight.length+i.value.length<=maxLen) :
  Calls Tryz.prog 41 #[.agg (List.toArray us),X] w fun e w'=>e=.returned (.tuple #[.int .i64 0,.int .i64 (Zn i)])/\Ext w w':=by
 have CH:=fun(W:World) (x:Ext w W)=>ZbL i us W (H.ext x) hlw hlv hls
 generalize Zn i=cc at *;have e1:(cc != 0)=true:=by simpa using hc
 obtain⟨kind,nn,cap,xw,xv,co⟩:=i;obtain⟨A,a,B,b,D,d,rfl,-,-,-⟩:=H;simp only at *;replace CH:=Hd CH;clear hc hlw hlv hls;go_enter Tryz.func41,Tryz.ntmps41;go_wp2_with (fail);refine(CH.out _ (by(repeat (first | assumption | exact Ext.rf _ | apply Ext.drew | apply Ext.drewN | apply Ext.alloc)))).mono ?_;rintro e w1 ⟨rfl,x1⟩;have X1:=Hd (Ext.tr (a:=w) (by(repeat (first | assumption | exact Ext.rf _ | apply Ext.drew | apply Ext.drewN | apply Ext.alloc))) x1);clear x1;go_wp2_with (fail);go_ret2;exact⟨rfl,X1.out⟩
theorem Ql (i:InstP)(us:List Value)(P:Option Addr)(c:Nat)(x:List Int)(w:World)(H:RInst w us i)(hc:Zn i=0)(hk:i.kind≠1)(hP:RdI w P x)(hx:x.length<=1000)(hno:XF x i.cost.length=false\/XF x i.cost.length=true/\i.kind=3/\x[0]?≠some 0) :
  Calls Tryz.prog 41 #[.agg (List.toArray us),.slice P x.length c] w fun e w'=>e=.returned (.tuple #[.int .i64 0,.int .i64 1])/\Ext w w':=by
 have sq:=ZG hc hk;have CH:=fun(W:World) (x:Ext w W)=>ZT i us W (H.ext x) (by rw[sq.w];simp) (by rw[sq.v];simp)
 rw[hc] at CH;have rok:=Yx sq;have n1:=rok.n1;have hin:i.n=(i.cost.length:Int):=sq.len.symm;have PG:=fun(W:World) (y:Ext w W)=>Zbk P c i.cost.length x hx (by have:=rok.n2;omega) W (hP.ext y)
 have LX:XF x i.cost.length=true->x.length=i.cost.length:=fun h=>by
  obtain⟨l,rfl,hl⟩:=XO.1 h;rw[Zq,hl.length_eq,List.length_range]
 clear sq rok;obtain⟨kind,nn,cap,xw,xv,co⟩:=i;obtain⟨A,a,B,b,D,d,rfl,-,-,-⟩:=H;simp only at *;subst hin;have e1:(kind==1)=false:=by simpa using hk
 have B1:Hid (Blk (w.alloc (.cells #[.int .i64 kind,.int .i64 co.length,.int .i64 cap,.slice A xw.length a,.slice B xv.length b,.slice D co.length d] 25)) w.heap.size 25 #[.int .i64 kind,.int .i64 co.length,.int .i64 cap,.slice A xw.length a,.slice B xv.length b,.slice D co.length d]):=.new rfl;replace CH:=Hd CH;replace PG:=Hd PG;replace hP:=Hd hP;replace LX:=Hd LX;clear hc;go_enter Tryz.func41,Tryz.ntmps41;go_wp2_with (fail);refine(CH.out _ (by(repeat (first | assumption | exact Ext.rf _ | apply Ext.drew | apply Ext.drewN | apply Ext.alloc)))).mono ?_;rintro e w1 ⟨rfl,x1⟩;have X1:=Hd (Ext.tr (a:=w) (by(repeat (first | assumption | exact Ext.rf _ | apply Ext.drew | apply Ext.drewN | apply Ext.alloc))) x1);have BB:=Hd (B1.out.ext x1);have d0:=BB.out.c0;have d1:=BB.out.c1;clear x1;rcases hno with hno | ⟨hyes,hk3,hx0⟩
 ·rw[hno] at PG
  go_wp2_with (fail);refine(PG.out _ (X1.out.tr (by(repeat (first | assumption | exact Ext.rf _ | apply Ext.drew | apply Ext.drewN | apply Ext.alloc))))).mono ?_;rintro e w2 ⟨rfl,x2⟩;have X2:=Hd (X1.out.tr (Ext.tr (by(repeat (first | assumption | exact Ext.rf _ | apply Ext.drew | apply Ext.drewN | apply Ext.alloc))) x2));clear x2;go_wp2_with (fail);go_ret2;exact⟨rfl,X2.out⟩
 ·have hl:=LX.out hyes
  obtain⟨pb,po,x0,rfl,zp0,cp0,ep0,_⟩:=hP.out.at (k:=0) (by omega);have e0:(x0 != 0)=true:=by
   rw[bne_iff_ne];rintro rfl;exact hx0 ep0.out
  replace cp0:w.cell? ⟨pb,po,none⟩=some (.int .i64 x0):=cp0;have e3:(kind==3)=true:=by simpa using hk3
  have q0:(0:Int)<(x.length:Int):=by omega
  rw[hyes] at PG;replace hk3:=Hd hk3;replace hl:=Hd hl;clear hx0 ep0;go_wp2_with (fail);refine(PG.out _ (X1.out.tr (by(repeat (first | assumption | exact Ext.rf _ | apply Ext.drew | apply Ext.drewN | apply Ext.alloc))))).mono ?_;rintro e w2 ⟨rfl,x2⟩;have X2:=Hd (X1.out.tr (Ext.tr (by(repeat (first | assumption | exact Ext.rf _ | apply Ext.drew | apply Ext.drewN | apply Ext.alloc))) x2));have u0:w2.cell? ⟨w.heap.size,0,none⟩=some (.int .i64 kind):=(BB.out.ext (Ext.tr (by(repeat (first | assumption | exact Ext.rf _ | apply Ext.drew | apply Ext.drewN | apply Ext.alloc))) x2)).cell 0;have u1:w2.cell? ⟨pb,po,none⟩=some (.int .i64 x0):=Ze X2.out zp0 cp0;clear x2 d0 d1;go_wp2_with (fail);go_ret2;exact⟨rfl,X2.out⟩
theorem ZbP (i:InstP)(us:List Value)(P:Option Addr)(c:Nat)(x:List Int)(w:World)(H:RInst w us i)(hP:RdI w P x)(hx:x.length<=1000)(hlw:i.weight.length<=maxLen)(hlv:i.value.length<=maxLen)(hls:i.weight.length+i.value.length<=maxLen) :
  Calls Tryz.prog 41 #[.agg (List.toArray us),.slice P x.length c] w fun e w'=>e=.returned (.tuple #[.int .i64 (ZC i x).1,.int .i64 (ZC i x).2])/\Ext w w':=by
 unfold ZC
 by_cases hc:Zn i=0
 ·rw[if_neg (by simpa using hc)]
  by_cases hk:i.kind=1
  ·rw[if_pos hk]
   exact ZaC i us P c x w H hc hk hP
  ·rw[if_neg hk]
   by_cases hp:XF x i.cost.length=true
   ·obtain⟨l,rfl,hl⟩:=XO.1 hp
    have hll:l.length=i.cost.length:=by rw[hl.length_eq,List.length_range]
    have hlen:(Zl l).length=i.cost.length:=by rw[Zq,hll]
    have n1:=(Yx (ZG hc hk)).n1;rcases YW hc with h | h | h
    ·exact absurd h hk
    ·rw[if_pos ⟨hp,fun h3=>by omega⟩,if_pos h,hlen]
     exact Zak i us P c l w H hc h hP hl
    ·by_cases h0:(Zl l)[0]?=some 0
     ·rw[if_pos ⟨hp,fun _=>h0⟩,if_neg (by omega),hlen]
      cases l with
      | nil=>simp at hll;omega
      | cons a q =>
       obtain rfl:a=0:=by
        simp[Zl] at h0;omega
       have e:(Zl (0::q)).tail.map Int.toNat=q:=by
        simp[Zl,Function.comp_def]
       rw[e];exact ZaB i us P c q w H hc h hP hl
     ·rw[if_neg (fun h9=>h0 (h9.2 h))]
      exact Ql i us P c _ w H hc hk hP hx (.inr ⟨hp,h,h0⟩)
   ·rw[if_neg (fun h=>hp h.1)]
    exact Ql i us P c x w H hc hk hP hx (.inl (by simpa using hp))
 ·rw[if_pos hc]
  exact ZbO i us _ w H hc hlw hlv hls
theorem Za8 : ∀ {l:List Int},Small31 l->0<=Zi l/\Zi l<=(l.length:Int)*2147483647
 | [],_=>by simp[Zi]
 | x::l,h=>by
  have ih:=Za8 (l:=l) fun y hy=>h y (by simp[hy])
  have h1:=h x (by simp);simp only[Zi,List.length_cons];omega
theorem ZaD {l:List Int}(h:Small31 l)(k:Nat) : 0<=Zi (l.take k)/\Zi (l.take k)<=(l.length:Int)*2147483647:=by
 have h1:=Za8 (l:=l.take k) fun y hy=>h y (List.mem_of_mem_take hy)
 rw[List.length_take] at h1;omega
theorem Qm {l:List Int}{k:Nat}{x:Int}(h:l[k]?=some x) : Zi (l.take (k+1))=Zi (l.take k)+x:=by
 rw[List.take_add_one,h,Ul];simp[Zi]
theorem J0 : ∀ (x vs:List Int),Small31 vs->0<=Y5 x vs/\Y5 x vs<=(vs.length:Int)*2147483647
 | [],vs,_=>by
  simp only[Y5,List.zipWith_nil_left,Zi];omega
 | _::_,[],_=>by simp[Y5,Zi]
 | a::x,v::vs,h=>by
  have ih:=J0 x vs fun y hy=>h y (by simp[hy])
  have h1:=h v (by simp);simp only[Y5,List.zipWith_cons_cons,Zi,List.length_cons] at *;split<;>omega
def ofG (i:InstP)(c:Int) : Int:=if i.kind=1 then Zi i.value-c else c
def Zdm (i:InstP)(x:List Int) : Int×Int:=if (ZC i x).2=0 then(ofG i (ZC i x).1,0) else(0,(ZC i x).2)
theorem ZaE (A:Option Addr)(c:Nat)(xs:List Int)(w:World)(hA:RdI w A xs)(hs:Small31 xs)(hl:xs.length<=1000) :
  Calls Tryz.prog 174 #[.slice A xs.length c] w fun e w'=>e=.returned (.int .i64 (Zi xs))/\Ext w w':=by
 have T1:Hid (∀ k v,xs[k]?=some v->Zi (xs.take (k+1))=Zi (xs.take k)+v):=fun k v h=>Qm h
 have TB:=Hd (ZaD hs);replace hA:=Hd hA;replace hs:=Hd hs;go_enter Tryz.func174,Tryz.ntmps174;go_wp2_with (fail);go_loopw [3,8] (fun a i wr=>∃ k:Nat,i=.int .i64 k/\a=.int .i64 (Zi (xs.take k))/\k<=xs.length/\Hid (Ext w wr)) (fun _ i _=>xs.length-(intOf i).toNat)
 case atStart=>exact⟨0,rfl,rfl,by omega,Ext.rf _⟩
 case round =>
  obtain⟨wo,rfl⟩:∃ wo:World,wo=wr:=⟨_,rfl⟩;obtain⟨k,rfl,rfl,hk,X⟩:=hrel
  by_cases hlt:k<xs.length
  ·obtain⟨pb,po,y,rfl,zy,cy,ey,_⟩:=(hA.out.ext X.out).at (k:=k) hlt
   have S:=Hd (T1.out k y ey.out);have b1:=TB.out k;have b2:=hs.out.get ey.out;generalize Zi (xs.take k)=tk at *;have w1:IntKind.i64.wrap (tk+y)=tk+y:=IntWalk.i64_in _ (by omega);have q1:(k:Int)<(xs.length:Int):=by omega
   clear ey b1 b2;go_wp2_with (fail);go_roundw
   case rel=>exact⟨k+1,by go_num,by rw[S.out],by omega,X.out.tr (by(repeat (first | assumption | exact Ext.rf _ | apply Ext.drew | apply Ext.drewN | apply Ext.alloc)))⟩
   case measure=>simp[intOf];omega
  ·obtain rfl:k=xs.length:=by omega
   rw[List.take_length];go_wp2_with (fail);go_ret;exact⟨rfl,X.out.tr (by(repeat (first | assumption | exact Ext.rf _ | apply Ext.drew | apply Ext.drewN | apply Ext.alloc)))⟩
theorem Zdn (i:InstP)(us:List Value)(w:World)(c:Int)(H:RInst w us i)(hc:Zn i=0)(hb:i.kind=1->0<=c/\c<=(i.value.length:Int)*2147483647) :
  Calls Tryz.prog 148 #[.agg (List.toArray us),.int .i64 c] w fun e w'=>e=.returned (.int .i64 (ofG i c))/\Ext w w':=by
 by_cases hk:i.kind=1
 ·have ok:=YL hc hk
  have k1:=ok.v;have k2:=ok.n2;have TT:∀ (A:Option Addr) (d:Nat) (W:World),RdI W A i.value->Calls Tryz.prog 174 #[.slice A i.value.length d] W fun e w'=>e=.returned (.int .i64 (Zi i.value))/\Ext W w':=fun A d W h=>ZaE A d i.value W h ok.sv (by omega)
  have b1:=Za8 ok.sv;have b2:=hb hk;unfold ofG;rw[if_pos hk];clear ok hc hb;obtain⟨kind,nn,cap,xw,xv,co⟩:=i;obtain⟨A,a,B,b,D,d,rfl,-,⟨rB,-⟩,-⟩:=H;simp only at *;subst hk;generalize Zi xv=sv at *;have w1:IntKind.i64.wrap (sv-c)=sv-c:=IntWalk.i64_in _ (by omega);replace TT:=Hd TT;replace rB:=Hd rB;clear b1 b2 k1;go_enter Tryz.func148,Tryz.ntmps148;go_wp2_with (fail);refine(TT.out _ _ _ (rB.out.ext (by(repeat (first | assumption | exact Ext.rf _ | apply Ext.drew | apply Ext.drewN | apply Ext.alloc))))).mono ?_;rintro e w1 ⟨rfl,x1⟩;have X1:=Hd (Ext.tr (a:=w) (by(repeat (first | assumption | exact Ext.rf _ | apply Ext.drew | apply Ext.drewN | apply Ext.alloc))) x1);clear x1;go_wp2_with (fail);go_ret;exact⟨rfl,X1.out⟩
 ·unfold ofG
  rw[if_neg hk];obtain⟨kind,nn,cap,xw,xv,co⟩:=i;obtain⟨A,a,B,b,D,d,rfl,-,-,-⟩:=H;simp only at *;have e1:(kind==1)=false:=by simpa using hk
  clear hc hb hk;go_enter Tryz.func148,Tryz.ntmps148;go_wp2_with (fail);go_ret;exact⟨rfl,by(repeat (first | assumption | exact Ext.rf _ | apply Ext.drew | apply Ext.drewN | apply Ext.alloc))⟩
theorem J1 {i:InstP}{x:List Int}(hk:i.kind=1)(h:(ZC i x).2=0) : Zn i=0/\0<=(ZC i x).1/\(ZC i x).1<=(i.value.length:Int)*2147483647:=by
 unfold ZC at *
 by_cases hc:Zn i=0
 ·rw[if_neg (by simpa using hc),if_pos hk] at *
  have ok:=YL hc hk;refine⟨hc,?_⟩;split
  ·unfold XB
   split
   ·exact⟨Int.le_refl _,by simp only;omega⟩
   ·exact J0 _ _ ok.sv
  ·exact⟨Int.le_refl _,by simp only;omega⟩
 ·rw[if_pos hc] at h
  exact absurd h hc
theorem QS {i:InstP}{x:List Int}(h:(ZC i x).2=0) : Zn i=0:=by
 unfold ZC at h;refine Classical.byContradiction fun hc=>?_
 rw[if_pos hc] at h;exact hc h
theorem ZaF (i:InstP)(us:List Value)(P:Option Addr)(c:Nat)(x:List Int)(w:World)(H:RInst w us i)(hP:RdI w P x)(hx:x.length<=1000)(hlw:i.weight.length<=maxLen)(hlv:i.value.length<=maxLen)(hls:i.weight.length+i.value.length<=maxLen) :
  Calls Tryz.prog 95 #[.agg (List.toArray us),.slice P x.length c] w fun e w'=>e=.returned (.tuple #[.int .i64 (Zdm i x).1,.int .i64 (Zdm i x).2])/\Ext w w':=by
 have VC:=fun(W:World) (y:Ext w W)=>ZbP i us P c x W (H.ext y) (hP.ext y) hx hlw hlv hls
 unfold Zdm
 by_cases h0:(ZC i x).2=0
 ·have VO:=fun(W:World) (y:Ext w W)=>Zdn i us W (ZC i x).1 (H.ext y) (QS h0) (fun hk=>(J1 hk h0).2)
  rw[if_pos h0];rw[h0] at VC;clear h0 hP hx hlw hlv hls;generalize ofG i (ZC i x).1=r at *;generalize (ZC i x).1=cc at *;obtain⟨kind,nn,cap,xw,xv,co⟩:=i;obtain⟨A,a,B,b,D,d,rfl,-,-,-⟩:=H;simp only at *;have B1:Hid (Blk (w.alloc (.cells #[.int .i64 kind,.int .i64 nn,.int .i64 cap,.slice A xw.length a,.slice B xv.length b,.slice D co.length d] 25)) w.heap.size 25 #[.int .i64 kind,.int .i64 nn,.int .i64 cap,.slice A xw.length a,.slice B xv.length b,.slice D co.length d]):=.new rfl;replace VC:=Hd VC;replace VO:=Hd VO;go_enter Tryz.func95,Tryz.ntmps95;go_wp2_with (fail);refine(VC.out _ (by(repeat (first | assumption | exact Ext.rf _ | apply Ext.drew | apply Ext.drewN | apply Ext.alloc)))).mono ?_;rintro e w1 ⟨rfl,x1⟩;have X1:=Hd (Ext.tr (a:=w) (by(repeat (first | assumption | exact Ext.rf _ | apply Ext.drew | apply Ext.drewN | apply Ext.alloc))) x1);have b1:=B1.out.ext x1;have t0:=b1.c0;have t1:=b1.c1;have t2:=b1.c2;have t3:=b1.c3;have t4:=b1.c4;have t5:=b1.c5;clear x1 B1 b1;go_wp2_with (fail);refine(VO.out _ (X1.out.tr (by(repeat (first | assumption | exact Ext.rf _ | apply Ext.drew | apply Ext.drewN | apply Ext.alloc))))).mono ?_;rintro e w2 ⟨rfl,x2⟩;have X2:=Hd (X1.out.tr (Ext.tr (by(repeat (first | assumption | exact Ext.rf _ | apply Ext.drew | apply Ext.drewN | apply Ext.alloc))) x2));clear x2 t0 t1 t2 t3 t4 t5;go_wp2_with (fail);go_ret2;exact⟨rfl,X2.out⟩
 ·rw[if_neg h0]
  generalize (ZC i x).2=ee at *;generalize (ZC i x).1=cc at *;have e1:(ee != 0)=true:=by simpa using h0
  clear h0 hP hx hlw hlv hls;obtain⟨kind,nn,cap,xw,xv,co⟩:=i;obtain⟨A,a,B,b,D,d,rfl,-,-,-⟩:=H;simp only at *;replace VC:=Hd VC;go_enter Tryz.func95,Tryz.ntmps95;go_wp2_with (fail);refine(VC.out _ (by(repeat (first | assumption | exact Ext.rf _ | apply Ext.drew | apply Ext.drewN | apply Ext.alloc)))).mono ?_;rintro e w1 ⟨rfl,x1⟩;have X1:=Hd (Ext.tr (a:=w) (by(repeat (first | assumption | exact Ext.rf _ | apply Ext.drew | apply Ext.drewN | apply Ext.alloc))) x1);clear x1;go_wp2_with (fail);go_ret2;exact⟨rfl,X1.out⟩
abbrev Txt := List UInt8
def txS (l:Txt) : Value:=.string ⟨l.toArray⟩
theorem Vn (a b:Txt)(l:List Txt)(s:Txt) : Lib.join (a::b::l) s=a++s++Lib.join (b::l) s:=by
 unfold Lib.join;rw[List.intercalate_cons_cons]
theorem XX : ∀ (l:List Txt) (a s:Txt),l≠[]->Lib.join (l++[a]) s=Lib.join l s++s++a
 | [],_,_,h=>absurd rfl h
 | [b],a,s,_=>by
  rw[List.cons_append,List.nil_append,Vn];rw[Lib.join_one,Lib.join_one]
 | b::c::l,a,s,_=>by
  have ih:=XX (c::l) a s (by simp);rw[List.cons_append,List.cons_append,Vn,Vn,<-List.cons_append,ih];simp only[List.append_assoc]
def Yn : Txt:=[116,97,107,101]
def tTo : Txt:=[32,116,111,32]
def QT : Txt:=[59,32]
def Qy : Txt:=[32,62,32]
def tAt : Txt:=[58,32]
def Zx (x:List Int)(k:Nat) : List Txt:=((List.range k).filter fun j=>x.getD j 0==1).map fun j:Nat=>Lib.itoa (j:Int)
def ZM (x:List Int)(k:Nat) : List Txt:=(List.range k).map fun j:Nat=>Lib.itoa (j:Int)++tTo++Lib.itoa (x.getD j 0)
def ZA (x:List Int)(k:Nat) : List Txt:=(List.range k).map fun j:Nat=>Lib.itoa (x.getD j 0)
def Z9 (kind:Int)(x:List Int) : Txt :=
 if kind=1 then Lib.join (Yn::Zx x x.length) [32]
 else if kind=2 then Lib.join (ZM x x.length) QT
 else Lib.join (ZA x x.length++[[48]]) Qy
def ZR (kind:Int)(x:List Int) : Nat->Txt
 | 0=>if kind=1 then Yn else []
 | k+1=>if kind=1 then(if x.getD k 0=1 then ZR kind x k++[32]++Lib.itoa (k:Int) else ZR kind x k)
  else if kind=2 then(if 0<k then ZR kind x k++QT else ZR kind x k)++Lib.itoa (k:Int)++tTo++Lib.itoa (x.getD k 0)
  else ZR kind x k++Lib.itoa (x.getD k 0)++Qy
def Qn (kind:Int)(x:List Int) : Txt:=if kind=3 then ZR kind x x.length++[48] else ZR kind x x.length
theorem Wq (x:List Int)(k:Nat) : Zx x (k+1)=if x.getD k 0=1 then Zx x k++[Lib.itoa (k:Int)] else Zx x k:=by
 unfold Zx;rw[List.range_succ,List.filter_append,List.map_append]
 by_cases h:x.getD k 0=1
 ·have h':(x.getD k 0==1)=true:=by rw[beq_iff_eq];exact h
  rw[if_pos h,List.filter_cons_of_pos (by exact h')]
  rfl
 ·have h':¬(x.getD k 0==1)=true:=by rw[beq_iff_eq];exact h
  rw[if_neg h,List.filter_cons_of_neg (by exact h')];simp
theorem VP (x:List Int)(k:Nat) : ZM x (k+1)=ZM x k++[Lib.itoa (k:Int)++tTo++Lib.itoa (x.getD k 0)]:=by
 unfold ZM;rw[List.range_succ,List.map_append]
 rfl
theorem VQ (x:List Int)(k:Nat) : ZA x (k+1)=ZA x k++[Lib.itoa (x.getD k 0)]:=by
 unfold ZA;rw[List.range_succ,List.map_append]
 rfl
theorem ZcG (x:List Int) : ∀ k,ZR 1 x k=Lib.join (Yn::Zx x k) [32]
 | 0=>by
  simp only[ZR,Zx,List.range_zero,List.filter_nil,List.map_nil,if_true,Lib.join_one]
 | k+1=>by
  have ih:=ZcG x k;rw[Wq];simp only[ZR,if_true];split
  ·rw[<-List.cons_append,XX _ _ _ (by simp),<-ih]
  ·exact ih
theorem ZcH (x:List Int) : ∀ k,ZR 2 x k=Lib.join (ZM x k) QT
 | 0=>by
  simp[ZR,ZM,Lib.join]
 | k+1=>by
  have ih:=ZcH x k;rw[VP];simp only[ZR,show ¬(2:Int)=1 by decide,if_false,if_true]
  by_cases hk:0<k
  ·rw[if_pos hk,XX _ _ _ (by
    intro h;have:=congrArg List.length h;simp[ZM] at this;omega),<-ih]
   simp only[List.append_assoc]
  ·obtain rfl:k=0:=by omega
   rw[if_neg (by omega)];simp[ZR,ZM,Lib.join_one]
theorem ZcI (x:List Int) : ∀ k,ZR 3 x k++[48]=Lib.join (ZA x k++[[48]]) Qy
 | 0=>by
  simp only[ZR,ZA,List.range_zero,List.map_nil,List.nil_append,Lib.join_one,show ¬(3:Int)=1 by decide,if_false]
 | k+1=>by
  have ih:=ZcI x k;rw[VQ,XX _ _ _ (by simp)];simp only[ZR,show ¬(3:Int)=1 by decide,show ¬(3:Int)=2 by decide,if_false];have e:∀ (l:List Txt) (a:Txt),Lib.join (l++[a]) Qy=(if l=[] then [] else Lib.join l Qy++Qy)++a:=fun l a=>by
   by_cases h:l=[]
   ·subst h
    simp[Lib.join_one]
   ·rw[if_neg h,XX _ _ _ h]
  rw[e] at ih;have ih2:=List.append_cancel_right ih;rw[e,ih2]
theorem J2 {kind:Int}(hk:kind=1\/kind=2\/kind=3)(x:List Int) : Qn kind x=Z9 kind x:=by
 unfold Qn Z9;rcases hk with rfl | rfl | rfl
 ·rw[if_neg (by decide),if_pos rfl,ZcG]
 ·rw[if_neg (by decide),if_neg (by decide),if_pos rfl,ZcH]
 ·rw[if_pos rfl,if_neg (by decide),if_neg (by decide),ZcI]
def dgT (u:Nat) : List UInt8:=if u=0 then [] else Lib.decDigits u
theorem ZcJ {u:Nat}(h:u≠0) : dgT u=dgT (u / 10)++[UInt8.ofNat (48+u%10)]:=by
 unfold dgT;rw[if_neg h,Lib.decDigits]
 by_cases h1:u<10
 ·rw[dif_pos h1,if_pos (by omega),Nat.mod_eq_of_lt h1]
  rfl
 ·rw[dif_neg h1,if_neg (by omega)]
theorem Yp (n:Int)(h0:-9223372036854775808<=n)(h1:n<=9223372036854775807)(w:World) :
  Calls Tryz.prog 52 #[.int .i64 n] w fun e w'=>e=.returned (.string ⟨(Lib.itoa n).toArray⟩)/\Ext w w':=by
 by_cases hz:n=0
 ·subst hz
  have e9:Lib.itoa 0=[48]:=by
   unfold Lib.itoa;rw[if_neg (by omega)];rw[Lib.decDigits];simp
  rw[e9];go_enter Tryz.func52,Tryz.ntmps52;go_wp2_with (fail);go_ret;exact⟨rfl,by(repeat (first | assumption | exact Ext.rf _ | apply Ext.drew | apply Ext.drewN | apply Ext.alloc))⟩
 ·have e1:(n==0)=false:=by simpa using hz
  have INV:∀ (i:Nat) (m:Int) (l:List UInt8),dgT m.natAbs++l=dgT n.natAbs->m.natAbs*10^i<=n.natAbs->(m=0->l=Lib.decDigits n.natAbs)/\(m≠0->i<20):=fun i m l e1 e2=>by
   refine⟨fun hm=>?_,fun hm=>?_⟩
   ·subst hm
    have h2:dgT (0:Int).natAbs=[]:=rfl;rw[h2,List.nil_append] at e1;rw[e1];unfold dgT;rw[if_neg (by omega)]
   ·refine Classical.byContradiction fun hi=>?_
    have h3:10^20<=10^i:=Nat.pow_le_pow_right (by omega) (by omega);have h4:1*10^i<=m.natAbs*10^i:=Nat.mul_le_mul_right _ (by omega);omega
  have HA:Hid (dgT n.natAbs++[]=dgT n.natAbs):=by
   have h:dgT n.natAbs++[]=dgT n.natAbs:=List.append_nil _;exact h
  have HL0:Hid (([]:List UInt8).length=0):=by
   have h:([]:List UInt8).length=0:=rfl;exact h
  have HB:Hid (n.natAbs*10^0<=n.natAbs):=Hd (by omega);replace INV:=Hd INV;go_enter Tryz.func52,Tryz.ntmps52;go_wp2_with (fail);go_loopw [3,4,5] (fun v3 v4 v5 wr=>∃ (l:List UInt8) (m:Int) (i:Nat),v3=.string ⟨l.toArray⟩/\v4=.int .i64 m/\v5=.int .i64 i/\i<=20/\Hid (l.length=i)/\Hid (dgT m.natAbs++l=dgT n.natAbs)/\Hid (m.natAbs*10^i<=n.natAbs)/\Hid (Ext w wr)) (fun _ v4 _ _=>(intOf v4).natAbs)
  case atStart=>exact⟨[],n,0,rfl,rfl,rfl,by omega,HL0,HA.out,HB.out,by(repeat (first | assumption | exact Ext.rf _ | apply Ext.drew | apply Ext.drewN | apply Ext.alloc))⟩
  case round =>
   obtain⟨wo,rfl⟩:∃ wo:World,wo=wr:=⟨_,rfl⟩;obtain⟨l,m,i,rfl,rfl,rfl,hi,ll,hl,hb,X⟩:=hrel;obtain⟨I1,I2⟩:=INV.out i m l hl.out hb.out;have lb:¬9223372036854775807<1+l.length:=by have:=ll.out;omega
   by_cases hm:m=0
   ·subst hm
    have hl9:=Hd (I1 rfl);clear I1 I2;have e3:((0:Int) != 0)=false:=by simp
    by_cases hi9:(i:Int)<20
    all_goals
     by_cases hn:n<0
     ·have e9:Hid (Lib.itoa n=45::l):=by
       have h:Lib.itoa n=45::l:=by
        unfold Lib.itoa;rw[if_pos hn,hl9.out]
       exact h
      go_wp2_with (fail);go_ret;rw[e9.out];exact⟨by first | rfl | (congr 2),X.out.tr (by(repeat (first | assumption | exact Ext.rf _ | apply Ext.drew | apply Ext.drewN | apply Ext.alloc)))⟩
     ·have e9:Hid (Lib.itoa n=l):=by
       have h:Lib.itoa n=l:=by
        unfold Lib.itoa;rw[if_neg hn,hl9.out,show n.natAbs=n.toNat by omega]
       exact h
      go_wp2_with (fail);go_ret;rw[e9.out];exact⟨rfl,X.out.tr (by(repeat (first | assumption | exact Ext.rf _ | apply Ext.drew | apply Ext.drewN | apply Ext.alloc)))⟩
   ·have hi20:=I2 hm
    have q1:(i:Int)<20:=by omega
    have e2:(m != 0)=true:=by simpa using hm
    have hmb:m.natAbs<=n.natAbs:=by
     have h3:m.natAbs*1<=m.natAbs*10^i:=Nat.mul_le_mul_left _ (Nat.pow_pos (by omega));have:=hb.out;omega
    have hd1:(m.tmod 10).natAbs=m.natAbs%10:=by rw[Int.natAbs_tmod];rfl
    have hd2:(m.tdiv 10).natAbs=m.natAbs / 10:=by rw[Int.natAbs_tdiv];rfl
    obtain⟨t,ht⟩:∃ t,m.tmod 10=t:=⟨_,rfl⟩;obtain⟨m2,hm2⟩:∃ m2,m.tdiv 10=m2:=⟨_,rfl⟩;rw[ht] at hd1;rw[hm2] at hd2;have wm:IntKind.i64.wrap m2=m2:=IntWalk.i64_in _ (by omega);obtain⟨d,hd⟩:∃ d,Hid (m.natAbs%10=d):=⟨_,rfl⟩;rw[hd.out] at hd1;have d9:d<=9:=by have:=hd.out;omega
    have w1:IntKind.i64.wrap (48+(d:Int))=48+(d:Int):=IntWalk.i64_in _ (by omega);have NL:Hid (dgT m2.natAbs++(UInt8.ofNat (48+d)::l)=dgT n.natAbs):=Hd (by
     rw[<-hl.out,ZcJ (u:=m.natAbs) (by omega),hd2,hd.out,List.append_assoc]
     rfl)
    have NB:Hid (m2.natAbs*10^(i+1)<=n.natAbs):=Hd (by
     refine Nat.le_trans ?_ hb.out;rw[Nat.pow_succ,hd2,Nat.mul_comm (10^i) 10,<-Nat.mul_assoc];exact Nat.mul_le_mul_right _ (Nat.div_mul_le_self _ _))
    have MS:Hid (m2.natAbs<m.natAbs):=Hd (by omega);clear hl hb I1 I2 hmb;have CV:=run_convert_bytes_arg (P:=Tryz.prog) (wo.alloc (.cells #[.int .u8 (48+(d:Int))] 5)) 52 5 Tryz.underlying52 Tryz.underlying5 wo.heap.size 0 1 1 [48+(d:Int)] rfl (fun i hi=>by
     obtain rfl:i=0:=by omega
     exact(show Blk (wo.alloc (.cells #[.int .u8 (48+(d:Int))] 5)) wo.heap.size 5 #[.int .u8 (48+(d:Int))] from .new rfl).cell 0) 9 Tryz.underlying9
    obtain⟨s0,hs0⟩:∃ s0,Hid (strOfNums [48+(d:Int)]=s0):=⟨_,rfl⟩;rw[hs0.out] at CV;have ls:¬9223372036854775807<s0.size+l.length:=by
     have h:s0.size=1:=by rw[<-hs0.out];rfl
     have:=ll.out;omega
    have LL:Hid ((UInt8.ofNat (48+d)::l).length=i+1):=Hd (by rw[List.length_cons,ll.out]);have ES:Hid (s0++(⟨l.toArray⟩:ByteArray)=⟨(UInt8.ofNat (48+d)::l).toArray⟩):=Hd (by
     rw[<-hs0.out];have e1:(48+(d:Int)).toNat=48+d:=by omega
     simp only[strOfNums,List.map_cons,List.map_nil,e1];apply ByteArray.ext;rw[ByteArray.data_append];simp)
    by_cases hneg:t<0
    ·have w0:IntKind.i64.wrap (0-t)=(d:Int):=by rw[show 0-t=(d:Int) by omega];exact IntWalk.i64_in _ (by omega)
     have w0':IntKind.i64.wrap (-t)=(d:Int):=by rw[show -t=(d:Int) by omega];exact IntWalk.i64_in _ (by omega)
     clear hd1 hd2;go_wp2_with (fail);go_roundw
     case rel=>exact⟨UInt8.ofNat (48+d)::l,m2,i+1,by rw[<-ES.out],rfl,by go_num,by omega,LL,NL,NB,X.out.tr (by(repeat (first | assumption | exact Ext.rf _ | apply Ext.drew | apply Ext.drewN | apply Ext.alloc)))⟩
     case measure=>(have h9:=MS.out;simp only[intOf];exact h9)
    ·obtain rfl:t=(d:Int):=by omega
     clear hd1 hd2;go_wp2_with (fail);go_roundw
     case rel=>exact⟨UInt8.ofNat (48+d)::l,m2,i+1,by rw[<-ES.out],rfl,by go_num,by omega,LL,NL,NB,X.out.tr (by(repeat (first | assumption | exact Ext.rf _ | apply Ext.drew | apply Ext.drewN | apply Ext.alloc)))⟩
     case measure=>(have h9:=MS.out;simp only[intOf];exact h9)
theorem UI (n:Int)(h:0<=n/\n<=9223372036854775807) : (Lib.itoa n).length<=21:=Lib.itoa_length_le n (by omega) h.2
theorem ZI (a b:Txt) : (⟨a.toArray⟩:ByteArray)++⟨b.toArray⟩=⟨(a++b).toArray⟩:=by
 apply ByteArray.ext;rw[ByteArray.data_append];simp
def ZaG (i:InstP)(x:List Int) : Txt×Int:=if (ZC i x).2=0 then(Qn i.kind x++tAt++Lib.itoa (ofG i (ZC i x).1)++[10],0) else([],(ZC i x).2)
structure AnsIs (i:InstP)(x:List Int) : Prop where
 chk:Zn i=0
 len:(x.length:Int)=i.n
 n64:x.length<=64
 rng:∀ y∈x,0<=y/\y<=1000
 c0:0<=(ZC i x).1
 c1:(ZC i x).1<=137438953408
theorem Jc {i:InstP}{x:List Int}(h:(ZC i x).2=0) : AnsIs i x:=by
 have hc:=QS h
 by_cases hk:i.kind=1
 ·have b:=(J1 hk h).2
  have ok:=YL hc hk;have k2:=ok.n2;have k3:=ok.v;unfold ZC at h;rw[if_neg (by simpa using hc),if_pos hk] at h
  by_cases hl:(x.length:Int)=i.n/\∀ v∈x,v=0\/v=1
  ·exact⟨hc,hl.1,by omega,fun y hy=>by rcases hl.2 y hy with e | e<;>omega,b.1,by omega⟩
  ·rw[if_neg hl] at h
   exact absurd h (by decide)
 ·have sq:=ZG hc hk
  have rok:=Yx sq;have n2:=rok.n2;have n1:=rok.n1;have hin:(i.cost.length:Int)=i.n:=sq.len;have num:=WH rok;have h':=h;unfold ZC at h';rw[if_neg (by simpa using hc),if_neg hk] at h'
  by_cases hp:XF x i.cost.length=true/\(i.kind=3->x[0]?=some 0)
  ·obtain⟨l,rfl,hl⟩:=XO.1 hp.1
   have ll:l.length=i.cost.length:=by rw[hl.length_eq,List.length_range]
   have lt:∀ y∈l,y<i.cost.length:=fun y hy=>List.mem_range.1 (hl.mem_iff.1 hy)
   have hb:0<=(ZC i (Zl l)).1/\(ZC i (Zl l)).1<=137438953408:=by
    unfold ZC;rw[if_neg (by simpa using hc),if_neg hk,if_pos hp]
    by_cases h2:i.kind=2
    ·simp only[h2,if_true]
     rw[WC ll.symm];have h1:=YE (f:=fun k=>Za i.cost k (l.getD k 0)) (B:=2147483647) (List.range l.length) (fun k hk=>by
      have hk:=List.mem_range.1 hk;have e:l[k]?=some l[k]:=List.getElem?_eq_getElem hk;rw[getD_some e];exact num k _ (by omega) (lt _ (List.getElem_mem hk)))
     rw[List.length_range] at h1;omega
    ·simp only[h2,if_false]
     have e:(Zl l).tail.map Int.toNat=l.tail:=by
      cases l with
      | nil=>rfl
      | cons a q=>simp[Zl,Function.comp_def]
     rw[e];have h1:=Vz num l.tail 0 (by omega) fun y hy=>lt y (List.mem_of_mem_tail hy)
     have h3:l.tail.length<=24:=by rw[List.length_tail];omega
     omega
   refine⟨hc,by rw[Zq,ll];exact hin,by rw[Zq,ll];omega,fun y hy=>?_,hb.1,hb.2⟩;obtain⟨k,hk,rfl⟩:=List.mem_map.1 hy;have:=lt k hk;omega
  ·rw[if_neg hp] at h'
   exact absurd h' (by decide)
theorem ZdL {i:InstP}{x:List Int}(h:(ZC i x).2=0) : -9223372036854775808<=ofG i (ZC i x).1/\ofG i (ZC i x).1<=9223372036854775807:=by
 have A:=Jc h;have a1:=A.c0;have a2:=A.c1;unfold ofG;split
 ·rename_i hk
  have ok:=YL A.chk hk;have s:=Za8 ok.sv;have k2:=ok.n2;have k3:=ok.v;omega
 ·omega
end Go.Proofs.YtmojhhlcocjoaaaGreatDoor
namespace Go.Proofs.YtmojhhlcocjoaaaGreatDoor
open Go.Shelf
def J3 : Go.Shelf.Ren:=⟨fun | 171=>90 | 243=>143 | 246=>172 | 283=>191 | 284=>192 | 285=>193 | 286=>194 | 129=>190 | 317=>203 | 318=>204 | 319=>205 | 320=>206 | 337=>221 | 338=>170 | n=>n,fun | 3=>3 | 9=>9 | 2=>2 | 4=>4 | 171=>242 | 0=>0 | 53=>53 | 37=>52 | 5=>5 | 173=>244 | 212=>255 | 51=>196 | 20=>20 | 213=>256 | 46=>150 | 232=>277 | 233=>241 | n=>n,fun | 17=>2 | 18=>3 | 19=>0 | n=>n⟩
theorem Zdo : LaysM.n171 Tryz.prog J3 where
 mixed:=by kernel_rfl
 f129:=Tryz.func190.trans (congrArg some (by kernel_rfl))
 f171:=Tryz.func90.trans (congrArg some (by kernel_rfl))
 f243:=Tryz.func143.trans (congrArg some (by kernel_rfl))
 f246:=Tryz.func172.trans (congrArg some (by kernel_rfl))
 f283:=Tryz.func191.trans (congrArg some (by kernel_rfl))
 f284:=Tryz.func192.trans (congrArg some (by kernel_rfl))
 f285:=Tryz.func193.trans (congrArg some (by kernel_rfl))
 f286:=Tryz.func194.trans (congrArg some (by kernel_rfl))
 f317:=Tryz.func203.trans (congrArg some (by kernel_rfl))
 f318:=Tryz.func204.trans (congrArg some (by kernel_rfl))
 f319:=Tryz.func205.trans (congrArg some (by kernel_rfl))
 f320:=Tryz.func206.trans (congrArg some (by kernel_rfl))
 f337:=Tryz.func221.trans (congrArg some (by kernel_rfl))
 f338:=Tryz.func170.trans (congrArg some (by kernel_rfl))
 t0:=Tryz.underlying0
 a0:=Tryz.isAgg0
 z0:=Tryz.sizeOf0
 v0:=Tryz.zeroValue0
 t2:=Tryz.underlying2
 a2:=Tryz.isAgg2
 z2:=Tryz.sizeOf2
 v2:=Tryz.zeroValue2
 t3:=Tryz.underlying3
 a3:=Tryz.isAgg3
 z3:=Tryz.sizeOf3
 v3:=Tryz.zeroValue3
 t4:=Tryz.underlying4
 a4:=Tryz.isAgg4
 z4:=Tryz.sizeOf4
 v4:=Tryz.zeroValue4
 t5:=Tryz.underlying5
 a5:=Tryz.isAgg5
 z5:=Tryz.sizeOf5
 v5:=Tryz.zeroValue5
 t9:=Tryz.underlying9
 a9:=Tryz.isAgg9
 z9:=Tryz.sizeOf9
 v9:=Tryz.zeroValue9
 t20:=Tryz.underlying20
 a20:=Tryz.isAgg20
 z20:=Tryz.sizeOf20
 v20:=Tryz.zeroValue20
 t37:=Tryz.underlying52
 a37:=Tryz.isAgg52
 z37:=Tryz.sizeOf52
 v37:=Tryz.zeroValue52
 t46:=Tryz.underlying150
 a46:=Tryz.isAgg150
 z46:=Tryz.sizeOf150
 v46:=Tryz.zeroValue150
 t51:=Tryz.underlying196
 a51:=Tryz.isAgg196
 z51:=Tryz.sizeOf196
 v51:=Tryz.zeroValue196
 t53:=Tryz.underlying53
 a53:=Tryz.isAgg53
 z53:=Tryz.sizeOf53
 v53:=Tryz.zeroValue53
 t171:=Tryz.underlying242
 a171:=Tryz.isAgg242
 z171:=Tryz.sizeOf242
 v171:=Tryz.zeroValue242
 t173:=Tryz.underlying244
 a173:=Tryz.isAgg244
 z173:=Tryz.sizeOf244
 v173:=Tryz.zeroValue244
 t212:=Tryz.underlying255
 a212:=Tryz.isAgg255
 z212:=Tryz.sizeOf255
 v212:=Tryz.zeroValue255
 t213:=Tryz.underlying256
 a213:=Tryz.isAgg256
 z213:=Tryz.sizeOf256
 t232:=Tryz.underlying277
 a232:=Tryz.isAgg277
 z232:=Tryz.sizeOf277
 v232:=Tryz.zeroValue277
 t233:=Tryz.underlying241
 a233:=Tryz.isAgg241
 z233:=Tryz.sizeOf241
 v233:=Tryz.zeroValue241
 g17:=by kernel_rfl
 g18:=by kernel_rfl
 g19:=by kernel_rfl
 i0:=by kernel_rfl
 i2:=by kernel_rfl
 i3:=by kernel_rfl
 i4:=by kernel_rfl
 i5:=by kernel_rfl
 i9:=by kernel_rfl
 i20:=by kernel_rfl
 i37:=by kernel_rfl
 i46:=by kernel_rfl
 i51:=by kernel_rfl
 i53:=by kernel_rfl
 i171:=by kernel_rfl
 i173:=by kernel_rfl
 i212:=by kernel_rfl
 i232:=by kernel_rfl
 i233:=by kernel_rfl
 m17:=by kernel_rfl
 m18:=by kernel_rfl
 m19:=by kernel_rfl
end Go.Proofs.YtmojhhlcocjoaaaGreatDoor
namespace Go.Proofs.YtmojhhlcocjoaaaGreatDoor
open Go.RowKit Go.ChangeShapes Go.WideShapes Go.ChangeAt Go.Deep
def Ten (w:World) : Prop:=Lib.TabIs Tryz.prog w "internal/strconv.uint64pow10" .u64 Lib.pow10Tab
theorem Ten.ext {w w':World}(h:Ten w)(x:Ext w w') : Ten w':=Lib.tabBelow_of_tabIs h w' x
theorem ZcK {w0 w:World}(h:Ext w0 w)(os:Array Obj) : Ext w0 (Go.Sort.grow w os) :=
 Below.trans h ⟨rfl,rfl,rfl,by simp[Go.Sort.grow],fun k hk=>by have:=h.size;simp only[Go.Sort.grow];exact Array.getElem?_append_left (by omega)⟩
theorem ZcL (n:Int)(h0:-9223372036854775808<=n)(h1:n<=9223372036854775807)(w:World)(hT:Ten w) :
  Calls Tryz.prog 90 #[.int .i64 n] w fun e w'=>e=.returned (.string ⟨(Lib.itoa n).toArray⟩)/\Ext w w':=by
 refine(Any.strconv_Itoa Zdo n h0 h1 w hT).mono ?_;rintro e w' ⟨rfl,k,os,rfl⟩;exact⟨rfl,ZcK ((Ext.rf w).drewN k) os⟩
theorem Xl (n:Int)(h0:-9223372036854775808<=n)(h1:n<=9223372036854775807)(w:World)(hT:Ten w) :
  Calls Tryz.prog 48 #[.int .i64 n] w fun e w'=>e=.returned (.string ⟨(Lib.itoa n).toArray⟩)/\Ext w w':=by
 have IT:=Hd (fun(W:World) (x:Ext w W)=>ZcL n h0 h1 W (hT.ext x));go_enter Tryz.func48,Tryz.ntmps48;go_wp2_with (fail);refine(IT.out _ (by(repeat (first | assumption | exact Ext.rf _ | apply Ext.drew | apply Ext.drewN | apply Ext.alloc)))).mono ?_;rintro e w1 ⟨rfl,x1⟩;have X1:=Hd (Ext.tr (a:=w) (by(repeat (first | assumption | exact Ext.rf _ | apply Ext.drew | apply Ext.drewN | apply Ext.alloc))) x1);go_wp2_with (fail);go_ret;exact⟨rfl,X1.out⟩
theorem ZcM (i:InstP)(us:List Value)(P:Option Addr)(c:Nat)(x:List Int)(w:World)(H:RInst w us i)(hP:RdI w P x)(hT:Ten w)(hx:x.length<=1000)(hlw:i.weight.length<=maxLen)(hlv:i.value.length<=maxLen)(hls:i.weight.length+i.value.length<=maxLen)
  (WO:(ZC i x).2=0->∀ W,Ext w W->Calls Tryz.prog 96 #[.agg (List.toArray us),.slice P x.length c] W fun e w'=>e=.returned (txS (Z9 i.kind x))/\Ext W w')
  (WL0:(ZC i x).2=0->(Z9 i.kind x).length<=10000) :
  Calls Tryz.prog 50 #[.agg (List.toArray us),.slice P x.length c] w fun e w'=>e=.returned (.tuple #[txS (ZaG i x).1,.int .i64 (ZaG i x).2])/\Ext w w':=by
 have VV:=fun(W:World) (y:Ext w W)=>ZaF i us P c x W (H.ext y) (hP.ext y) hx hlw hlv hls
 unfold ZaG;unfold Zdm at VV
 by_cases h:(ZC i x).2=0
 ·have A:=Jc h
  have vb:=ZdL h;have WO':=WO h;have WL:=WL0 h;have WD:=fun(W:World) (y:Ext w W)=>Xl (ofG i (ZC i x).1) vb.1 vb.2 W (hT.ext y)
  have li:=Lib.itoa_length_le _ vb.1 vb.2;rw[if_pos h] at VV ⊢;rw[J2 (YW A.chk)];clear WO WL0 A vb h hT hP hx hlw hlv hls;generalize ofG i (ZC i x).1=vv at *;generalize hiv:Lib.itoa vv=tv at *;generalize Z9 i.kind x=l at *;have lA:¬9223372036854775807<l.length+2:=by omega
  have lB:¬9223372036854775807<l.length+2+tv.length:=by omega
  have lC:¬9223372036854775807<l.length+2+tv.length+1:=by omega
  have ES:Hid ((⟨l.toArray⟩:ByteArray)++⟨#[58,32]⟩++⟨tv.toArray⟩++⟨#[10]⟩=⟨(l++tAt++tv++[10]).toArray⟩):=Hd (by
   rw[show (⟨#[58,32]⟩:ByteArray)=⟨(tAt:Txt).toArray⟩ from rfl,show (⟨#[10]⟩:ByteArray)=⟨([10]:Txt).toArray⟩ from rfl,ZI,ZI,ZI])
  obtain⟨kind,nn,cap,xw,xv,co⟩:=i;obtain⟨A,a,B,b,D,d,rfl,-,-,-⟩:=H;simp only at *;have B1:Hid (Blk (w.alloc (.cells #[.int .i64 kind,.int .i64 nn,.int .i64 cap,.slice A xw.length a,.slice B xv.length b,.slice D co.length d] 25)) w.heap.size 25 #[.int .i64 kind,.int .i64 nn,.int .i64 cap,.slice A xw.length a,.slice B xv.length b,.slice D co.length d]):=.new rfl;replace VV:=Hd VV;replace WO':=Hd WO';replace WD:=Hd WD;replace hiv:=Hd hiv;unfold txS at *;go_enter Tryz.func50,Tryz.ntmps50;go_wp2_with (fail);refine(VV.out _ (by(repeat (first | assumption | exact Ext.rf _ | apply Ext.drew | apply Ext.drewN | apply Ext.alloc)))).mono ?_;rintro e w1 ⟨rfl,x1⟩;have X1:=Hd (Ext.tr (a:=w) (by(repeat (first | assumption | exact Ext.rf _ | apply Ext.drew | apply Ext.drewN | apply Ext.alloc))) x1);have b1:=B1.out.ext x1;have t0:=b1.c0;have t1:=b1.c1;have t2:=b1.c2;have t3:=b1.c3;have t4:=b1.c4;have t5:=b1.c5;clear x1 B1 b1;go_wp2_with (fail);refine(WO'.out _ (X1.out.tr (by(repeat (first | assumption | exact Ext.rf _ | apply Ext.drew | apply Ext.drewN | apply Ext.alloc))))).mono ?_;rintro e w2 ⟨rfl,x2⟩;have X2:=Hd (X1.out.tr (Ext.tr (by(repeat (first | assumption | exact Ext.rf _ | apply Ext.drew | apply Ext.drewN | apply Ext.alloc))) x2));clear x2 t0 t1 t2 t3 t4 t5;go_wp2_with (fail);refine(WD.out _ (X2.out.tr (by(repeat (first | assumption | exact Ext.rf _ | apply Ext.drew | apply Ext.drewN | apply Ext.alloc))))).mono ?_;rintro e w3 ⟨rfl,x3⟩;have X3:=Hd (X2.out.tr (Ext.tr (by(repeat (first | assumption | exact Ext.rf _ | apply Ext.drew | apply Ext.drewN | apply Ext.alloc))) x3));clear x3;go_wp2_with (fail);go_ret2;exact⟨by rw[<-ES.out];rfl,X3.out⟩
 ·rw[if_neg h] at VV ⊢
  generalize (ZC i x).2=ee at *;have e1:(ee != 0)=true:=by simpa using h
  clear h hP WO WL0 hT hx hlw hlv hls;obtain⟨kind,nn,cap,xw,xv,co⟩:=i;obtain⟨A,a,B,b,D,d,rfl,-,-,-⟩:=H;simp only at *;replace VV:=Hd VV;unfold txS;go_enter Tryz.func50,Tryz.ntmps50;go_wp2_with (fail);refine(VV.out _ (by(repeat (first | assumption | exact Ext.rf _ | apply Ext.drew | apply Ext.drewN | apply Ext.alloc)))).mono ?_;rintro e w1 ⟨rfl,x1⟩;have X1:=Hd (Ext.tr (a:=w) (by(repeat (first | assumption | exact Ext.rf _ | apply Ext.drew | apply Ext.drewN | apply Ext.alloc))) x1);clear x1;go_wp2_with (fail);go_ret2;exact⟨rfl,X1.out⟩
theorem Qo (kind:Int)(x:List Int)(hl:x.length<=64)(hx:∀ y∈x,0<=y/\y<=1000) : ∀ k,k<=x.length->(ZR kind x k).length<=48*k+4
 | 0,_=>by
  unfold ZR;split<;>simp[Yn]
 | k+1,h=>by
  have ih:=Qo kind x hl hx k (by omega);have e:x.getD k 0=x[k]:=getD_some (List.getElem?_eq_getElem (by omega));have b:=hx (x[k]'(by omega)) (List.getElem_mem _);have h1:=UI (x[k]'(by omega)) (by omega);have h2:=UI (k:Int) (by omega);rw[<-e] at h1;unfold ZR;split
  ·split
   ·simp only[List.length_append,List.length_cons,List.length_nil];omega
   ·omega
  ·split
   ·split<;>(simp only[List.length_append,tTo,QT,List.length_cons,List.length_nil];omega)
   ·simp only[List.length_append,Qy,List.length_cons,List.length_nil];omega
theorem ZaH {kind:Int}(hk:kind=1\/kind=2\/kind=3){x:List Int}(hl:x.length<=64)(hx:∀ y∈x,0<=y/\y<=1000) : (Z9 kind x).length<=10000:=by
 rw[<-J2 hk];have h:=Qo kind x hl hx x.length (Nat.le_refl _);unfold Qn;split
 ·simp only[List.length_append,List.length_cons,List.length_nil];omega
 ·omega
end Go.Proofs.YtmojhhlcocjoaaaGreatDoor
namespace Go.Proofs.YtmojhhlcocjoaaaGreatDoor
open Go.Shelf
def Uv : Go.Shelf.Ren:=⟨fun | 156=>149 | 165=>93 | 166=>63 | 169=>65 | 240=>114 | 241=>147 | 276=>161 | 277=>173 | n=>n,fun | 31=>91 | 9=>9 | 3=>3 | 4=>4 | 0=>0 | 20=>20 | 72=>109 | 76=>112 | 70=>107 | 37=>52 | 75=>111 | 127=>175 | 164=>213 | 5=>5 | 80=>115 | n=>n,fun n=>n⟩
theorem Zdp : Lays.n156 Tryz.prog Uv where
 mixed:=by kernel_rfl
 f156:=Tryz.func149.trans (congrArg some (by kernel_rfl))
 f165:=Tryz.func93.trans (congrArg some (by kernel_rfl))
 f166:=Tryz.func63.trans (congrArg some (by kernel_rfl))
 f169:=Tryz.func65.trans (congrArg some (by kernel_rfl))
 f240:=Tryz.func114.trans (congrArg some (by kernel_rfl))
 f241:=Tryz.func147.trans (congrArg some (by kernel_rfl))
 f276:=Tryz.func161.trans (congrArg some (by kernel_rfl))
 f277:=Tryz.func173.trans (congrArg some (by kernel_rfl))
 t0:=Tryz.underlying0
 a0:=Tryz.isAgg0
 z0:=Tryz.sizeOf0
 v0:=Tryz.zeroValue0
 t3:=Tryz.underlying3
 a3:=Tryz.isAgg3
 z3:=Tryz.sizeOf3
 v3:=Tryz.zeroValue3
 t4:=Tryz.underlying4
 a4:=Tryz.isAgg4
 z4:=Tryz.sizeOf4
 v4:=Tryz.zeroValue4
 t9:=Tryz.underlying9
 a9:=Tryz.isAgg9
 z9:=Tryz.sizeOf9
 v9:=Tryz.zeroValue9
 t20:=Tryz.underlying20
 a20:=Tryz.isAgg20
 z20:=Tryz.sizeOf20
 v20:=Tryz.zeroValue20
 t31:=Tryz.underlying91
 a31:=Tryz.isAgg91
 z31:=Tryz.sizeOf91
 v31:=Tryz.zeroValue91
 t37:=Tryz.underlying52
 a37:=Tryz.isAgg52
 z37:=Tryz.sizeOf52
 v37:=Tryz.zeroValue52
 t70:=Tryz.underlying107
 a70:=Tryz.isAgg107
 z70:=Tryz.sizeOf107
 v70:=Tryz.zeroValue107
 t72:=Tryz.underlying109
 a72:=Tryz.isAgg109
 z72:=Tryz.sizeOf109
 v72:=Tryz.zeroValue109
 t75:=Tryz.underlying111
 a75:=Tryz.isAgg111
 z75:=Tryz.sizeOf111
 v75:=Tryz.zeroValue111
 t76:=Tryz.underlying112
 a76:=Tryz.isAgg112
 z76:=Tryz.sizeOf112
 v76:=Tryz.zeroValue112
 t127:=Tryz.underlying175
 a127:=Tryz.isAgg175
 z127:=Tryz.sizeOf175
 v127:=Tryz.zeroValue175
 t164:=Tryz.underlying213
 a164:=Tryz.isAgg213
 z164:=Tryz.sizeOf213
 v164:=Tryz.zeroValue213
theorem ZbQ : Builder.Extra Tryz.prog Uv where
 sizeBuilder:=by kernel_rfl
 liesBuilder:=by kernel_rfl
 t5:=Tryz.underlying5
 a5:=Tryz.isAgg5
 z5:=Tryz.sizeOf5
 v5:=Tryz.zeroValue5
 infoByte:=by kernel_rfl
 cellsByte:=by kernel_rfl
 sizeByte:=by kernel_rfl
 neB5:=by decide
theorem ZcN (bk o c:Nat)(xs:List ByteArray)(sep:ByteArray)(w:World)
  (hcells:∀ (j:Nat) x,xs[j]?=some x->w.cell? ⟨bk,o+j,none⟩=some (.string x))
  (hbk:bk<w.heap.size) (hN:xs.length<=140737488355328) (hcap:xs.length<=c)
  (hlen:(Lib.join (xs.map (·.data.toList)) sep.data.toList).length<=140737488355328) :
  Calls Tryz.prog 149 #[.slice (some ⟨bk,o,none⟩) xs.length c,.string sep] w fun e w'=>e=.returned (.string ⟨(Lib.join (xs.map (·.data.toList)) sep.data.toList).toArray⟩)/\Ext w w' :=
 Any.strings_Join Zdp ZbQ bk o c xs sep w hcells hbk hN hcap hlen
end Go.Proofs.YtmojhhlcocjoaaaGreatDoor
namespace Go.Proofs.YtmojhhlcocjoaaaGreatDoor
open Go.RowKit Go.ChangeShapes Go.WideShapes Go.ChangeAt Go.Deep
theorem Qp : (Tryz.prog.info? 9).map (fun i=>(i.zero,i.size,i.bytes))=some (some (.string ⟨#[]⟩),1,16):=by kernel_rfl
def txV (l:List Txt) : List Value:=l.map txS
theorem VR (l:List Txt)(a:Txt) : txV (l++[a])=txV l++[txS a]:=by unfold txV;rw[List.map_append];rfl
theorem Qq (base:Nat)(A:Option Addr)(c:Nat)(l:List Txt)(s:Txt)(w:World)(h:OwV w base 9 1 A l.length c (txV l))(h0:l≠[])(hn:l.length<=1000)(hlen:(Lib.join l s).length<=140737488355328) :
  Calls Tryz.prog 149 #[.slice A l.length c,.string ⟨s.toArray⟩] w fun e w'=>e=.returned (txS (Lib.join l s))/\Ext w w':=by
 have hr:=h.read.rdC;have hle:=h.le;rcases hr with e | ⟨b,off,rfl,hlt,hc⟩
 ·exact absurd (List.map_eq_nil_iff.1 e) h0
 ·have e1:(l.map fun t:Txt=>(⟨t.toArray⟩:ByteArray)).map (·.data.toList)=l:=by
   rw[List.map_map];exact(List.map_congr_left fun t _=>by simp).trans (List.map_id l)
  have J:=ZcN b off c (l.map fun t:Txt=>(⟨t.toArray⟩:ByteArray)) ⟨s.toArray⟩ w (fun j x hj=>by
   rw[List.getElem?_map] at hj;obtain⟨t,ht,rfl⟩:=Option.map_eq_some_iff.1 hj;refine hc j _ ?_;unfold txV;rw[List.getElem?_map,ht]
   rfl) hlt (by rw[List.length_map];omega) (by rw[List.length_map];exact hle.1) (by rw[e1];simpa using hlen)
  rw[e1,List.length_map] at J;refine J.mono ?_;rintro e w' ⟨rfl,x⟩;exact⟨by simp[txS],x⟩
theorem ZaI (i:InstP)(us:List Value)(P:Option Addr)(c:Nat)(x:List Int)(w:World)(H:RInst w us i)(hP:RdI w P x)(hT:Ten w)(hk:i.kind=3)(hl:x.length<=64)(hx:∀ y∈x,0<=y/\y<=1000)(hJ:(Z9 3 x).length<=10000) :
  Calls Tryz.prog 96 #[.agg (List.toArray us),.slice P x.length c] w fun e w'=>e=.returned (txS (Z9 3 x))/\Ext w w':=by
 obtain⟨i0,hi,hz0,hz1,hz2⟩:=info_parts Qp;have WE:Hid (Z9 3 x=Lib.join (ZA x x.length++[[48]]) Qy):=Hd (by unfold Z9;rw[if_neg (by decide),if_neg (by decide)]);have WD:=fun(W:World) (y:Ext w W) (n:Int) (h:0<=n/\n<=1000)=>Xl n (by omega) (by omega) W (hT.ext y)
 have PS:Hid (∀ k,ZA x (k+1)=ZA x k++[Lib.itoa (x.getD k 0)]):=fun k=>VQ x k
 have PL:Hid (∀ k,(ZA x k).length=k):=fun k=>by unfold ZA;rw[List.length_map,List.length_range]
 obtain⟨kind,nn,cap,xw,xv,co⟩:=i;obtain⟨A,a,B,b,D,d,rfl,-,-,-⟩:=H;simp only at *;subst hk;replace hi:=Hd hi;replace hz0:=Hd hz0;replace hz1:=Hd hz1;replace hz2:=Hd hz2;replace WD:=Hd WD;replace hP:=Hd hP;replace hx:=Hd hx;replace hJ:=Hd hJ;clear hT;have START:Hid (OwV (w.alloc (.cells #[.int .i64 3,.int .i64 nn,.int .i64 cap,.slice A xw.length a,.slice B xv.length b,.slice D co.length d] 25)) w.heap.size 9 1 none 0 0 (txV (ZA x 0))):=OwV.nil _ _ _ _;unfold txS at *;go_enter Tryz.func96,Tryz.ntmps96;go_wp2_with (fail);go_loopw [5,59] (fun v5 v59 wr=>∃ (k:Nat) (C':Option Addr) (cc:Nat),v59=.int .i64 k/\v5=.slice C' k cc/\k<=x.length/\Hid (OwV wr w.heap.size 9 1 C' k cc (txV (ZA x k)))/\Hid (Ext w wr)) (fun _ v _=>x.length-(intOf v).toNat)
 case atStart=>exact⟨0,none,0,rfl,rfl,by omega,START,by(repeat (first | assumption | exact Ext.rf _ | apply Ext.drew | apply Ext.drewN | apply Ext.alloc))⟩
 case round =>
  obtain⟨wo,rfl⟩:∃ wo:World,wo=wr:=⟨_,rfl⟩;clear START;obtain⟨k,C',cc,rfl,rfl,hk,oV,Y⟩:=hrel;have hk64:k<=64:=by omega
  have zw:=Y.out.size
  by_cases hlt:k<x.length
  ·obtain⟨pb,po,y,rfl,zy,cy,ey,_⟩:=(hP.out.ext Y.out).at (k:=k) hlt
   have q1:(k:Int)<(x.length:Int):=by omega
   have yb:=hx.out y (List.mem_of_getElem? ey.out);have PE:Hid (txV (ZA x (k+1))=txV (ZA x k)++[txS (Lib.itoa y)]):=Hd (by rw[PS.out,getD_some ey.out,VR]);clear ey;go_wp2_with (fail);refine(WD.out _ (Y.out.tr (by(repeat (first | assumption | exact Ext.rf _ | apply Ext.drew | apply Ext.drewN | apply Ext.alloc)))) y yb).mono ?_;rintro e w5 ⟨rfl,x5⟩;have oV5:=oV.out.ext (Ext.tr (a:=wo) (by(repeat (first | assumption | exact Ext.rf _ | apply Ext.drew | apply Ext.drewN | apply Ext.alloc))) x5);have x5':=Ext.tr (a:=wo) (by(repeat (first | assumption | exact Ext.rf _ | apply Ext.drew | apply Ext.drewN | apply Ext.alloc))) x5;have zw5:=x5'.size;go_wp2_with (at_builtin;refine Yq _ (e:=9) Tryz.underlying91 hi.out hz0.out hz1.out hz2.out (by simp[Value.cells]) (by omega) rfl _ _ rfl w.heap.size C' k cc (txV (ZA x k)) (some ⟨w5.heap.size,0,none⟩) 1 1 [txS (Lib.itoa y)] rfl rfl (oV5.ext ((Ext.rf _).alloc _)) (RdV.blk (.new (by simp))).rdC (by simp) (by simp[Value.oneCell',txS]) (by simp only[maxLen];omega) (by omega) (by simp;omega) ?_;rintro C6 c6 w6 o6 g6 _);have M6:=(oV5.ext ((Ext.rf w5).alloc (.cells #[txS (Lib.itoa y)] 9))).grownT g6;have X6:Ext wo (w5.alloc (.cells #[txS (Lib.itoa y)] 9)):=x5'.tr ((Ext.rf _).alloc _);have NEW:Hid (OwV w6 w.heap.size 9 1 C6 (k+1) c6 (txV (ZA x (k+1)))):=Hd (by rw[PE.out];exact o6);have XN:Hid (Ext w w6):=(Y.out.tr X6).modT M6 (Nat.le_refl _);clear oV5 x5 x5' o6 g6 M6 X6;go_wp2_with (fail);go_roundw
   case rel=>exact⟨k+1,C6,c6,by go_num,rfl,by omega,NEW,XN⟩
   case measure=>simp[intOf];omega
  ·obtain rfl:k=x.length:=by omega
   have PN:Hid (txV (ZA x x.length++[[48]])=txV (ZA x x.length)++[txS [48]]):=by
    have h:txV (ZA x x.length++[[48]])=txV (ZA x x.length)++[txS [48]]:=VR _ _;exact h
   have LN:Hid ((ZA x x.length++[[48]]).length=x.length+1):=Hd (by rw[List.length_append,PL.out];rfl);go_wp2_with (at_builtin;refine Yq _ (e:=9) Tryz.underlying91 hi.out hz0.out hz1.out hz2.out (by simp[Value.cells]) (by omega) rfl _ _ rfl w.heap.size C' x.length cc (txV (ZA x x.length)) (some ⟨wo.heap.size,0,none⟩) 1 1 [txS [48]] rfl rfl (oV.out.ext ((Ext.rf _).alloc _)) (RdV.blk (.new (by simp))).rdC (by simp) (by simp[Value.oneCell',txS]) (by simp only[maxLen];omega) (by omega) (by simp;omega) ?_;rintro C6 c6 w6 o6 g6 _);have M6:=(oV.out.ext ((Ext.rf wo).alloc (.cells #[txS [48]] 9))).grownT g6;have X6:Ext wo (wo.alloc (.cells #[txS [48]] 9)):=(Ext.rf _).alloc _;have XN:Hid (Ext w w6):=(Y.out.tr X6).modT M6 (Nat.le_refl _);have NEW:OwV w6 w.heap.size 9 1 C6 (ZA x x.length++[[48]]).length c6 (txV (ZA x x.length++[[48]])):=by
    rw[PN.out,LN.out];exact o6
   have J:=Qq w.heap.size C6 c6 (ZA x x.length++[[48]]) Qy w6 NEW (by simp) (by rw[LN.out];omega) (by rw[<-WE.out];have:=hJ.out;omega);rw[LN.out,<-WE.out] at J;replace J:=Hd J;clear M6 X6 o6 g6 NEW;go_wp2_with (fail);refine J.out.mono ?_;rintro e w7 ⟨rfl,x7⟩;have X7:=Hd (XN.out.tr x7);clear x7 J;go_wp2_with (fail);go_ret;exact⟨rfl,X7.out⟩
theorem ZaJ (i:InstP)(us:List Value)(P:Option Addr)(c:Nat)(x:List Int)(w:World)(H:RInst w us i)(hP:RdI w P x)(hT:Ten w)(hk:i.kind=1)(hl:x.length<=64)(hx:∀ y∈x,0<=y/\y<=1000)(hJ:(Z9 1 x).length<=10000) :
  Calls Tryz.prog 96 #[.agg (List.toArray us),.slice P x.length c] w fun e w'=>e=.returned (txS (Z9 1 x))/\Ext w w':=by
 obtain⟨i0,hi,hz0,hz1,hz2⟩:=info_parts Qp;have WE:Hid (Z9 1 x=Lib.join (Yn::Zx x x.length) [32]):=Hd (by unfold Z9;rw[if_pos rfl]);have WD:=fun(W:World) (y:Ext w W) (n:Int) (h:0<=n/\n<=1000)=>Xl n (by omega) (by omega) W (hT.ext y)
 have PS:Hid (∀ k,x.getD k 0=1->Yn::Zx x (k+1)=(Yn::Zx x k)++[Lib.itoa (k:Int)]):=fun k h=>by rw[Wq,if_pos h];rfl
 have PN:Hid (∀ k,x.getD k 0≠1->Zx x (k+1)=Zx x k):=fun k h=>by rw[Wq,if_neg h]
 have PZ:Hid (Yn::Zx x 0=[Yn]):=by
  have h:Yn::Zx x 0=[Yn]:=rfl;exact h
 obtain⟨kind,nn,cap,xw,xv,co⟩:=i;obtain⟨A,a,B,b,D,d,rfl,-,-,-⟩:=H;simp only at *;subst hk;replace hi:=Hd hi;replace hz0:=Hd hz0;replace hz1:=Hd hz1;replace hz2:=Hd hz2;replace WD:=Hd WD;replace hP:=Hd hP;replace hx:=Hd hx;replace hJ:=Hd hJ;clear hT;unfold txS at *;go_enter Tryz.func96,Tryz.ntmps96;go_wp2_with (at_builtin;refine Yq _ (e:=9) Tryz.underlying91 hi.out hz0.out hz1.out hz2.out (by simp[Value.cells]) (by omega) rfl _ _ rfl w.heap.size none 0 0 [] (some ⟨w.heap.size+1,0,none⟩) 1 1 [txS Yn] rfl rfl (OwV.nil _ _ _ _) (RdV.blk (.new (by simp))).rdC (by simp) (by simp[Value.oneCell',txS]) (by simp only[maxLen];omega) (by omega) (by simp;omega) ?_;rintro C0 c0 w0 o0 g0 _);have M0:=(OwV.nil _ w.heap.size 9 1).grownT g0;have START:Hid (OwV w0 w.heap.size 9 1 C0 1 c0 (txV (Yn::Zx x 0))):=Hd (by rw[PZ.out];exact o0);have XS:Hid (Ext w w0):=Ext.modT (by(repeat (first | assumption | exact Ext.rf _ | apply Ext.drew | apply Ext.drewN | apply Ext.alloc))) M0 (Nat.le_refl _);clear o0 g0 M0;go_wp2_with (fail);go_loopw [5,21] (fun v5 v21 wr=>∃ (k n:Nat) (C':Option Addr) (cc:Nat),v21=.int .i64 k/\v5=.slice C' n cc/\k<=x.length/\n<=k+1/\Hid ((Yn::Zx x k).length=n)/\Hid (OwV wr w.heap.size 9 1 C' n cc (txV (Yn::Zx x k)))/\Hid (Ext w wr)) (fun _ v _=>x.length-(intOf v).toNat)
 case atStart=>exact⟨0,1,C0,c0,rfl,rfl,by omega,by omega,rfl,START,XS.out⟩
 case round =>
  obtain⟨wo,rfl⟩:∃ wo:World,wo=wr:=⟨_,rfl⟩;clear START;obtain⟨k,n,C',cc,rfl,rfl,hk,hn,LN,oV,Y⟩:=hrel;have hk64:k<=64:=by omega
  have zw:=Y.out.size
  by_cases hlt:k<x.length
  ·obtain⟨pb,po,y,rfl,zy,cy,ey,_⟩:=(hP.out.ext Y.out).at (k:=k) hlt
   have q1:(k:Int)<(x.length:Int):=by omega
   by_cases hy:y=1
   ·subst hy
    have PE:Hid (Yn::Zx x (k+1)=(Yn::Zx x k)++[Lib.itoa (k:Int)]):=by
     have h:Yn::Zx x (k+1)=(Yn::Zx x k)++[Lib.itoa (k:Int)]:=PS.out k (getD_some ey.out);exact h
    clear ey;go_wp2_with (fail);refine(WD.out _ (Y.out.tr (by(repeat (first | assumption | exact Ext.rf _ | apply Ext.drew | apply Ext.drewN | apply Ext.alloc)))) (k:Int) (by omega)).mono ?_;rintro e w5 ⟨rfl,x5⟩;have oV5:=oV.out.ext (Ext.tr (a:=wo) (by(repeat (first | assumption | exact Ext.rf _ | apply Ext.drew | apply Ext.drewN | apply Ext.alloc))) x5);have x5':=Ext.tr (a:=wo) (by(repeat (first | assumption | exact Ext.rf _ | apply Ext.drew | apply Ext.drewN | apply Ext.alloc))) x5;have zw5:=x5'.size;go_wp2_with (at_builtin;refine Yq _ (e:=9) Tryz.underlying91 hi.out hz0.out hz1.out hz2.out (by simp[Value.cells]) (by omega) rfl _ _ rfl w.heap.size C' n cc (txV (Yn::Zx x k)) (some ⟨w5.heap.size,0,none⟩) 1 1 [txS (Lib.itoa (k:Int))] rfl rfl (oV5.ext ((Ext.rf _).alloc _)) (RdV.blk (.new (by simp))).rdC (by simp) (by simp[Value.oneCell',txS]) (by simp only[maxLen];omega) (by omega) (by simp;omega) ?_;rintro C6 c6 w6 o6 g6 _);have M6:=(oV5.ext ((Ext.rf w5).alloc (.cells #[txS (Lib.itoa (k:Int))] 9))).grownT g6;have X6:Ext wo (w5.alloc (.cells #[txS (Lib.itoa (k:Int))] 9)):=x5'.tr ((Ext.rf _).alloc _);have NEW:Hid (OwV w6 w.heap.size 9 1 C6 (n+1) c6 (txV (Yn::Zx x (k+1)))):=Hd (by rw[PE.out,VR];exact o6);have NL:Hid ((Yn::Zx x (k+1)).length=n+1):=Hd (by rw[PE.out,List.length_append,LN.out];rfl);have XN:Hid (Ext w w6):=(Y.out.tr X6).modT M6 (Nat.le_refl _);clear oV5 x5 x5' o6 g6 M6 X6;go_wp2_with (fail);go_roundw
    case rel=>exact⟨k+1,n+1,C6,c6,by go_num,rfl,by omega,by omega,NL,NEW,XN⟩
    case measure=>simp[intOf];omega
   ·have PE:Hid (Zx x (k+1)=Zx x k):=by
     have h:Zx x (k+1)=Zx x k:=PN.out k (by rw[getD_some ey.out];exact hy);exact h
    have e2:(y==1)=false:=by simpa using hy
    clear ey;go_wp2_with (fail);go_roundw
    case rel=>exact⟨k+1,n,C',cc,by go_num,rfl,by omega,by omega,by rw[PE.out];exact LN,by rw[PE.out];exact oV,Y⟩
    case measure=>simp[intOf];omega
  ·obtain rfl:k=x.length:=by omega
   have J:=Qq w.heap.size C' cc (Yn::Zx x x.length) [32] wo (by rw[LN.out];exact oV.out) (by simp) (by rw[LN.out];omega) (by rw[<-WE.out];have:=hJ.out;omega);rw[LN.out,<-WE.out] at J;replace J:=Hd J;go_wp2_with (fail);refine J.out.mono ?_;rintro e w7 ⟨rfl,x7⟩;have X7:=Hd (Y.out.tr x7);clear x7 J;go_wp2_with (fail);go_ret;exact⟨rfl,X7.out⟩
theorem ZaK (i:InstP)(us:List Value)(P:Option Addr)(c:Nat)(x:List Int)(w:World)(H:RInst w us i)(hP:RdI w P x)(hT:Ten w)(hk:i.kind=2)(hl:x.length<=64)(h0:x≠[])(hx:∀ y∈x,0<=y/\y<=1000)(hJ:(Z9 2 x).length<=10000) :
  Calls Tryz.prog 96 #[.agg (List.toArray us),.slice P x.length c] w fun e w'=>e=.returned (txS (Z9 2 x))/\Ext w w':=by
 obtain⟨i0,hi,hz0,hz1,hz2⟩:=info_parts Qp;have WE:Hid (Z9 2 x=Lib.join (ZM x x.length) QT):=Hd (by unfold Z9;rw[if_neg (by decide),if_pos rfl]);have WD:=fun(W:World) (y:Ext w W) (n:Int) (h:0<=n/\n<=1000)=>Xl n (by omega) (by omega) W (hT.ext y)
 have PS:Hid (∀ k,ZM x (k+1)=ZM x k++[Lib.itoa (k:Int)++tTo++Lib.itoa (x.getD k 0)]):=fun k=>VP x k
 have PL:Hid (∀ k,(ZM x k).length=k):=fun k=>by unfold ZM;rw[List.length_map,List.length_range]
 obtain⟨kind,nn,cap,xw,xv,co⟩:=i;obtain⟨A,a,B,b,D,d,rfl,-,-,-⟩:=H;simp only at *;subst hk;replace hi:=Hd hi;replace hz0:=Hd hz0;replace hz1:=Hd hz1;replace hz2:=Hd hz2;replace WD:=Hd WD;replace hP:=Hd hP;replace hx:=Hd hx;replace hJ:=Hd hJ;clear hT;have START:Hid (OwV (w.alloc (.cells #[.int .i64 2,.int .i64 nn,.int .i64 cap,.slice A xw.length a,.slice B xv.length b,.slice D co.length d] 25)) w.heap.size 9 1 none 0 0 (txV (ZM x 0))):=OwV.nil _ _ _ _;unfold txS at *;go_enter Tryz.func96,Tryz.ntmps96;go_wp2_with (fail);go_loopw [5,40] (fun v5 v59 wr=>∃ (k:Nat) (C':Option Addr) (cc:Nat),v59=.int .i64 k/\v5=.slice C' k cc/\k<=x.length/\Hid (OwV wr w.heap.size 9 1 C' k cc (txV (ZM x k)))/\Hid (Ext w wr)) (fun _ v _=>x.length-(intOf v).toNat)
 case atStart=>exact⟨0,none,0,rfl,rfl,by omega,START,by(repeat (first | assumption | exact Ext.rf _ | apply Ext.drew | apply Ext.drewN | apply Ext.alloc))⟩
 case round =>
  obtain⟨wo,rfl⟩:∃ wo:World,wo=wr:=⟨_,rfl⟩;clear START;obtain⟨k,C',cc,rfl,rfl,hk,oV,Y⟩:=hrel;have hk64:k<=64:=by omega
  have zw:=Y.out.size
  by_cases hlt:k<x.length
  ·obtain⟨pb,po,y,rfl,zy,cy,ey,_⟩:=(hP.out.ext Y.out).at (k:=k) hlt
   have q1:(k:Int)<(x.length:Int):=by omega
   have yb:=hx.out y (List.mem_of_getElem? ey.out);have li:=UI y (by omega);have lj:=UI (k:Int) (by omega);have RK:=Hd (fun(W:World) (z:Ext w W)=>WD.out W z (k:Int) (by omega));have RY:=Hd (fun(W:World) (z:Ext w W)=>WD.out W z y yb);obtain⟨tk,hek⟩:∃ tk,Hid (Lib.itoa (k:Int)=tk):=⟨_,rfl⟩;obtain⟨ty,hey⟩:∃ ty,Hid (Lib.itoa y=ty):=⟨_,rfl⟩;have PE:Hid (txV (ZM x (k+1))=txV (ZM x k)++[txS (tk++tTo++ty)]):=Hd (by rw[PS.out,getD_some ey.out,VR,hek.out,hey.out]);rw[hek.out] at lj RK;rw[hey.out] at li RY;have ll4:¬9223372036854775807<tk.length+4:=by omega
   have ll5:¬9223372036854775807<tk.length+4+ty.length:=by omega
   have ES:(⟨tk.toArray⟩:ByteArray)++⟨#[32,116,111,32]⟩++⟨ty.toArray⟩=⟨(tk++tTo++ty).toArray⟩:=by
    rw[show (⟨#[32,116,111,32]⟩:ByteArray)=⟨(tTo:Txt).toArray⟩ from rfl,ZI,ZI]
   clear ey yb li lj hek hey;replace ES:=Hd ES;go_wp2_with (fail);refine(RK.out _ (Y.out.tr (by(repeat (first | assumption | exact Ext.rf _ | apply Ext.drew | apply Ext.drewN | apply Ext.alloc))))).mono ?_;rintro e w4 ⟨rfl,x4⟩;have x4':=Ext.tr (a:=wo) (by(repeat (first | assumption | exact Ext.rf _ | apply Ext.drew | apply Ext.drewN | apply Ext.alloc))) x4;go_wp2_with (fail);refine(RY.out _ (Y.out.tr (x4'.tr (by(repeat (first | assumption | exact Ext.rf _ | apply Ext.drew | apply Ext.drewN | apply Ext.alloc)))))).mono ?_;rintro e w5 ⟨rfl,x5⟩;replace x5:=x4'.tr (Ext.tr (by(repeat (first | assumption | exact Ext.rf _ | apply Ext.drew | apply Ext.drewN | apply Ext.alloc))) x5);clear x4 x4';have oV5:=oV.out.ext x5;have x5':=x5;have zw5:=x5'.size;go_wp2_with (at_builtin;refine Yq _ (e:=9) Tryz.underlying91 hi.out hz0.out hz1.out hz2.out (by simp[Value.cells]) (by omega) rfl _ _ rfl w.heap.size C' k cc (txV (ZM x k)) (some ⟨w5.heap.size,0,none⟩) 1 1 [.string ((⟨tk.toArray⟩:ByteArray)++⟨#[32,116,111,32]⟩++⟨ty.toArray⟩)] rfl rfl (oV5.ext ((Ext.rf _).alloc _)) (RdV.blk (.new (by simp))).rdC (by simp) (by simp[Value.oneCell',txS]) (by simp only[maxLen];omega) (by omega) (by simp;omega) ?_;rintro C6 c6 w6 o6 g6 _);have M6:=(oV5.ext ((Ext.rf w5).alloc (.cells #[.string ((⟨tk.toArray⟩:ByteArray)++⟨#[32,116,111,32]⟩++⟨ty.toArray⟩)] 9))).grownT g6;have X6:Ext wo (w5.alloc (.cells #[.string ((⟨tk.toArray⟩:ByteArray)++⟨#[32,116,111,32]⟩++⟨ty.toArray⟩)] 9)):=x5'.tr ((Ext.rf _).alloc _);have NEW:Hid (OwV w6 w.heap.size 9 1 C6 (k+1) c6 (txV (ZM x (k+1)))):=Hd (by rw[PE.out,txS,<-ES.out];exact o6);have XN:Hid (Ext w w6):=(Y.out.tr X6).modT M6 (Nat.le_refl _);clear oV5 x5 x5' o6 g6 M6 X6;go_wp2_with (fail);go_roundw
   case rel=>exact⟨k+1,C6,c6,by go_num,rfl,by omega,NEW,XN⟩
   case measure=>simp[intOf];omega
  ·obtain rfl:k=x.length:=by omega
   have J:=Qq w.heap.size C' cc (ZM x x.length) QT wo (by rw[PL.out];exact oV.out) (by
    intro e;have h:=PL.out x.length;rw[e] at h;exact h0 (List.eq_nil_of_length_eq_zero h.symm)) (by rw[PL.out];omega) (by rw[<-WE.out];have:=hJ.out;omega)
   rw[PL.out,<-WE.out] at J;replace J:=Hd J;go_wp2_with (fail);refine J.out.mono ?_;rintro e w7 ⟨rfl,x7⟩;have X7:=Hd (Y.out.tr x7);clear x7 J;go_wp2_with (fail);go_ret;exact⟨rfl,X7.out⟩
theorem ZbR (i:InstP)(us:List Value)(P:Option Addr)(c:Nat)(x:List Int)(w:World)(H:RInst w us i)(hP:RdI w P x)(hT:Ten w)(hx:x.length<=1000)(hlw:i.weight.length<=maxLen)(hlv:i.value.length<=maxLen)(hls:i.weight.length+i.value.length<=maxLen) :
  Calls Tryz.prog 50 #[.agg (List.toArray us),.slice P x.length c] w fun e w'=>e=.returned (.tuple #[txS (ZaG i x).1,.int .i64 (ZaG i x).2])/\Ext w w':=by
 have WL:(ZC i x).2=0->(Z9 i.kind x).length<=10000:=fun h=>by
  have A:=Jc h;exact ZaH (YW A.chk) A.n64 A.rng
 refine ZcM i us P c x w H hP hT hx hlw hlv hls (fun h W y=>?_) WL;have A:=Jc h;have L:=WL h;rcases YW A.chk with hk | hk | hk
 ·rw[hk] at L ⊢
  exact ZaJ i us P c x W (H.ext y) (hP.ext y) (hT.ext y) hk A.n64 A.rng L
 ·rw[hk] at L ⊢
  refine ZaK i us P c x W (H.ext y) (hP.ext y) (hT.ext y) hk A.n64 ?_ A.rng L;intro h0;have h1:=A.len;have h2:=(ZG A.chk (by omega:i.kind≠1)).n1;rw[h0] at h1;simp at h1;omega
 ·rw[hk] at L ⊢
  exact ZaI i us P c x W (H.ext y) (hP.ext y) (hT.ext y) hk A.n64 A.rng L
def exS : InstP:=⟨3,3,0,[],[],[[0,1,2],[3,0,4],[5,2,0]]⟩
theorem Zdq : ZaG exS [0,2,1]=([48,32,62,32,50,32,62,32,49,32,62,32,48,58,32,55,10],0):=by
 have hd:∀ k:Nat,k<10->Lib.itoa (k:Int)=[UInt8.ofNat (48+k)]:=fun k hk=>by
  unfold Lib.itoa;rw[if_neg (by omega),Lib.decDigits,dif_pos (by omega)]
  rfl
 have h0:Lib.itoa (0:Int)=[48]:=hd 0 (by omega);have h1:Lib.itoa (1:Int)=[49]:=hd 1 (by omega);have h2:Lib.itoa (2:Int)=[50]:=hd 2 (by omega);have h7:Lib.itoa (7:Int)=[55]:=hd 7 (by omega);have hc:ZC exS [0,2,1]=(7,0):=by decide +kernel
 unfold ZaG;rw[hc];rw[if_pos rfl];have ho:ofG exS 7=7:=by decide
 simp only[ho];unfold Qn;rw[if_pos (show exS.kind=3 from rfl)];simp only[ZR,List.length_cons,List.length_nil,exS,List.getD,Nat.reduceAdd];simp[ZR,List.getD,Qy,tAt,h0,h1,h2,h7]
theorem Ug {w:World}{b:Nat}{x y v:Int}{c:Nat}(h:Blk w b 3 #[.int .i64 x,.int .i64 y,.int .i64 v])(hb:∀ z∈[x,y,v],-9223372036854775808<=z/\z<=9223372036854775807)(hc:3<=c)(hm:c<=maxLen) : RInts w [.slice (some ⟨b,0,none⟩) 3 c] [x,y,v] :=
 ⟨some ⟨b,0,none⟩,c,rfl,.blk h rfl,hb,hc,hm⟩
theorem ZbS (w w1:World)(b0:Blk w1 w.heap.size 3 #[.int .i64 0,.int .i64 1,.int .i64 2])(b1:Blk w1 (w.heap.size+1) 3 #[.int .i64 3,.int .i64 0,.int .i64 4])(b2:Blk w1 (w.heap.size+1+1) 3 #[.int .i64 5,.int .i64 2,.int .i64 0])
  (b3:Blk w1 (w.heap.size+1+1+1) 22 #[.slice (some ⟨w.heap.size,0,none⟩) 3 3,.slice (some ⟨w.heap.size+1,0,none⟩) 3 3,.slice (some ⟨w.heap.size+1+1,0,none⟩) 3 3]) :
  RInst w1 [.int .i64 3,.int .i64 3,.int .i64 0,.slice none 0 0,.slice none 0 0,.slice (some ⟨w.heap.size+1+1+1,0,none⟩) 3 3] exS:=by
 have hz:3<=maxLen:=by simp[maxLen]
 refine⟨none,0,none,0,some ⟨w.heap.size+1+1+1,0,none⟩,3,rfl,⟨.inl rfl,Ints.nil,by simp[exS],ZK⟩,⟨.inl rfl,Ints.nil,by simp[exS],ZK⟩,⟨.inr ⟨_,0,rfl,b3.lt,?_⟩,by simp[exS],hz⟩⟩;intro i x hi
 match i,hi with
 | 0,hi =>
  simp[exS] at hi;subst hi;refine⟨_,Ug b0 (by intro z hz;simp at hz;omega) (Nat.le_refl 3) hz,rfl,fun j v hj=>?_⟩
  match j,hj with
  | 0,hj=>rw[b3.cell];simp at hj;subst hj;rfl
 | 1,hi =>
  simp[exS] at hi;subst hi;refine⟨_,Ug b1 (by intro z hz;simp at hz;omega) (Nat.le_refl 3) hz,rfl,fun j v hj=>?_⟩
  match j,hj with
  | 0,hj=>rw[b3.cell];simp at hj;subst hj;rfl
 | 2,hi =>
  simp[exS] at hi;subst hi;refine⟨_,Ug b2 (by intro z hz;simp at hz;omega) (Nat.le_refl 3) hz,rfl,fun j v hj=>?_⟩
  match j,hj with
  | 0,hj=>rw[b3.cell];simp at hj;subst hj;rfl
 | i+3,hi=>simp[exS] at hi
theorem ZbT (w:World)(hT:Ten w) : Calls Tryz.prog 19 #[] w fun e w'=>e=.returned (.bool true)/\Ext w w':=by
 have AN:=fun(us:List Value) (P:Option Addr) (c:Nat) (W:World) (x:Ext w W) (H:RInst W us exS) (hP:RdI W P [0,2,1])=>ZbR exS us P c [0,2,1] W H hP (hT.ext x) (by decide) (by decide) (by decide) (by decide)
 rw[Zdq] at AN;unfold txS at AN;simp only[List.length_cons,List.length_nil,Nat.reduceAdd] at AN;replace AN:=Hd AN;clear hT;go_enter Tryz.func19,Tryz.ntmps19;have b0:Blk (((((w.alloc (.cells #[.int .i64 0,.int .i64 1,.int .i64 2] 3)).alloc (.cells #[.int .i64 3,.int .i64 0,.int .i64 4] 3)).alloc (.cells #[.int .i64 5,.int .i64 2,.int .i64 0] 3)).alloc (.cells #[.slice (some ⟨w.heap.size,0,none⟩) 3 3,.slice (some ⟨w.heap.size+1,0,none⟩) 3 3,.slice (some ⟨w.heap.size+1+1,0,none⟩) 3 3] 22)).alloc (.cells #[.int .i64 3,.int .i64 3,.int .i64 0,.slice none 0 0,.slice none 0 0,.slice (some ⟨w.heap.size+1+1+1,0,none⟩) 3 3] 25)) w.heap.size 3 #[.int .i64 0,.int .i64 1,.int .i64 2]:=.alloc (.alloc (.alloc (.alloc (.new rfl) _) _) _) _;have b1:Blk (((((w.alloc (.cells #[.int .i64 0,.int .i64 1,.int .i64 2] 3)).alloc (.cells #[.int .i64 3,.int .i64 0,.int .i64 4] 3)).alloc (.cells #[.int .i64 5,.int .i64 2,.int .i64 0] 3)).alloc (.cells #[.slice (some ⟨w.heap.size,0,none⟩) 3 3,.slice (some ⟨w.heap.size+1,0,none⟩) 3 3,.slice (some ⟨w.heap.size+1+1,0,none⟩) 3 3] 22)).alloc (.cells #[.int .i64 3,.int .i64 3,.int .i64 0,.slice none 0 0,.slice none 0 0,.slice (some ⟨w.heap.size+1+1+1,0,none⟩) 3 3] 25)) (w.heap.size+1) 3 #[.int .i64 3,.int .i64 0,.int .i64 4]:=.alloc (.alloc (.alloc (.new (by simp)) _) _) _;have b2:Blk (((((w.alloc (.cells #[.int .i64 0,.int .i64 1,.int .i64 2] 3)).alloc (.cells #[.int .i64 3,.int .i64 0,.int .i64 4] 3)).alloc (.cells #[.int .i64 5,.int .i64 2,.int .i64 0] 3)).alloc (.cells #[.slice (some ⟨w.heap.size,0,none⟩) 3 3,.slice (some ⟨w.heap.size+1,0,none⟩) 3 3,.slice (some ⟨w.heap.size+1+1,0,none⟩) 3 3] 22)).alloc (.cells #[.int .i64 3,.int .i64 3,.int .i64 0,.slice none 0 0,.slice none 0 0,.slice (some ⟨w.heap.size+1+1+1,0,none⟩) 3 3] 25)) (w.heap.size+1+1) 3 #[.int .i64 5,.int .i64 2,.int .i64 0]:=.alloc (.alloc (.new (by simp)) _) _;have b3:Blk (((((w.alloc (.cells #[.int .i64 0,.int .i64 1,.int .i64 2] 3)).alloc (.cells #[.int .i64 3,.int .i64 0,.int .i64 4] 3)).alloc (.cells #[.int .i64 5,.int .i64 2,.int .i64 0] 3)).alloc (.cells #[.slice (some ⟨w.heap.size,0,none⟩) 3 3,.slice (some ⟨w.heap.size+1,0,none⟩) 3 3,.slice (some ⟨w.heap.size+1+1,0,none⟩) 3 3] 22)).alloc (.cells #[.int .i64 3,.int .i64 3,.int .i64 0,.slice none 0 0,.slice none 0 0,.slice (some ⟨w.heap.size+1+1+1,0,none⟩) 3 3] 25)) (w.heap.size+1+1+1) 22 #[.slice (some ⟨w.heap.size,0,none⟩) 3 3,.slice (some ⟨w.heap.size+1,0,none⟩) 3 3,.slice (some ⟨w.heap.size+1+1,0,none⟩) 3 3]:=.alloc (.new (by simp)) _;have b4:Hid (Blk (((((w.alloc (.cells #[.int .i64 0,.int .i64 1,.int .i64 2] 3)).alloc (.cells #[.int .i64 3,.int .i64 0,.int .i64 4] 3)).alloc (.cells #[.int .i64 5,.int .i64 2,.int .i64 0] 3)).alloc (.cells #[.slice (some ⟨w.heap.size,0,none⟩) 3 3,.slice (some ⟨w.heap.size+1,0,none⟩) 3 3,.slice (some ⟨w.heap.size+1+1,0,none⟩) 3 3] 22)).alloc (.cells #[.int .i64 3,.int .i64 3,.int .i64 0,.slice none 0 0,.slice none 0 0,.slice (some ⟨w.heap.size+1+1+1,0,none⟩) 3 3] 25)) (w.heap.size+1+1+1+1) 25 #[.int .i64 3,.int .i64 3,.int .i64 0,.slice none 0 0,.slice none 0 0,.slice (some ⟨w.heap.size+1+1+1,0,none⟩) 3 3]):=.new (by simp);have R:=Hd (ZbS w _ b0 b1 b2 b3);have X:Hid (Ext w (((((w.alloc (.cells #[.int .i64 0,.int .i64 1,.int .i64 2] 3)).alloc (.cells #[.int .i64 3,.int .i64 0,.int .i64 4] 3)).alloc (.cells #[.int .i64 5,.int .i64 2,.int .i64 0] 3)).alloc (.cells #[.slice (some ⟨w.heap.size,0,none⟩) 3 3,.slice (some ⟨w.heap.size+1,0,none⟩) 3 3,.slice (some ⟨w.heap.size+1+1,0,none⟩) 3 3] 22)).alloc (.cells #[.int .i64 3,.int .i64 3,.int .i64 0,.slice none 0 0,.slice none 0 0,.slice (some ⟨w.heap.size+1+1+1,0,none⟩) 3 3] 25))):=by(repeat (first | assumption | exact Ext.rf _ | apply Ext.drew | apply Ext.drewN | apply Ext.alloc))
 clear b0 b1 b2 b3;go_upto_region 2 with(fail);generalize (((((w.alloc (.cells #[.int .i64 0,.int .i64 1,.int .i64 2] 3)).alloc (.cells #[.int .i64 3,.int .i64 0,.int .i64 4] 3)).alloc (.cells #[.int .i64 5,.int .i64 2,.int .i64 0] 3)).alloc (.cells #[.slice (some ⟨w.heap.size,0,none⟩) 3 3,.slice (some ⟨w.heap.size+1,0,none⟩) 3 3,.slice (some ⟨w.heap.size+1+1,0,none⟩) 3 3] 22)).alloc (.cells #[.int .i64 3,.int .i64 3,.int .i64 0,.slice none 0 0,.slice none 0 0,.slice (some ⟨w.heap.size+1+1+1,0,none⟩) 3 3] 25))=w1 at *;have t0:=b4.out.c0;have t1:=b4.out.c1;have t2:=b4.out.c2;have t3:=b4.out.c3;have t4:=b4.out.c4;have t5:=b4.out.c5;go_wp2_with (fail);have y:=Ext.alloc (Ext.rf w1) (.cells #[.int .i64 0,.int .i64 2,.int .i64 1] 3);refine(AN.out _ _ _ _ (X.out.tr y) (R.out.ext y) (.blk (.new rfl) rfl)).mono ?_;rintro e w2 ⟨rfl,x2⟩;have X2:=Hd ((X.out.tr y).tr x2);clear x2 y t0 t1 t2 t3 t4 t5 b4 R X AN;go_wp2_with (fail);go_ret;exact⟨rfl,X2.out⟩
def FaceB (w:World)(g:Nat)(T:TypeId)(gk:Nat) : Prop:=Blk w g 75 #[.iface T (.pointer (some ⟨gk,0,none⟩))]
theorem FaceB.ext {w w':World}{g gk:Nat}{T:TypeId}(h:FaceB w g T gk)(x:Ext w w') : FaceB w' g T gk:=Blk.ext h x
theorem ZdS (j:InstP)(vs:List Value)(w:World)(H:RInst w vs j)(lw:j.weight.length<=1000000000)(lv:j.value.length<=1000000000)(hc:Zn j≠0) :
  Calls Tryz.prog 11 #[.agg (List.toArray vs)] w fun e w'=>e=.returned (.tuple #[.pointer none,.int .i64 (Zn j)])/\Ext w w':=by
 have C:=fun(W:World) (x:Ext w W)=>ZT j vs W (H.ext x) lw lv
 obtain⟨A,a,B,b,D,d,rfl,-,-,-⟩:=H;generalize Zn j=er at *;have e1:(er != 0)=true:=by simpa using hc
 replace C:=Hd C;clear hc;go_enter Tryz.func11,Tryz.ntmps11;go_wp2_with (fail);refine(C.out _ (by(repeat (first | assumption | exact Ext.rf _ | apply Ext.drew | apply Ext.drewN | apply Ext.alloc)))).mono ?_;rintro e w1 ⟨rfl,x1⟩;have X1:=Hd (Ext.tr (a:=w) (by(repeat (first | assumption | exact Ext.rf _ | apply Ext.drew | apply Ext.drewN | apply Ext.alloc))) x1);clear x1;go_wp2_with (fail);go_ret2;exact⟨rfl,X1.out⟩
theorem ZdX (j:InstP)(vs:List Value)(w:World)(H:RInst w vs j)(hc:Zn j=0)(hk:j.kind=1) :
  Calls Tryz.prog 11 #[.agg (List.toArray vs)] w fun e w'=>(∃ g gk base,e=.returned (.tuple #[.pointer (some ⟨g,0,none⟩),.int .i64 0])/\FaceB w' g 69 gk/\KernB w' base gk j.cap (ZB j.value j.weight) (Zp (ZB j.value j.weight) j.weight) (Zp (ZB j.value j.weight) j.value) (Yv (Zp (ZB j.value j.weight) j.value) 0))/\Ext w w':=by
 have ok:=YL hc hk;have C:=fun(W:World) (x:Ext w W)=>ZT j vs W (H.ext x) (by have:=ok.w;have:=ok.n2;omega) (by have:=ok.v;have:=ok.n2;omega)
 have NW:=fun(W:World) (x:Ext w W)=>Zde j vs W (H.ext x) hc hk
 unfold Za5 at NW;rw[hc] at C;clear ok hc;obtain⟨kind,nn,cap,xw,xv,co⟩:=j;obtain⟨A,a,B,b,D,d,rfl,-,-,-⟩:=H;simp only at *;subst hk;generalize ZB xv xw=l at *;generalize Zp l xw=ws at *;generalize Zp l xv=us at *;generalize Yv us 0=bs at *;have B1:Hid (Blk (w.alloc (.cells #[.int .i64 1,.int .i64 nn,.int .i64 cap,.slice A xw.length a,.slice B xv.length b,.slice D co.length d] 25)) w.heap.size 25 #[.int .i64 1,.int .i64 nn,.int .i64 cap,.slice A xw.length a,.slice B xv.length b,.slice D co.length d]):=.new rfl;replace C:=Hd C;replace NW:=Hd NW;go_enter Tryz.func11,Tryz.ntmps11;go_wp2_with (fail);refine(C.out _ (by(repeat (first | assumption | exact Ext.rf _ | apply Ext.drew | apply Ext.drewN | apply Ext.alloc)))).mono ?_;rintro e w1 ⟨rfl,x1⟩;have X1:=Hd (Ext.tr (a:=w) (by(repeat (first | assumption | exact Ext.rf _ | apply Ext.drew | apply Ext.drewN | apply Ext.alloc))) x1);have b1:=B1.out.ext x1;have t0:=b1.c0;have t1:=b1.c1;have t2:=b1.c2;have t3:=b1.c3;have t4:=b1.c4;have t5:=b1.c5;clear x1 B1 b1;go_wp2_with (fail);refine(NW.out _ X1.out).mono ?_;rintro e w2 ⟨gk,rfl,K2,x2⟩;have X2:=Hd (X1.out.tr x2);replace K2:=Hd K2;clear x2 t0 t1 t2 t3 t4 t5;go_wp2_with (fail);go_ret2;have xa:Ext w2 (w2.alloc (.cells #[.iface 69 (.pointer (some ⟨gk,0,none⟩))] 75)):=(Ext.rf _).alloc _;exact⟨⟨w2.heap.size,gk,_,rfl,.new rfl,K2.out.ext xa⟩,X2.out.tr xa⟩
theorem ZdY (j:InstP)(vs:List Value)(w:World)(H:RInst w vs j)(hc:Zn j=0)(hk:j.kind=2) :
  Calls Tryz.prog 11 #[.agg (List.toArray vs)] w fun e w'=>(∃ g gk base,e=.returned (.tuple #[.pointer (some ⟨g,0,none⟩),.int .i64 0])/\FaceB w' g 76 gk/\KernA w' base gk j.cost)/\Ext w w':=by
 have ok:=ZG hc (by omega);have C:=fun(W:World) (x:Ext w W)=>ZT j vs W (H.ext x) (by rw[ok.w];simp) (by rw[ok.v];simp)
 have NW:=fun(W:World) (x:Ext w W)=>Zct j vs W (H.ext x) hc hk
 unfold JI at NW;rw[hc] at C;clear ok hc;obtain⟨kind,nn,cap,xw,xv,co⟩:=j;obtain⟨A,a,B,b,D,d,rfl,-,-,-⟩:=H;simp only at *;subst hk;have B1:Hid (Blk (w.alloc (.cells #[.int .i64 2,.int .i64 nn,.int .i64 cap,.slice A xw.length a,.slice B xv.length b,.slice D co.length d] 25)) w.heap.size 25 #[.int .i64 2,.int .i64 nn,.int .i64 cap,.slice A xw.length a,.slice B xv.length b,.slice D co.length d]):=.new rfl;replace C:=Hd C;replace NW:=Hd NW;go_enter Tryz.func11,Tryz.ntmps11;go_wp2_with (fail);refine(C.out _ (by(repeat (first | assumption | exact Ext.rf _ | apply Ext.drew | apply Ext.drewN | apply Ext.alloc)))).mono ?_;rintro e w1 ⟨rfl,x1⟩;have X1:=Hd (Ext.tr (a:=w) (by(repeat (first | assumption | exact Ext.rf _ | apply Ext.drew | apply Ext.drewN | apply Ext.alloc))) x1);have b1:=B1.out.ext x1;have t0:=b1.c0;have t1:=b1.c1;have t2:=b1.c2;have t3:=b1.c3;have t4:=b1.c4;have t5:=b1.c5;clear x1 B1 b1;go_wp2_with (fail);refine(NW.out _ X1.out).mono ?_;rintro e w2 ⟨gk,rfl,K2,x2⟩;have X2:=Hd (X1.out.tr x2);replace K2:=Hd K2;clear x2 t0 t1 t2 t3 t4 t5;go_wp2_with (fail);go_ret2;have xa:Ext w2 (w2.alloc (.cells #[.iface 76 (.pointer (some ⟨gk,0,none⟩))] 75)):=(Ext.rf _).alloc _;exact⟨⟨w2.heap.size,gk,_,rfl,.new rfl,K2.out.ext xa⟩,X2.out.tr xa⟩
theorem ZdZ (j:InstP)(vs:List Value)(w:World)(H:RInst w vs j)(hc:Zn j=0)(hk:j.kind=3) :
  Calls Tryz.prog 11 #[.agg (List.toArray vs)] w fun e w'=>(∃ g gk base,e=.returned (.tuple #[.pointer (some ⟨g,0,none⟩),.int .i64 0])/\FaceB w' g 79 gk/\KernT w' base gk j.cost (Xy j.cost))/\Ext w w':=by
 have ok:=ZG hc (by omega);have C:=fun(W:World) (x:Ext w W)=>ZT j vs W (H.ext x) (by rw[ok.w];simp) (by rw[ok.v];simp)
 have NW:=fun(W:World) (x:Ext w W)=>Zcs j vs W (H.ext x) hc hk
 unfold U9 at NW;rw[hc] at C;clear ok hc;obtain⟨kind,nn,cap,xw,xv,co⟩:=j;obtain⟨A,a,B,b,D,d,rfl,-,-,-⟩:=H;simp only at *;subst hk;generalize Xy co=mi at *;have B1:Hid (Blk (w.alloc (.cells #[.int .i64 3,.int .i64 nn,.int .i64 cap,.slice A xw.length a,.slice B xv.length b,.slice D co.length d] 25)) w.heap.size 25 #[.int .i64 3,.int .i64 nn,.int .i64 cap,.slice A xw.length a,.slice B xv.length b,.slice D co.length d]):=.new rfl;replace C:=Hd C;replace NW:=Hd NW;go_enter Tryz.func11,Tryz.ntmps11;go_wp2_with (fail);refine(C.out _ (by(repeat (first | assumption | exact Ext.rf _ | apply Ext.drew | apply Ext.drewN | apply Ext.alloc)))).mono ?_;rintro e w1 ⟨rfl,x1⟩;have X1:=Hd (Ext.tr (a:=w) (by(repeat (first | assumption | exact Ext.rf _ | apply Ext.drew | apply Ext.drewN | apply Ext.alloc))) x1);have b1:=B1.out.ext x1;have t0:=b1.c0;have t1:=b1.c1;have t2:=b1.c2;have t3:=b1.c3;have t4:=b1.c4;have t5:=b1.c5;clear x1 B1 b1;go_wp2_with (fail);refine(NW.out _ X1.out).mono ?_;rintro e w2 ⟨gk,rfl,K2,x2⟩;have X2:=Hd (X1.out.tr x2);replace K2:=Hd K2;clear x2 t0 t1 t2 t3 t4 t5;go_wp2_with (fail);go_ret2;have xa:Ext w2 (w2.alloc (.cells #[.iface 79 (.pointer (some ⟨gk,0,none⟩))] 75)):=(Ext.rf _).alloc _;exact⟨⟨w2.heap.size,gk,_,rfl,.new rfl,K2.out.ext xa⟩,X2.out.tr xa⟩
def Zt (lo hi:Int) : Array Value:=#[.int .i64 lo,.int .i64 hi,.int .i64 0,.int .i64 0,.int .i64 0,.int .i64 0,.int .i64 0,.int .i64 0,.int .i64 0]
def ZS (lo hi:Int) : Value:=.agg #[.int .i64 lo,.int .i64 hi,.int .i64 0,.int .i64 0,.int .i64 0,.int .i64 0,.int .i64 0,.int .i64 0,.int .i64 0]
theorem VS (lo hi:Int)(i:Nat)(hi9:i<9) : (Zt lo hi)[i]?=some (.int .i64 (if i=0 then lo else if i=1 then hi else 0)):=by
 unfold Zt
 match i,hi9 with
 | 0,_=>rfl
 | 1,_=>rfl
 | 2,_=>rfl
 | 3,_=>rfl
 | 4,_=>rfl
 | 5,_=>rfl
 | 6,_=>rfl
 | 7,_=>rfl
 | 8,_=>rfl
theorem UJ {w0 w:World}(x:Ext w0 w){g:Nat}(hg:w0.heap.size<=g)(u0 u1 u2 u3 u4 u5 u6 u7 u8:Value) :
  Ext w0 (((((((((w.setCell ⟨g,0,none⟩ u0).setCell ⟨g,1,none⟩ u1).setCell ⟨g,2,none⟩ u2).setCell ⟨g,3,none⟩ u3).setCell ⟨g,4,none⟩ u4).setCell ⟨g,5,none⟩ u5).setCell ⟨g,6,none⟩ u6).setCell ⟨g,7,none⟩ u7).setCell ⟨g,8,none⟩ u8) :=
 ((((((((x.setNew (p:=⟨g,0,none⟩) hg u0).setNew (p:=⟨g,1,none⟩) hg u1).setNew (p:=⟨g,2,none⟩) hg u2).setNew (p:=⟨g,3,none⟩) hg u3).setNew (p:=⟨g,4,none⟩) hg u4).setNew (p:=⟨g,5,none⟩) hg u5).setNew (p:=⟨g,6,none⟩) hg u6).setNew (p:=⟨g,7,none⟩) hg u7).setNew (p:=⟨g,8,none⟩) hg u8
theorem QU (x:Int)(h₀:0<=x)(h₁:x<=2147483647) : bits .and .u64 x 2147483647=x:=by
 have h:=bits_mask .u64 64 (by decide) wraps_u64 31 (by decide) x h₀ (by omega);have h':bits .and .u64 x 2147483647=x%2147483648:=h;rw[h'];omega
theorem ZdM (a:Int)(w:World)(h0:0<=a)(h1:a<=2147483647) : Calls Tryz.prog 225 #[.int .i64 a] w fun e w'=>e=.returned (ZS a 0)/\Ext w w':=by
 have na:decide (a<0)=false:=by simpa using h0
 have wa:IntKind.u64.wrap a=a:=wraps_u64 _ h0 (by omega);have wi:IntKind.i64.wrap a=a:=IntWalk.i64_in _ (by omega);have ba:bits .and .u64 a 2147483647=a:=QU a h0 h1;have b0:bits .and .u64 0 2147483647=0:=QU 0 (by omega) (by omega);have da:a / 2147483648=0:=by omega
 replace wa:=Hd wa;replace wi:=Hd wi;replace ba:=Hd ba;replace b0:=Hd b0;replace da:=Hd da;have B1:Hid (Blk ((w.alloc (.cells (Zt 0 0) 259)).alloc (.cells (Zt 0 0) 259)) (w.heap.size+1) 259 (Zt 0 0)):=.new (by simp);have B0:Hid (Blk ((w.alloc (.cells (Zt 0 0) 259)).alloc (.cells (Zt 0 0) 259)) w.heap.size 259 (Zt 0 0)):=.alloc (.new rfl) _;have wa':=wa.out;go_enter Tryz.func225,Tryz.ntmps225;go_wp2_with (fail);have Y0:Ext w ((w.alloc (.cells (Zt 0 0) 259)).alloc (.cells (Zt 0 0) 259)):=((Ext.rf _).alloc _).alloc _;go_loopw [4,5] (fun u i wr=>∃ (k:Nat),i=.int .i64 k/\k<=3/\(k=0/\u=.int .u64 a/\Hid (Blk wr (w.heap.size+1) 259 (Zt 0 0))\/1<=k/\u=.int .u64 0/\Hid (Blk wr (w.heap.size+1) 259 (Zt a 0)))/\Hid (Blk wr w.heap.size 259 (Zt 0 0))/\Ext w wr) (fun _ i _=>3-(intOf i).toNat)
 case atStart=>exact⟨0,rfl,by omega,.inl ⟨rfl,rfl,B1⟩,B0,Y0⟩
 case round =>
  obtain⟨k,rfl,hk,hu,hZ,Y⟩:=hrel;obtain⟨rfl,rfl,hB⟩ | ⟨rfl,rfl,hB⟩ | ⟨rfl,rfl,hB⟩ | ⟨rfl,rfl,hB⟩:(k=0/\_=Value.int .u64 a/\Hid (Blk wr (w.heap.size+1) 259 (Zt 0 0)))\/(k=1/\_=Value.int .u64 0/\Hid (Blk wr (w.heap.size+1) 259 (Zt a 0)))\/(k=2/\_=Value.int .u64 0/\Hid (Blk wr (w.heap.size+1) 259 (Zt a 0)))\/(k=3/\_=Value.int .u64 0/\Hid (Blk wr (w.heap.size+1) 259 (Zt a 0))):=by
   rcases hu with h | ⟨h1,h2,h3⟩
   ·exact .inl h
   ·obtain rfl | rfl | rfl:k=1\/k=2\/k=3:=by omega
    ·exact .inr (.inl ⟨rfl,h2,h3⟩)
    ·exact .inr (.inr (.inl ⟨rfl,h2,h3⟩))
    ·exact .inr (.inr (.inr ⟨rfl,h2,h3⟩))
  ·
   have c:=hB.out.cell 0;have f:=hB.out.free 0;have zg:=hB.out.lt;have c':wr.cell? ⟨w.heap.size+1,0,none⟩=some (.int .i64 0):=c;have hN:Hid (Blk (wr.setCell ⟨w.heap.size+1,0,none⟩ (.int .i64 a)) (w.heap.size+1) 259 (Zt a 0)):=hB.out.set 0 _;have hN0:Hid (Blk (wr.setCell ⟨w.heap.size+1,0,none⟩ (.int .i64 a)) w.heap.size 259 (Zt 0 0)):=hZ.out.far (by simp) _;have yN:=Hd (Y.setNew (p:=⟨w.heap.size+1,0,none⟩) (by simp) (.int .i64 a));clear c;have wi':=wi.out;have ba':=ba.out;have da':=da.out;go_wp2;go_roundw
   case rel=>exact⟨1,by go_num,by omega,.inr ⟨by omega,rfl,hN⟩,hN0,yN.out⟩
   case measure=>simp[intOf]
  ·
   have c:=hB.out.cell 1;have f:=hB.out.free 1;have zg:=hB.out.lt;have c':wr.cell? ⟨w.heap.size+1,1,none⟩=some (.int .i64 0):=c;have hN:Hid (Blk (wr.setCell ⟨w.heap.size+1,1,none⟩ (.int .i64 0)) (w.heap.size+1) 259 (Zt a 0)):=hB.out.set 1 _;have hN0:Hid (Blk (wr.setCell ⟨w.heap.size+1,1,none⟩ (.int .i64 0)) w.heap.size 259 (Zt 0 0)):=hZ.out.far (by simp) _;have yN:=Hd (Y.setNew (p:=⟨w.heap.size+1,1,none⟩) (by simp) (.int .i64 0));clear c;have b0':=b0.out;have w0':IntKind.i64.wrap 0=0:=IntWalk.i64_in _ (by omega);go_wp2;go_roundw
   case rel=>exact⟨2,by go_num,by omega,.inr ⟨by omega,rfl,hN⟩,hN0,yN.out⟩
   case measure=>simp[intOf]
  ·
   have c:=hB.out.cell 2;have f:=hB.out.free 2;have zg:=hB.out.lt;have c':wr.cell? ⟨w.heap.size+1,2,none⟩=some (.int .i64 0):=c;have hN:Hid (Blk (wr.setCell ⟨w.heap.size+1,2,none⟩ (.int .i64 0)) (w.heap.size+1) 259 (Zt a 0)):=hB.out.set 2 _;have hN0:Hid (Blk (wr.setCell ⟨w.heap.size+1,2,none⟩ (.int .i64 0)) w.heap.size 259 (Zt 0 0)):=hZ.out.far (by simp) _;have yN:=Hd (Y.setNew (p:=⟨w.heap.size+1,2,none⟩) (by simp) (.int .i64 0));clear c;have b0':=b0.out;have w0':IntKind.i64.wrap 0=0:=IntWalk.i64_in _ (by omega);go_wp2;go_roundw
   case rel=>exact⟨3,by go_num,by omega,.inr ⟨by omega,rfl,hN⟩,hN0,yN.out⟩
   case measure=>simp[intOf]
  ·have c0:wr.cell? ⟨w.heap.size+1,0,none⟩=some (.int .i64 a):=hB.out.cell 0
   have c1:=hB.out.c1;have c2:=hB.out.c2;have c3:=hB.out.c3;have c4:=hB.out.c4;have c5:=hB.out.c5;have c6:=hB.out.c6;have c7:=hB.out.c7;have c8:=hB.out.c8;have z0:=hZ.out.c0;have z1:=hZ.out.c1;have z2:=hZ.out.c2;have z3:=hZ.out.c3;have z4:=hZ.out.c4;have z5:=hZ.out.c5;have z6:=hZ.out.c6;have z7:=hZ.out.c7;have z8:=hZ.out.c8;have f0:wr.frozen? ⟨w.heap.size,0,none⟩=false:=hZ.out.free 0;have f1:wr.frozen? ⟨w.heap.size,1,none⟩=false:=hZ.out.free 1;have f2:wr.frozen? ⟨w.heap.size,2,none⟩=false:=hZ.out.free 2;have f3:wr.frozen? ⟨w.heap.size,3,none⟩=false:=hZ.out.free 3;have f4:wr.frozen? ⟨w.heap.size,4,none⟩=false:=hZ.out.free 4;have f5:wr.frozen? ⟨w.heap.size,5,none⟩=false:=hZ.out.free 5;have f6:wr.frozen? ⟨w.heap.size,6,none⟩=false:=hZ.out.free 6;have f7:wr.frozen? ⟨w.heap.size,7,none⟩=false:=hZ.out.free 7;have f8:wr.frozen? ⟨w.heap.size,8,none⟩=false:=hZ.out.free 8;have Y9:=Hd (UJ Y (g:=w.heap.size) (Nat.le_refl _) (.int .i64 a) (.int .i64 0) (.int .i64 0) (.int .i64 0) (.int .i64 0) (.int .i64 0) (.int .i64 0) (.int .i64 0) (.int .i64 0));go_wp2;exact bodyPost_ret (v:=ZS a 0) (by simp[results,Tryz.results225,go_sem,ZS, *]) rfl ⟨rfl,Y9.out⟩
theorem ZbU (x:Int)(h₀:0<=x)(h₁:x<=9223372036854775807) : bits .and .i64 x 2147483647=x%2147483648 :=
 bits_mask .i64 63 (by decide) (fun n h0 h1=>IntWalk.i64_in n (by omega)) 31 (by decide) x h₀ (by omega)
def Zo (p:Int) : Int:=p%2147483648
def Zh (p:Int) : Int:=p / 2147483648
theorem VT {p:Int}(h:0<=p/\p<=4611686014132420609) : 0<=Zo p/\Zo p<=2147483647/\0<=Zh p/\Zh p<=2147483647:=by
 unfold Zo Zh;omega
theorem Uh (x y:Int)(i:Nat)(h:i<9) : (Zt x y).setIfInBounds i (.int .i64 (if i=0 then x else if i=1 then y else 0))=Zt x y:=by
 match i,h with
 | 0,_=>rfl
 | 1,_=>rfl
 | 2,_=>rfl
 | 3,_=>rfl
 | 4,_=>rfl
 | 5,_=>rfl
 | 6,_=>rfl
 | 7,_=>rfl
 | 8,_=>rfl
def ZcO (p:Int)(i k:Nat)(x y ov:Int) : Prop:=(i=0/\k=0/\x=0/\y=0/\ov=0)\/(i=0/\k=1/\x=Zo p/\y=0/\ov=Zh p)\/((1<=i\/2<=k)/\x=Zo p/\y=Zh p/\ov=0)
theorem ZcP {a b p:Int}(hp:p=a*b)(bp:0<=p/\p<=4611686014132420609){i k:Nat}{x y ov:Int}(hi:i<4)(hk:k<4)(h:ZcO p i k x y ov) :
  ∃ c m s sl sh x' y':Int,c=(if i+k=0 then x else if i+k=1 then y else 0)/\m=(if i=0 then a else if i=1 then 0 else 0)*(if k=0 then b else if k=1 then 0 else 0)/\s=c+m+ov/\sl=s%2147483648/\sh=s / 2147483648 /\
   (0<=c/\c<=2147483647)/\(0<=m/\m<=4611686014132420609)/\(0<=ov/\ov<=2147483647)/\(Zt x y).setIfInBounds (i+k) (.int .i64 sl)=Zt x' y'/\ZcO p i (k+1) x' y' sh:=by
 have hb:=VT bp;rcases h with⟨rfl,rfl,rfl,rfl,rfl⟩ | ⟨rfl,rfl,rfl,rfl,rfl⟩ | ⟨h,rfl,rfl,rfl⟩
 ·refine⟨0,p,p,Zo p,Zh p,Zo p,0,rfl,by simpa using hp,by omega,rfl,rfl,by omega,bp,by omega,rfl,.inr (.inl ⟨rfl,rfl,rfl,rfl,rfl⟩)⟩
 ·refine⟨0,0,Zh p,Zh p,0,Zo p,Zh p,rfl,by simp,by omega,by omega,by omega,by omega,by omega,by omega,rfl,.inr (.inr ⟨by omega,rfl,rfl,rfl⟩)⟩
 ·refine⟨(if i+k=0 then Zo p else if i+k=1 then Zh p else 0),0,_,(if i+k=0 then Zo p else if i+k=1 then Zh p else 0),0,Zo p,Zh p,rfl,?_,rfl,?_,?_,?_,by omega,by omega,Uh _ _ _ (by omega),.inr (.inr ⟨by omega,rfl,rfl,rfl⟩)⟩
  ·rcases h with h | h
   ·rw[if_neg (show ¬i=0 by omega)]
    split<;>simp
   ·rw[if_neg (show ¬k=0 by omega)]
    split<;>(split<;>simp)
  ·split
   ·omega
   ·split<;>omega
  ·split
   ·omega
   ·split<;>omega
  ·split
   ·omega
   ·split<;>omega
theorem ZbV (a b p:Int)(w:World)(ha:0<=a/\a<=2147483647)(hb:0<=b/\b<=2147483647)(hp:p=a*b) :
  Calls Tryz.prog 224 #[ZS a 0,ZS b 0] w fun e w'=>e=.returned (ZS (Zo p) (Zh p))/\Ext w w':=by
 have bp:0<=p/\p<=4611686014132420609:=by rw[hp];exact Wl ha.1 ha.2 hb.1 hb.2
 have hpb:=VT bp;replace hp:=Hd hp;have Y0:Ext w ((((w.alloc (.cells (Zt a 0) 259)).alloc (.cells (Zt b 0) 259)).alloc (.cells (Zt 0 0) 259)).alloc (.cells (Zt 0 0) 259)):=((((Ext.rf _).alloc _).alloc _).alloc _).alloc _;have BA:Blk ((((w.alloc (.cells (Zt a 0) 259)).alloc (.cells (Zt b 0) 259)).alloc (.cells (Zt 0 0) 259)).alloc (.cells (Zt 0 0) 259)) w.heap.size 259 (Zt a 0):=.alloc (.alloc (.alloc (.new rfl) _) _) _;have BB:Blk ((((w.alloc (.cells (Zt a 0) 259)).alloc (.cells (Zt b 0) 259)).alloc (.cells (Zt 0 0) 259)).alloc (.cells (Zt 0 0) 259)) (w.heap.size+1) 259 (Zt b 0):=.alloc (.alloc (.new (by simp)) _) _;have BR:Blk ((((w.alloc (.cells (Zt a 0) 259)).alloc (.cells (Zt b 0) 259)).alloc (.cells (Zt 0 0) 259)).alloc (.cells (Zt 0 0) 259)) (w.heap.size+1+1) 259 (Zt 0 0):=.alloc (.new (by simp)) _;have BC:Blk ((((w.alloc (.cells (Zt a 0) 259)).alloc (.cells (Zt b 0) 259)).alloc (.cells (Zt 0 0) 259)).alloc (.cells (Zt 0 0) 259)) (w.heap.size+1+1+1) 259 (Zt 0 0):=.new (by simp);replace Y0:=Hd Y0;replace BA:=Hd BA;replace BB:=Hd BB;replace BR:=Hd BR;replace BC:=Hd BC;unfold ZS;go_enter Tryz.func224,Tryz.ntmps224;go_wp2_with (fail);go_loopw [6] (fun i wr=>∃ (n:Nat) (x y:Int),i=.int .i64 n/\n<=4/\Hid ((n=0/\x=0/\y=0)\/(1<=n/\x=Zo p/\y=Zh p))/\Ext w wr/\Hid (Blk wr w.heap.size 259 (Zt a 0))/\Hid (Blk wr (w.heap.size+1) 259 (Zt b 0))/\Hid (Blk wr (w.heap.size+1+1) 259 (Zt 0 0))/\Hid (Blk wr (w.heap.size+1+1+1) 259 (Zt x y))) (fun i _=>4-(intOf i).toNat)
 case atStart=>exact⟨0,0,0,rfl,by omega,.inl ⟨rfl,rfl,rfl⟩,Y0.out,BA,BB,BR,BC⟩
 case round =>
  obtain⟨wo,rfl⟩:∃ wo:World,wo=wr:=⟨_,rfl⟩;obtain⟨n,x,y,rfl,hn,HS,Y,A1,B1,R1,C1⟩:=hrel
  by_cases hlt:n<4
  ·go_wp2_with (fail)
   go_loopw [7,8] (fun o i wr=>∃ (k:Nat) (x y ov:Int),i=.int .i64 k/\o=.int .i64 ov/\k<=4/\Hid (ZcO p n k x y ov)/\Ext w wr/\Hid (Blk wr w.heap.size 259 (Zt a 0))/\Hid (Blk wr (w.heap.size+1) 259 (Zt b 0))/\Hid (Blk wr (w.heap.size+1+1) 259 (Zt 0 0))/\Hid (Blk wr (w.heap.size+1+1+1) 259 (Zt x y))) (fun _ i _=>4-(intOf i).toNat)
   case atStart =>
    refine⟨0,x,y,0,rfl,rfl,by omega,?_,Y,A1,B1,R1,C1⟩;rcases HS.out with⟨h1,h2,h3⟩ | ⟨h1,h2,h3⟩
    ·exact .inl ⟨h1,rfl,h2,h3,rfl⟩
    ·exact .inr (.inr ⟨.inl h1,h2,h3,rfl⟩)
   case round =>
    obtain⟨wq,rfl⟩:∃ wq:World,wq=wr:=⟨_,rfl⟩;obtain⟨k,x,y,ov,rfl,rfl,hk,HM,Y2,A2,B2,R2,C2⟩:=hrel
    by_cases hlk:k<4
    ·obtain⟨c,m,s,sl,sh,x',y',hc,hm,hs,hsl,hsh,bc,bm,bo,hset,HM2⟩:=ZcP hp.out bp hlt hlk HM.out
     have gC:=C2.out.cell (n+k);have gA:=A2.out.cell n;have gB:=B2.out.cell k;rw[VS _ _ _ (by omega)] at gC gA gB;rw[<-hc] at gC;have fC:=C2.out.free (n+k);obtain⟨av,hav⟩:∃ av,Hid (av=(if n=0 then a else if n=1 then 0 else 0)):=⟨_,rfl⟩;obtain⟨bv,hbv⟩:∃ bv,Hid (bv=(if k=0 then b else if k=1 then 0 else 0)):=⟨_,rfl⟩;rw[<-hav.out] at gA hm;rw[<-hbv.out] at gB hm;have wm:Hid (IntKind.i64.wrap (av*bv)=m):=Hd (by rw[<-hm];exact IntWalk.i64_in _ (by omega));have w1:Hid (IntKind.i64.wrap (c+m)=c+m):=IntWalk.i64_in _ (by omega);have w2:Hid (IntKind.i64.wrap (c+m+ov)=s):=Hd (by rw[hs];exact IntWalk.i64_in _ (by omega));have wn:Hid (IntKind.i64.wrap ((n:Int)+(k:Int))=(n:Int)+(k:Int)):=IntWalk.i64_in _ (by omega);have ea:Hid (bits .and .i64 s 2147483647=sl):=Hd (by rw[ZbU s (by omega) (by omega),hsl]);have es:Hid (s / 2147483648=sh):=hsh.symm;have bs:0<=s/\s<=9223372036854775807:=by omega
     have bsh:0<=sh/\sh<=9223372036854775807:=by omega
     have q1:(0:Int)<=(n:Int)+(k:Int):=by omega
     have q2:(n:Int)+(k:Int)<9:=by omega
     have q3:(n:Int)<9:=by omega
     have q4:(k:Int)<9:=by omega
     replace hset:=Hd hset;replace HM2:=Hd HM2;have zA:=A2.out.lt;have zB:=B2.out.lt;have zC:=C2.out.lt;clear hc hm hs hsl hsh bm bo;have wn':=wn.out;have wm':=wm.out;have w1':=w1.out;have w2':=w2.out;have ea':=ea.out;have es':=es.out;go_wp2_with (go_quiet (fail));go_roundw
     case rel=>exact⟨k+1,x',y',sh,by go_num,rfl,by omega,HM2,(Y2.drewN _).setNew (by simp<;>omega) _,(A2.out.drewN _).far (by simp<;>omega) _,(B2.out.drewN _).far (by simp<;>omega) _,(R2.out.drewN _).far (by simp<;>omega) _,by rw[<-hset.out];exact(C2.out.drewN _).set (n+k) _⟩
     case measure=>simp[intOf];omega
    ·obtain rfl:k=4:=by omega
     have HM4:Hid (x=Zo p/\y=Zh p/\ov=0):=by
      rcases HM.out with⟨_,h,_⟩ | ⟨_,h,_⟩ | ⟨_,h1,h2,h3⟩
      ·omega
      ·omega
      ·exact⟨h1,h2,h3⟩
     obtain⟨rfl,rfl,rfl⟩:=HM4.out;have gC:=C2.out.cell (n+4);rw[VS _ _ _ (by omega),if_neg (by omega),if_neg (by omega)] at gC;have fC:=C2.out.free (n+4);have q1:(0:Int)<=(n:Int)+4:=by omega
     have q2:(n:Int)+4<9:=by omega
     have wn':IntKind.i64.wrap ((n:Int)+4)=(n:Int)+4:=IntWalk.i64_in _ (by omega);have hset:Hid ((Zt (Zo p) (Zh p)).setIfInBounds (n+4) (.int .i64 0)=Zt (Zo p) (Zh p)):=by
      have h:=Uh (Zo p) (Zh p) (n+4) (by omega);rw[if_neg (by omega),if_neg (by omega)] at h;exact h
     clear HM HM4;go_wp2_with (fail);go_roundw
     case rel=>exact⟨n+1,Zo p,Zh p,by go_num,by omega,.inr ⟨by omega,rfl,rfl⟩,Y2.setNew (by simp<;>omega) _,A2.out.far (by simp<;>omega) _,B2.out.far (by simp<;>omega) _,R2.out.far (by simp<;>omega) _,by rw[<-hset.out];exact C2.out.set (n+4) _⟩
     case measure=>simp[intOf];omega
  ·obtain rfl:n=4:=by omega
   have HS4:Hid (x=Zo p/\y=Zh p):=by
    rcases HS.out with⟨h,_⟩ | ⟨_,h1,h2⟩
    ·omega
    ·exact⟨h1,h2⟩
   obtain⟨rfl,rfl⟩:=HS4.out;clear HS HS4;have c0:=C1.out.c0;have c1:=C1.out.c1;have c2:=C1.out.c2;have c3:=C1.out.c3;have c4:=C1.out.c4;have c5:=C1.out.c5;have c6:=C1.out.c6;have c7:=C1.out.c7;have c8:=C1.out.c8;have z0:=R1.out.c0;have z1:=R1.out.c1;have z2:=R1.out.c2;have z3:=R1.out.c3;have z4:=R1.out.c4;have z5:=R1.out.c5;have z6:=R1.out.c6;have z7:=R1.out.c7;have z8:=R1.out.c8;have f0:wo.frozen? ⟨w.heap.size+1+1,0,none⟩=false:=R1.out.free 0;have f1:wo.frozen? ⟨w.heap.size+1+1,1,none⟩=false:=R1.out.free 1;have f2:wo.frozen? ⟨w.heap.size+1+1,2,none⟩=false:=R1.out.free 2;have f3:wo.frozen? ⟨w.heap.size+1+1,3,none⟩=false:=R1.out.free 3;have f4:wo.frozen? ⟨w.heap.size+1+1,4,none⟩=false:=R1.out.free 4;have f5:wo.frozen? ⟨w.heap.size+1+1,5,none⟩=false:=R1.out.free 5;have f6:wo.frozen? ⟨w.heap.size+1+1,6,none⟩=false:=R1.out.free 6;have f7:wo.frozen? ⟨w.heap.size+1+1,7,none⟩=false:=R1.out.free 7;have f8:wo.frozen? ⟨w.heap.size+1+1,8,none⟩=false:=R1.out.free 8;have Y9:=Hd (UJ Y (g:=w.heap.size+1+1) (by omega) (.int .i64 (Zo p)) (.int .i64 (Zh p)) (.int .i64 0) (.int .i64 0) (.int .i64 0) (.int .i64 0) (.int .i64 0) (.int .i64 0) (.int .i64 0));go_wp2_with (fail);exact bodyPost_ret (v:=ZS (Zo p) (Zh p)) (by simp[results,Tryz.results224,go_sem,ZS, *]) rfl ⟨rfl,Y9.out⟩
def Zy (m:Bool)(lo hi:Int) : Array Value:=#[.bool m,.int .i64 lo,.int .i64 hi,.int .i64 0,.int .i64 0,.int .i64 0,.int .i64 0,.int .i64 0,.int .i64 0,.int .i64 0]
def ZU (m:Bool)(lo hi:Int) : Value:=.agg #[.bool m,.int .i64 lo,.int .i64 hi,.int .i64 0,.int .i64 0,.int .i64 0,.int .i64 0,.int .i64 0,.int .i64 0,.int .i64 0]
theorem ZaL {w0 w:World}(x:Ext w0 w){g:Nat}(hg:w0.heap.size<=g)(u0 u1 u2 u3 u4 u5 u6 u7 u8 u9:Value) :
  Ext w0 ((((((((((w.setCell ⟨g,0,none⟩ u0).setCell ⟨g,1,none⟩ u1).setCell ⟨g,2,none⟩ u2).setCell ⟨g,3,none⟩ u3).setCell ⟨g,4,none⟩ u4).setCell ⟨g,5,none⟩ u5).setCell ⟨g,6,none⟩ u6).setCell ⟨g,7,none⟩ u7).setCell ⟨g,8,none⟩ u8).setCell ⟨g,9,none⟩ u9) :=
 (UJ x hg u0 u1 u2 u3 u4 u5 u6 u7 u8).setNew (p:=⟨g,9,none⟩) hg u9
theorem UK (a:Int)(w:World)(h0:0<=a)(h1:a<=2147483647) : Calls Tryz.prog 209 #[.int .i64 a] w fun e w'=>e=.returned (ZU false a 0)/\Ext w w':=by
 have na:decide (a<0)=false:=by simpa using h0
 have B0:Blk (w.alloc (.cells (Zy false 0 0) 261)) w.heap.size 261 (Zy false 0 0):=.new rfl;have Y0:Ext w (w.alloc (.cells (Zy false 0 0) 261)):=(Ext.rf _).alloc _;replace B0:=Hd B0;replace Y0:=Hd Y0;go_enter Tryz.func209,Tryz.ntmps209;go_wp2_with (fail);refine(ZdM a _ h0 h1).mono ?_;rintro e w2 ⟨rfl,x2⟩;have B2:=B0.out.ext x2;have z0:=B2.c0;have z1:=B2.c1;have z2:=B2.c2;have z3:=B2.c3;have z4:=B2.c4;have z5:=B2.c5;have z6:=B2.c6;have z7:=B2.c7;have z8:=B2.c8;have z9:=B2.c9;have f0:w2.frozen? ⟨w.heap.size,0,none⟩=false:=B2.free 0;have f1:w2.frozen? ⟨w.heap.size,1,none⟩=false:=B2.free 1;have f2:w2.frozen? ⟨w.heap.size,2,none⟩=false:=B2.free 2;have f3:w2.frozen? ⟨w.heap.size,3,none⟩=false:=B2.free 3;have f4:w2.frozen? ⟨w.heap.size,4,none⟩=false:=B2.free 4;have f5:w2.frozen? ⟨w.heap.size,5,none⟩=false:=B2.free 5;have f6:w2.frozen? ⟨w.heap.size,6,none⟩=false:=B2.free 6;have f7:w2.frozen? ⟨w.heap.size,7,none⟩=false:=B2.free 7;have f8:w2.frozen? ⟨w.heap.size,8,none⟩=false:=B2.free 8;have f9:w2.frozen? ⟨w.heap.size,9,none⟩=false:=B2.free 9;have Y2:=Hd (ZaL (Y0.out.tr x2) (g:=w.heap.size) (Nat.le_refl _) (.bool false) (.int .i64 a) (.int .i64 0) (.int .i64 0) (.int .i64 0) (.int .i64 0) (.int .i64 0) (.int .i64 0) (.int .i64 0) (.int .i64 0));clear B2 x2;unfold ZS;go_wp2_with (fail);exact bodyPost_ret (v:=ZU false a 0) (by simp[results,Tryz.results209,go_sem,ZU, *]) rfl ⟨rfl,Y2.out⟩
theorem Zdr (m:Bool)(lo hi:Int)(w:World) : Calls Tryz.prog 223 #[ZU m lo hi] w fun e w'=>e=.returned (ZU (!m) lo hi)/\Ext w w':=by
 have B1:Blk ((w.alloc (.cells (Zy m lo hi) 261)).alloc (.cells (Zy false 0 0) 261)) w.heap.size 261 (Zy m lo hi):=.alloc (.new rfl) _;have Y0:Ext w ((w.alloc (.cells (Zy m lo hi) 261)).alloc (.cells (Zy false 0 0) 261)):=((Ext.rf _).alloc _).alloc _;replace B1:=Hd B1;have Y2:=Hd (ZaL Y0 (g:=w.heap.size+1) (by omega) (.bool (!m)) (.int .i64 lo) (.int .i64 hi) (.int .i64 0) (.int .i64 0) (.int .i64 0) (.int .i64 0) (.int .i64 0) (.int .i64 0) (.int .i64 0));clear Y0;unfold ZU;go_enter Tryz.func223,Tryz.ntmps223;go_wp2_with (fail);exact bodyPost_ret (v:=ZU (!m) lo hi) (by simp[results,Tryz.results223,go_sem,ZU]) rfl ⟨rfl,((Ext.rf _).alloc _).alloc _⟩
section
variable {W:World} {g:Nat} {m:Bool} {lo hi:Int}
theorem Xm (h:Blk W g 261 (Zy m lo hi)) : (Instr.loadAt 259 (.pointer (some ⟨g,1,none⟩))).run Tryz.prog W=.ok (ZS lo hi) W:=by
 have c0:=h.c0;have c1:=h.c1;have c2:=h.c2;have c3:=h.c3;have c4:=h.c4;have c5:=h.c5;have c6:=h.c6;have c7:=h.c7;have c8:=h.c8;have c9:=h.c9;unfold ZS;clear h;go_simp
theorem J4 (h:Blk W g 261 (Zy m lo hi)) : (Instr.loadAt 261 (.pointer (some ⟨g,0,none⟩))).run Tryz.prog W=.ok (ZU m lo hi) W:=by
 have c0:=h.c0;have c1:=h.c1;have c2:=h.c2;have c3:=h.c3;have c4:=h.c4;have c5:=h.c5;have c6:=h.c6;have c7:=h.c7;have c8:=h.c8;have c9:=h.c9;unfold ZU;clear h;go_simp
theorem Wr (h:Blk W g 261 (Zy m lo hi)) : (Instr.loadAt 4 (.pointer (some ⟨g,0,none⟩))).run Tryz.prog W=.ok (.bool m) W:=by
 have c0:=h.c0;clear h;go_simp
def UA (W:World)(g:Nat)(m:Bool)(lo hi:Int) : World:=((((((((((W.setCell ⟨g,0,none⟩ (.bool m)).setCell ⟨g,1,none⟩ (.int .i64 lo)).setCell ⟨g,2,none⟩ (.int .i64 hi)).setCell ⟨g,3,none⟩ (.int .i64 0)).setCell ⟨g,4,none⟩ (.int .i64 0)).setCell ⟨g,5,none⟩ (.int .i64 0)).setCell ⟨g,6,none⟩ (.int .i64 0)).setCell ⟨g,7,none⟩ (.int .i64 0)).setCell ⟨g,8,none⟩ (.int .i64 0)).setCell ⟨g,9,none⟩ (.int .i64 0))
theorem W4 {m':Bool}{lo' hi':Int}(h:Blk W g 261 (Zy m' lo' hi')) : (Instr.storeAt 261 (.pointer (some ⟨g,0,none⟩)) (ZU m lo hi)).run Tryz.prog W=.ok () (UA W g m lo hi):=by
 have c0:=h.c0;have c1:=h.c1;have c2:=h.c2;have c3:=h.c3;have c4:=h.c4;have c5:=h.c5;have c6:=h.c6;have c7:=h.c7;have c8:=h.c8;have c9:=h.c9;have f0:W.frozen? ⟨g,0,none⟩=false:=h.free 0;have f1:W.frozen? ⟨g,1,none⟩=false:=h.free 1;have f2:W.frozen? ⟨g,2,none⟩=false:=h.free 2;have f3:W.frozen? ⟨g,3,none⟩=false:=h.free 3;have f4:W.frozen? ⟨g,4,none⟩=false:=h.free 4;have f5:W.frozen? ⟨g,5,none⟩=false:=h.free 5;have f6:W.frozen? ⟨g,6,none⟩=false:=h.free 6;have f7:W.frozen? ⟨g,7,none⟩=false:=h.free 7;have f8:W.frozen? ⟨g,8,none⟩=false:=h.free 8;have f9:W.frozen? ⟨g,9,none⟩=false:=h.free 9;unfold ZU UA;clear h;go_simp
theorem VU {m':Bool}{lo' hi':Int}(h:Blk W g 261 (Zy m' lo' hi')) : Blk (UA W g m lo hi) g 261 (Zy m lo hi):=by
 have h0:=h.set 0 (.bool m);have h1:=h0.set 1 (.int .i64 lo);have h2:=h1.set 2 (.int .i64 hi);have h3:=h2.set 3 (.int .i64 0);have h4:=h3.set 4 (.int .i64 0);have h5:=h4.set 5 (.int .i64 0);have h6:=h5.set 6 (.int .i64 0);have h7:=h6.set 7 (.int .i64 0);have h8:=h7.set 8 (.int .i64 0);have h9:=h8.set 9 (.int .i64 0);have e:((((((((((Zy m' lo' hi').setIfInBounds 0 (.bool m)).setIfInBounds 1 (.int .i64 lo)).setIfInBounds 2 (.int .i64 hi)).setIfInBounds 3 (.int .i64 0)).setIfInBounds 4 (.int .i64 0)).setIfInBounds 5 (.int .i64 0)).setIfInBounds 6 (.int .i64 0)).setIfInBounds 7 (.int .i64 0)).setIfInBounds 8 (.int .i64 0)).setIfInBounds 9 (.int .i64 0)=Zy m lo hi:=by simp[Zy]
 rw[e] at h9;exact h9
theorem VW {w0:World}(x:Ext w0 W)(hg:w0.heap.size<=g) : Ext w0 (UA W g m lo hi):=ZaL x hg _ _ _ _ _ _ _ _ _ _
end
theorem Za9 (a b p:Int)(w:World)(ha:0<=a/\a<=2147483647)(hb:0<=b/\b<=2147483647)(hp:p=a*b) :
  Calls Tryz.prog 208 #[ZU false a 0,ZU false b 0] w fun e w'=>e=.returned (ZU false (Zo p) (Zh p))/\Ext w w':=by
 have B1:Blk (((w.alloc (.cells (Zy false a 0) 261)).alloc (.cells (Zy false b 0) 261)).alloc (.cells (Zy false 0 0) 261)) w.heap.size 261 (Zy false a 0):=.alloc (.alloc (.new rfl) _) _;have B2:Blk (((w.alloc (.cells (Zy false a 0) 261)).alloc (.cells (Zy false b 0) 261)).alloc (.cells (Zy false 0 0) 261)) (w.heap.size+1) 261 (Zy false b 0):=.alloc (.new (by simp)) _;have B3:Blk (((w.alloc (.cells (Zy false a 0) 261)).alloc (.cells (Zy false b 0) 261)).alloc (.cells (Zy false 0 0) 261)) (w.heap.size+1+1) 261 (Zy false 0 0):=.new (by simp);have Y0:Ext w (((w.alloc (.cells (Zy false a 0) 261)).alloc (.cells (Zy false b 0) 261)).alloc (.cells (Zy false 0 0) 261)):=(((Ext.rf _).alloc _).alloc _).alloc _;have hgn:(((w.alloc (.cells (Zy false a 0) 261)).alloc (.cells (Zy false b 0) 261)).alloc (.cells (Zy false 0 0) 261))=(((w.alloc (.cells #[.bool false,.int .i64 a,.int .i64 0,.int .i64 0,.int .i64 0,.int .i64 0,.int .i64 0,.int .i64 0,.int .i64 0,.int .i64 0] 261)).alloc (.cells #[.bool false,.int .i64 b,.int .i64 0,.int .i64 0,.int .i64 0,.int .i64 0,.int .i64 0,.int .i64 0,.int .i64 0,.int .i64 0] 261)).alloc (.cells #[.bool false,.int .i64 0,.int .i64 0,.int .i64 0,.int .i64 0,.int .i64 0,.int .i64 0,.int .i64 0,.int .i64 0,.int .i64 0] 261)):=rfl;rw[hgn] at B1 B2 B3 Y0;clear hgn;replace B1:=Hd B1;replace B2:=Hd B2;replace B3:=Hd B3;replace Y0:=Hd Y0;replace hp:=Hd hp;unfold ZU;go_enter Tryz.func208,Tryz.ntmps208;go_wp2_with (fail);generalize (((w.alloc (.cells #[.bool false,.int .i64 a,.int .i64 0,.int .i64 0,.int .i64 0,.int .i64 0,.int .i64 0,.int .i64 0,.int .i64 0,.int .i64 0] 261)).alloc (.cells #[.bool false,.int .i64 b,.int .i64 0,.int .i64 0,.int .i64 0,.int .i64 0,.int .i64 0,.int .i64 0,.int .i64 0,.int .i64 0] 261)).alloc (.cells #[.bool false,.int .i64 0,.int .i64 0,.int .i64 0,.int .i64 0,.int .i64 0,.int .i64 0,.int .i64 0,.int .i64 0,.int .i64 0] 261))=wr at *;refine wp_region_any (by kernel_rfl) ?_
 change wpAny _ _ _ _ _ _ _ (World.drew _)
 refine Zc (i:=0) (op:=Op.fieldAddr 261 (Operand.tmp 2) 0) (t:=0) (d:=some 5) (v:=?_) rfl (by decide +kernel) (by decide +kernel) (by decide +kernel) (fun _ _ _ h=>h) ?_ ?_
 case refine_2=>(intro _;unfold Zd;go_simp;try with_reducible rfl)
 try simp only[lay]
 refine Zc (i:=2) (op:=Op.fieldAddr 261 (Operand.tmp 3) 0) (t:=0) (d:=some 7) (v:=?_) rfl (by decide +kernel) (by decide +kernel) (by decide +kernel) (fun _ _ _ h=>h) ?_ ?_
 case refine_2=>(intro _;unfold Zd;go_simp;try with_reducible rfl)
 try simp only[lay]
 refine Zc (i:=5) (op:=Op.fieldAddr 261 (Operand.tmp 2) 1) (t:=0) (d:=some 10) (v:=?_) rfl (by decide +kernel) (by decide +kernel) (by decide +kernel) (fun _ _ _ h=>h) ?_ ?_
 case refine_2=>(intro _;unfold Zd;go_simp;try with_reducible rfl)
 try simp only[lay]
 refine Zc (i:=7) (op:=Op.fieldAddr 261 (Operand.tmp 3) 1) (t:=0) (d:=some 12) (v:=?_) rfl (by decide +kernel) (by decide +kernel) (by decide +kernel) (fun _ _ _ h=>h) ?_ ?_
 case refine_2=>(intro _;unfold Zd;go_simp;try with_reducible rfl)
 try simp only[lay]
 refine Zv (n:=2) [(1,some 6),(3,some 8),(4,some 9),(6,some 11),(8,some 13),(9,some 14)] (Ext wr)
  (VF (fun | 1=>some (.bool false) | 3=>some (.bool false) | 4=>some (.bool false) | 6=>some (ZS a 0) | 8=>some (ZS b 0) | 9=>some (ZS (Zo p) (Zh p)) | _=>none) (fun _ _ _=>True))
  Ext #[true,true,true,true,true,true,true,true,true,true,false,false] (by kernel_rfl) (VF.stab ?_) ?_ ?_ ((Ext.rf _).drew)
 ·intro j v W W' _ h _
  exact h
 ·intro pq hpm u W hRW hD K hK
  have b1:=B1.out.ext hRW;have b2:=B2.out.ext hRW;simp only[List.mem_cons,List.not_mem_nil,or_false] at hpm;rcases hpm with rfl | rfl | rfl | rfl | rfl | rfl
  ·exact Zr (T:=4) rfl (.pointer (some ⟨w.heap.size,0,none⟩)) (by kernel_rfl) (.bool false) (Wr b1) (hK _ _ (VF.mk rfl) hRW (Ext.rf _))
  ·exact Zr (T:=4) rfl (.pointer (some ⟨w.heap.size+1,0,none⟩)) (by kernel_rfl) (.bool false) (Wr b2) (hK _ _ (VF.mk rfl) hRW (Ext.rf _))
  ·have h1:=(hD 1 (Zf (by kernel_rfl))).k rfl
   have h3:=(hD 3 (Zf (by kernel_rfl))).k rfl;exact Zz rfl (.bool false) (by simp only[Zj,h1,h3];unfold Zd;go_simp) (hK _ _ (VF.mk rfl) hRW (Ext.rf _))
  ·exact Zr (T:=259) rfl (.pointer (some ⟨w.heap.size,1,none⟩)) (by kernel_rfl) (ZS a 0) (Xm b1) (hK _ _ (VF.mk rfl) hRW (Ext.rf _))
  ·exact Zr (T:=259) rfl (.pointer (some ⟨w.heap.size+1,1,none⟩)) (by kernel_rfl) (ZS b 0) (Xm b2) (hK _ _ (VF.mk rfl) hRW (Ext.rf _))
  ·have h6:=(hD 6 (Zf (by kernel_rfl))).k rfl
   have h8:=(hD 8 (Zf (by kernel_rfl))).k rfl;refine ZJ rfl #[ZS a 0,ZS b 0] (by go_simp) (by simp only[Zj,h6,h8];kernel_rfl) _ (ZbV a b p W ha hb hp.out) ?_;rintro e w3 ⟨rfl,x3⟩;exact⟨_,rfl,hK _ _ (VF.mk rfl) (hRW.tr x3) x3⟩
 ·intro u w3 hRW hV
  have h1:=(hV (1,some 6) (by simp)).k rfl;have h3:=(hV (3,some 8) (by simp)).k rfl;have h4:=(hV (4,some 9) (by simp)).k rfl;have h6:=(hV (6,some 11) (by simp)).k rfl;have h8:=(hV (8,some 13) (by simp)).k rfl;have h9:=(hV (9,some 14) (by simp)).k rfl;simp only[Zj,h1,h3,h4,h6,h8,h9];clear hV h1 h3 h4 h6 h8 h9;have b3:=B3.out.ext hRW;have b4:Blk (UA w3 (w.heap.size+1+1) false (Zo p) (Zh p)) (w.heap.size+1+1) 261 (Zy false (Zo p) (Zh p)):=VU b3;have Y4:=Hd (VW (m:=false) (lo:=Zo p) (hi:=Zh p) (g:=w.heap.size+1+1) (Ext.tr Y0.out hRW) (by omega));unfold ZS
  try simp only[lay]
  refine Zc (i:=10) (op:=Op.build 261 #[(0,Operand.tmp 9),(1,Operand.tmp 14)]) (t:=261) (d:=some 15) (v:=?_) rfl (by decide +kernel) (by decide +kernel) (by decide +kernel) (fun _ _ _ h=>h) ?_ ?_
  case refine_2=>(intro _;unfold Zd;go_simp;try with_reducible rfl)
  try simp only[lay]
  refine Zm 11 (by kernel_rfl) (YH rfl (.pointer (some ⟨w.heap.size+1+1,0,none⟩)) (ZU false (Zo p) (Zh p)) (by kernel_rfl) (by kernel_rfl) (W4 b3) ?_);refine wpAny_done (by kernel_rfl) ?_ _;clear b3 hRW;generalize UA w3 (w.heap.size+1+1) false (Zo p) (Zh p)=w5 at *;have c0:=b4.c0;have c1:=b4.c1;have c2:=b4.c2;have c3:=b4.c3;have c4:=b4.c4;have c5:=b4.c5;have c6:=b4.c6;have c7:=b4.c7;have c8:=b4.c8;have c9:=b4.c9;clear b4;go_simp;go_wp2_with (fail);exact bodyPost_ret (v:=ZU false (Zo p) (Zh p)) (by simp[results,Tryz.results208,go_sem,ZU, *]) rfl ⟨rfl,Y4.out⟩
end Go.Proofs.YtmojhhlcocjoaaaGreatDoor
namespace Go.Proofs.YtmojhhlcocjoaaaGreatDoor
open Go.RowKit Go.ChangeShapes Go.WideShapes Go.ChangeAt Go.Deep
def dig (lo hi:Int)(k:Nat) : Int:=if k=0 then lo else if k=1 then hi else 0
def QV (lo hi lo' hi':Int) : Nat->Bool
 | 0=>false
 | k+1=>if dig lo hi k=dig lo' hi' k then QV lo hi lo' hi' k else decide (dig lo hi k<dig lo' hi' k)
theorem ZaM {p q:Int} : QV (Zo p) (Zh p) (Zo q) (Zh q) 9=decide (p<q):=by
 simp only[QV,dig];simp;unfold Zo Zh
 by_cases h1:p / 2147483648=q / 2147483648
 ·rw[if_pos h1,Bool.eq_iff_iff]
  simp;omega
 ·rw[if_neg h1,decide_eq_decide]
  omega
theorem ZcQ (p q:Int)(w:World) : Calls Tryz.prog 230 #[ZS (Zo p) (Zh p),ZS (Zo q) (Zh q)] w fun e w'=>e=.returned (.bool (decide (p<q)))/\Ext w w':=by
 have HL:=Hd (@ZaM p q);generalize Zo p=lo at *;generalize Zh p=hi at *;generalize Zo q=lo' at *;generalize Zh q=hi' at *;have BA:Hid (Blk ((w.alloc (.cells (Zt lo hi) 259)).alloc (.cells (Zt lo' hi') 259)) w.heap.size 259 (Zt lo hi)):=.alloc (.new rfl) _;have BB:Hid (Blk ((w.alloc (.cells (Zt lo hi) 259)).alloc (.cells (Zt lo' hi') 259)) (w.heap.size+1) 259 (Zt lo' hi')):=.new (by simp);have Y0:Hid (Ext w ((w.alloc (.cells (Zt lo hi) 259)).alloc (.cells (Zt lo' hi') 259))):=((Ext.rf _).alloc _).alloc _;obtain⟨res,hres⟩:∃ res,Hid (res=decide (p<q)):=⟨_,rfl⟩;rw[<-hres.out] at HL ⊢;unfold ZS;go_enter Tryz.func230,Tryz.ntmps230;go_wp2_with (fail);go_loopw [5] (fun i wr=>∃ (k:Nat) (z:Int),i=.int .i64 z/\z+1=(k:Int)/\k<=9/\Hid (QV lo hi lo' hi' k=res)/\Ext w wr/\Hid (Blk wr w.heap.size 259 (Zt lo hi))/\Hid (Blk wr (w.heap.size+1) 259 (Zt lo' hi'))) (fun i _=>(intOf i+1).toNat)
 case atStart=>exact⟨9,8,rfl,by omega,by omega,HL,Y0.out,BA,BB⟩
 case round =>
  obtain⟨wo,rfl⟩:∃ wo:World,wo=wr:=⟨_,rfl⟩;obtain⟨k,z,rfl,hz,hk,HS,Y,A1,B1⟩:=hrel
  by_cases h0:1<=k
  ·obtain⟨m,rfl⟩:∃ m,k=m+1:=⟨k-1,by omega⟩
   obtain rfl:z=(m:Int):=by omega
   have gA:=A1.out.cell m;have gB:=B1.out.cell m;rw[VS _ _ _ (by omega)] at gA gB;have HT:Hid (res=if dig lo hi m=dig lo' hi' m then QV lo hi lo' hi' m else decide (dig lo hi m<dig lo' hi' m)):=HS.out.symm;obtain⟨x,hx⟩:∃ x,Hid (x=dig lo hi m):=⟨_,rfl⟩;obtain⟨y,hy⟩:∃ y,Hid (y=dig lo' hi' m):=⟨_,rfl⟩;have gA':wo.cell? ⟨w.heap.size,m,none⟩=some (.int .i64 x):=by rw[hx.out];exact gA
   have gB':wo.cell? ⟨w.heap.size+1,m,none⟩=some (.int .i64 y):=by rw[hy.out];exact gB
   rw[<-hx.out,<-hy.out] at HT;have q3:(m:Int)<9:=by omega
   clear gA gB hz h0 hx hy HS
   by_cases hxy:x=y
   ·subst hxy
    have HN:Hid (QV lo hi lo' hi' m=res):=by
     have h:=HT.out;rw[if_pos rfl] at h;exact h.symm
    go_wp2_with (go_quiet (fail));go_roundw
    case rel=>exact⟨m,_,rfl,by omega,by omega,HN,by repeat (first | exact Y | apply Ext.drewN),A1,B1⟩
    case measure=>simp[intOf]
   ·have hne:(x != y)=true:=by simpa using hxy
    have HN:Hid (res=decide (x<y)):=by
     have h:=HT.out;rw[if_neg hxy] at h;exact h
    clear hxy;go_wp2_with (go_quiet (fail))
    all_goals go_ret
    all_goals exact⟨Xz HN.out.symm,by repeat (first | exact Y | apply Ext.drewN)⟩
  ·obtain rfl:k=0:=by omega
   obtain rfl:z=-1:=by omega
   go_wp2_with (fail);go_ret;exact⟨Xz HS.out,Y⟩
def QW (p q:Int)(k:Nat)(x y u:Int) : Prop:=(k=0/\x=0/\y=0/\u=0)\/(k=1/\x=Zo (p-q)/\y=0/\u=if Zo p<Zo q then 1 else 0)\/(2<=k/\x=Zo (p-q)/\y=Zh (p-q)/\u=0)
theorem ZcR {p q:Int}(hq:0<=q)(hpq:q<=p)(hp:p<=4611686014132420609){k:Nat}(hk:k<9){x y u:Int}(h:QW p q k x y u) :
  ∃ a b d d' u' x' y':Int,a=dig (Zo p) (Zh p) k/\b=dig (Zo q) (Zh q) k/\d=a-b-u/\d'=(if d<0 then d+2147483648 else d)/\u'=(if d<0 then 1 else 0)/\(0<=a/\a<=2147483647)/\(0<=b/\b<=2147483647)/\(0<=u/\u<=1) /\
   (Zt x y).setIfInBounds k (.int .i64 d')=Zt x' y'/\QW p q (k+1) x' y' u':=by
 have b1:=VT (p:=p) ⟨by omega,hp⟩;have b2:=VT (p:=q) ⟨hq,by omega⟩;unfold QW at h ⊢;unfold Zo Zh at *;rcases h with⟨rfl,rfl,rfl,rfl⟩ | ⟨rfl,rfl,rfl,rfl⟩ | ⟨h,rfl,rfl,rfl⟩
 ·refine⟨p%2147483648,q%2147483648,_,(p-q)%2147483648,_,_,0,rfl,rfl,rfl,?_,rfl,by omega,by omega,by omega,rfl,.inr (.inl ⟨rfl,rfl,rfl,?_⟩)⟩
  ·split<;>omega
  ·split<;>split<;>omega
 ·refine⟨p / 2147483648,q / 2147483648,_,(p-q) / 2147483648,0,_,_,rfl,rfl,rfl,?_,?_,by omega,by omega,by split<;>omega,rfl,.inr (.inr ⟨by omega,rfl,rfl,rfl⟩)⟩
  ·split<;>split<;>omega
  ·split<;>split<;>omega
 ·refine⟨0,0,_,0,0,_,_,?_,?_,rfl,by simp,by simp,by omega,by omega,by omega,?_,.inr (.inr ⟨by omega,rfl,rfl,rfl⟩)⟩
  ·unfold dig;rw[if_neg (by omega),if_neg (by omega)]
  ·unfold dig;rw[if_neg (by omega),if_neg (by omega)]
  ·have e:=Uh ((p-q)%2147483648) ((p-q) / 2147483648) k hk
   rw[if_neg (by omega),if_neg (by omega)] at e;exact e
theorem Qr (p q:Int)(w:World)(hq:0<=q)(hpq:q<=p)(hp:p<=4611686014132420609) : Calls Tryz.prog 231 #[ZS (Zo p) (Zh p),ZS (Zo q) (Zh q)] w fun e w'=>e=.returned (ZS (Zo (p-q)) (Zh (p-q)))/\Ext w w':=by
 have Y0:Ext w ((((w.alloc (.cells (Zt (Zo p) (Zh p)) 259)).alloc (.cells (Zt (Zo q) (Zh q)) 259)).alloc (.cells (Zt 0 0) 259)).alloc (.cells (Zt 0 0) 259)):=((((Ext.rf _).alloc _).alloc _).alloc _).alloc _;have BA:Blk ((((w.alloc (.cells (Zt (Zo p) (Zh p)) 259)).alloc (.cells (Zt (Zo q) (Zh q)) 259)).alloc (.cells (Zt 0 0) 259)).alloc (.cells (Zt 0 0) 259)) w.heap.size 259 (Zt (Zo p) (Zh p)):=.alloc (.alloc (.alloc (.new rfl) _) _) _;have BB:Blk ((((w.alloc (.cells (Zt (Zo p) (Zh p)) 259)).alloc (.cells (Zt (Zo q) (Zh q)) 259)).alloc (.cells (Zt 0 0) 259)).alloc (.cells (Zt 0 0) 259)) (w.heap.size+1) 259 (Zt (Zo q) (Zh q)):=.alloc (.alloc (.new (by simp)) _) _;have BR:Blk ((((w.alloc (.cells (Zt (Zo p) (Zh p)) 259)).alloc (.cells (Zt (Zo q) (Zh q)) 259)).alloc (.cells (Zt 0 0) 259)).alloc (.cells (Zt 0 0) 259)) (w.heap.size+1+1) 259 (Zt 0 0):=.alloc (.new (by simp)) _;have BC:Blk ((((w.alloc (.cells (Zt (Zo p) (Zh p)) 259)).alloc (.cells (Zt (Zo q) (Zh q)) 259)).alloc (.cells (Zt 0 0) 259)).alloc (.cells (Zt 0 0) 259)) (w.heap.size+1+1+1) 259 (Zt 0 0):=.new (by simp);replace Y0:=Hd Y0;replace BA:=Hd BA;replace BB:=Hd BB;replace BR:=Hd BR;replace BC:=Hd BC;have STEP:Hid (∀ (k:Nat),k<9->∀ x y u:Int,QW p q k x y u->∃ a b d d' u' x' y':Int,a=dig (Zo p) (Zh p) k/\b=dig (Zo q) (Zh q) k/\d=a-b-u/\d'=(if d<0 then d+2147483648 else d)/\u'=(if d<0 then 1 else 0)/\(0<=a/\a<=2147483647)/\(0<=b/\b<=2147483647)/\(0<=u/\u<=1)/\(Zt x y).setIfInBounds k (.int .i64 d')=Zt x' y'/\QW p q (k+1) x' y' u'):=fun k hk x y u h=>ZcR hq hpq hp hk h
 clear hq hpq hp;unfold ZS;go_enter Tryz.func231,Tryz.ntmps231;go_wp2_with (fail);go_loopw [6,7] (fun o i wr=>∃ (k:Nat) (x y u:Int),i=.int .i64 k/\o=.int .i64 u/\k<=9/\Hid (QW p q k x y u)/\Ext w wr/\Hid (Blk wr w.heap.size 259 (Zt (Zo p) (Zh p)))/\Hid (Blk wr (w.heap.size+1) 259 (Zt (Zo q) (Zh q)))/\Hid (Blk wr (w.heap.size+1+1) 259 (Zt 0 0))/\Hid (Blk wr (w.heap.size+1+1+1) 259 (Zt x y))) (fun _ i _=>9-(intOf i).toNat)
 case atStart=>exact⟨0,0,0,0,rfl,rfl,by omega,.inl ⟨rfl,rfl,rfl,rfl⟩,Y0.out,BA,BB,BR,BC⟩
 case round =>
  obtain⟨wo,rfl⟩:∃ wo:World,wo=wr:=⟨_,rfl⟩;obtain⟨k,x,y,u,rfl,rfl,hk,HM,Y,A1,B1,R1,C1⟩:=hrel
  by_cases hlt:k<9
  ·obtain⟨a,b,d,d',u',x',y',ha,hb,hd,hd',hu',ba,bb,bu,hset,HM2⟩:=STEP.out k hlt x y u HM.out
   have gA:=A1.out.cell k;have gB:=B1.out.cell k;have gC:=C1.out.cell k;have fC:=C1.out.free k;rw[VS _ _ _ hlt] at gA gB gC;have gA':wo.cell? ⟨w.heap.size,k,none⟩=some (.int .i64 a):=by rw[ha];exact gA
   have gB':wo.cell? ⟨w.heap.size+1,k,none⟩=some (.int .i64 b):=by rw[hb];exact gB
   have w1:Hid (IntKind.i64.wrap (a-b)=a-b):=IntWalk.i64_in _ (by omega);have w2:Hid (IntKind.i64.wrap (a-b-u)=d):=Hd (by rw[hd];exact IntWalk.i64_in _ (by omega));have bd:-2147483649<=d/\d<=2147483647:=by omega
   obtain⟨bd1,bd2⟩:=bd;have q3:(k:Int)<9:=by omega
   have n1:¬w.heap.size=w.heap.size+1+1+1:=by omega
   replace hset:=Hd hset;replace HM2:=Hd HM2;replace hd':=Hd hd';replace hu':=Hd hu';clear gA gB ha hb hd HM ba bb bu;have w1':=w1.out;have w2':=w2.out
   by_cases hneg:d<0
   ·have e1:Hid (d'=d+2147483648):=by
     have h:=hd'.out;rw[if_pos hneg] at h;exact h
    have e2:Hid (u'=1):=by
     have h:=hu'.out;rw[if_pos hneg] at h;exact h
    rw[e1.out] at hset;rw[e2.out] at HM2;go_wp2_with (go_quiet (fail));go_roundw
    case rel=>exact⟨k+1,x',y',1,by go_num,rfl,by omega,HM2,(Y.drewN _).setNew (by simp<;>omega) _,(A1.out.drewN _).far (by simp<;>omega) _,(B1.out.drewN _).far (by simp<;>omega) _,(R1.out.drewN _).far (by simp<;>omega) _,by rw[<-hset.out];exact(C1.out.drewN _).set k _⟩
    case measure=>simp[intOf];omega
   ·have e1:Hid (d'=d):=by
     have h:=hd'.out;rw[if_neg hneg] at h;exact h
    have e2:Hid (u'=0):=by
     have h:=hu'.out;rw[if_neg hneg] at h;exact h
    rw[e1.out] at hset;rw[e2.out] at HM2;go_wp2_with (go_quiet (fail));go_roundw
    case rel=>exact⟨k+1,x',y',0,by go_num,rfl,by omega,HM2,(Y.drewN _).setNew (by simp<;>omega) _,(A1.out.drewN _).far (by simp<;>omega) _,(B1.out.drewN _).far (by simp<;>omega) _,(R1.out.drewN _).far (by simp<;>omega) _,by rw[<-hset.out];exact(C1.out.drewN _).set k _⟩
    case measure=>simp[intOf];omega
  ·obtain rfl:k=9:=by omega
   have HM4:Hid (x=Zo (p-q)/\y=Zh (p-q)):=by
    rcases HM.out with⟨h,_⟩ | ⟨h,_⟩ | ⟨_,h1,h2,_⟩
    ·omega
    ·omega
    ·exact⟨h1,h2⟩
   obtain⟨rfl,rfl⟩:=HM4.out;clear HM HM4 STEP;have c0:=C1.out.c0;have c1:=C1.out.c1;have c2:=C1.out.c2;have c3:=C1.out.c3;have c4:=C1.out.c4;have c5:=C1.out.c5;have c6:=C1.out.c6;have c7:=C1.out.c7;have c8:=C1.out.c8;have z0:=R1.out.c0;have z1:=R1.out.c1;have z2:=R1.out.c2;have z3:=R1.out.c3;have z4:=R1.out.c4;have z5:=R1.out.c5;have z6:=R1.out.c6;have z7:=R1.out.c7;have z8:=R1.out.c8;have f0:wo.frozen? ⟨w.heap.size+1+1,0,none⟩=false:=R1.out.free 0;have f1:wo.frozen? ⟨w.heap.size+1+1,1,none⟩=false:=R1.out.free 1;have f2:wo.frozen? ⟨w.heap.size+1+1,2,none⟩=false:=R1.out.free 2;have f3:wo.frozen? ⟨w.heap.size+1+1,3,none⟩=false:=R1.out.free 3;have f4:wo.frozen? ⟨w.heap.size+1+1,4,none⟩=false:=R1.out.free 4;have f5:wo.frozen? ⟨w.heap.size+1+1,5,none⟩=false:=R1.out.free 5;have f6:wo.frozen? ⟨w.heap.size+1+1,6,none⟩=false:=R1.out.free 6;have f7:wo.frozen? ⟨w.heap.size+1+1,7,none⟩=false:=R1.out.free 7;have f8:wo.frozen? ⟨w.heap.size+1+1,8,none⟩=false:=R1.out.free 8;have Y9:=Hd (UJ Y (g:=w.heap.size+1+1) (by omega) (.int .i64 (Zo (p-q))) (.int .i64 (Zh (p-q))) (.int .i64 0) (.int .i64 0) (.int .i64 0) (.int .i64 0) (.int .i64 0) (.int .i64 0) (.int .i64 0));go_wp2_with (fail);exact bodyPost_ret (v:=ZS (Zo (p-q)) (Zh (p-q))) (by simp[results,Tryz.results231,go_sem,ZS, *]) rfl ⟨rfl,Y9.out⟩
def J5 (p q:Int) : Value:=if p<q then ZU true (Zo (q-p)) (Zh (q-p)) else ZU false (Zo (p-q)) (Zh (p-q))
theorem ZcS (p q:Int)(w:World)(hp:0<=p/\p<=4611686014132420609)(hq:0<=q/\q<=4611686014132420609) :
  Calls Tryz.prog 222 #[ZU false (Zo p) (Zh p),ZU true (Zo q) (Zh q)] w fun e w'=>e=.returned (J5 p q)/\Ext w w':=by
 have B1:Blk (((w.alloc (.cells (Zy false (Zo p) (Zh p)) 261)).alloc (.cells (Zy true (Zo q) (Zh q)) 261)).alloc (.cells (Zy false 0 0) 261)) w.heap.size 261 (Zy false (Zo p) (Zh p)):=.alloc (.alloc (.new rfl) _) _;have B2:Blk (((w.alloc (.cells (Zy false (Zo p) (Zh p)) 261)).alloc (.cells (Zy true (Zo q) (Zh q)) 261)).alloc (.cells (Zy false 0 0) 261)) (w.heap.size+1) 261 (Zy true (Zo q) (Zh q)):=.alloc (.new (by simp)) _;have B3:Blk (((w.alloc (.cells (Zy false (Zo p) (Zh p)) 261)).alloc (.cells (Zy true (Zo q) (Zh q)) 261)).alloc (.cells (Zy false 0 0) 261)) (w.heap.size+1+1) 261 (Zy false 0 0):=.new (by simp);have Y0:Ext w (((w.alloc (.cells (Zy false (Zo p) (Zh p)) 261)).alloc (.cells (Zy true (Zo q) (Zh q)) 261)).alloc (.cells (Zy false 0 0) 261)):=(((Ext.rf _).alloc _).alloc _).alloc _;have LE:=fun W=>ZcQ p q W
 obtain⟨wr,hwr⟩:∃ wr,wr=(((w.alloc (.cells (Zy false (Zo p) (Zh p)) 261)).alloc (.cells (Zy true (Zo q) (Zh q)) 261)).alloc (.cells (Zy false 0 0) 261)):=⟨_,rfl⟩;have hwl:(((w.alloc (.cells #[.bool false,.int .i64 (Zo p),.int .i64 (Zh p),.int .i64 0,.int .i64 0,.int .i64 0,.int .i64 0,.int .i64 0,.int .i64 0,.int .i64 0] 261)).alloc (.cells #[.bool true,.int .i64 (Zo q),.int .i64 (Zh q),.int .i64 0,.int .i64 0,.int .i64 0,.int .i64 0,.int .i64 0,.int .i64 0,.int .i64 0] 261)).alloc (.cells #[.bool false,.int .i64 0,.int .i64 0,.int .i64 0,.int .i64 0,.int .i64 0,.int .i64 0,.int .i64 0,.int .i64 0,.int .i64 0] 261))=wr:=hwr.symm;rw[<-hwr] at B1 B2 B3 Y0;clear hwr;replace B1:=Hd B1;replace B2:=Hd B2;replace B3:=Hd B3;replace Y0:=Hd Y0;replace LE:=Hd LE;replace hwl:=Hd hwl;unfold ZU;go_enter Tryz.func222,Tryz.ntmps222;go_wp2_with (fail);rw[hwl.out];refine(LE.out _).mono ?_;rintro e w2 ⟨rfl,x2⟩;replace x2:=Hd x2
 by_cases hlt:p<q
 ·have hb:decide (p<q)=true:=by simpa using hlt
  have MIN:=Hd (fun W=>Qr q p W hp.1 (by omega) hq.2);replace hlt:=Hd hlt;clear LE;go_wp2_with (fail);refine wp_region_any (by kernel_rfl) ?_
  change wpAny _ _ _ _ _ _ _ (World.drew _)
  refine Zc (i:=0) (op:=Op.fieldAddr 261 (Operand.tmp 3) 0) (t:=0) (d:=some 23) (v:=?_) rfl (by decide +kernel) (by decide +kernel) (by decide +kernel) (fun _ _ _ h=>h) ?_ ?_
  case refine_2=>(intro _;unfold Zd;go_simp;try with_reducible rfl)
  try simp only[lay]
  refine Zc (i:=2) (op:=Op.fieldAddr 261 (Operand.tmp 3) 1) (t:=0) (d:=some 25) (v:=?_) rfl (by decide +kernel) (by decide +kernel) (by decide +kernel) (fun _ _ _ h=>h) ?_ ?_
  case refine_2=>(intro _;unfold Zd;go_simp;try with_reducible rfl)
  try simp only[lay]
  refine Zc (i:=4) (op:=Op.fieldAddr 261 (Operand.tmp 2) 1) (t:=0) (d:=some 27) (v:=?_) rfl (by decide +kernel) (by decide +kernel) (by decide +kernel) (fun _ _ _ h=>h) ?_ ?_
  case refine_2=>(intro _;unfold Zd;go_simp;try with_reducible rfl)
  try simp only[lay]
  refine Zv (n:=2) [(1,some 24),(3,some 26),(5,some 28),(6,some 29)] (Ext w2)
   (VF (fun | 1=>some (.bool true) | 3=>some (ZS (Zo q) (Zh q)) | 5=>some (ZS (Zo p) (Zh p)) | 6=>some (ZS (Zo (q-p)) (Zh (q-p))) | _=>none) (fun _ _ _=>True))
   Ext #[true,true,true,true,true,true,true,false,false] (by kernel_rfl) (VF.stab ?_) ?_ ?_ ((Ext.rf _).drew)
  ·intro j v W W' _ h _
   exact h
  ·intro pq hpm u W hRW hD K hK
   have b1:=B1.out.ext (x2.out.tr hRW);have b2:=B2.out.ext (x2.out.tr hRW);simp only[List.mem_cons,List.not_mem_nil,or_false] at hpm;rcases hpm with rfl | rfl | rfl | rfl
   ·exact Zr (T:=4) rfl (.pointer (some ⟨w.heap.size+1,0,none⟩)) (by kernel_rfl) (.bool true) (Wr b2) (hK _ _ (VF.mk rfl) hRW (Ext.rf _))
   ·exact Zr (T:=259) rfl (.pointer (some ⟨w.heap.size+1,1,none⟩)) (by kernel_rfl) (ZS (Zo q) (Zh q)) (Xm b2) (hK _ _ (VF.mk rfl) hRW (Ext.rf _))
   ·exact Zr (T:=259) rfl (.pointer (some ⟨w.heap.size,1,none⟩)) (by kernel_rfl) (ZS (Zo p) (Zh p)) (Xm b1) (hK _ _ (VF.mk rfl) hRW (Ext.rf _))
   ·have h3:=(hD 3 (Zf (by kernel_rfl))).k rfl
    have h5:=(hD 5 (Zf (by kernel_rfl))).k rfl;refine ZJ rfl #[ZS (Zo q) (Zh q),ZS (Zo p) (Zh p)] (by go_simp) (by simp only[Zj,h3,h5];kernel_rfl) _ (MIN.out W) ?_;rintro e w3 ⟨rfl,x3⟩;exact⟨_,rfl,hK _ _ (VF.mk rfl) (hRW.tr x3) x3⟩
  ·intro u w3 hRW hV
   have h1:=(hV (1,some 24) (by simp)).k rfl;have h3:=(hV (3,some 26) (by simp)).k rfl;have h5:=(hV (5,some 28) (by simp)).k rfl;have h6:=(hV (6,some 29) (by simp)).k rfl;simp only[Zj,h1,h3,h5,h6];clear hV h1 h3 h5 h6;have b3:=B3.out.ext (x2.out.tr hRW);have b4:Blk (UA w3 (w.heap.size+1+1) true (Zo (q-p)) (Zh (q-p))) (w.heap.size+1+1) 261 (Zy true (Zo (q-p)) (Zh (q-p))):=VU b3;have Y4:=Hd (VW (m:=true) (lo:=(Zo (q-p))) (hi:=(Zh (q-p))) (g:=w.heap.size+1+1) (Ext.tr (Ext.tr Y0.out x2.out) hRW) (by omega));unfold ZS
   try simp only[lay]
   refine Zc (i:=7) (op:=Op.build 261 #[(0,Operand.tmp 24),(1,Operand.tmp 29)]) (t:=261) (d:=some 30) (v:=?_) rfl (by decide +kernel) (by decide +kernel) (by decide +kernel) (fun _ _ _ h=>h) ?_ ?_
   case refine_2=>(intro _;unfold Zd;go_simp;try with_reducible rfl)
   try simp only[lay]
   refine Zm 8 (by kernel_rfl) (YH rfl (.pointer (some ⟨w.heap.size+1+1,0,none⟩)) (ZU true (Zo (q-p)) (Zh (q-p))) (by kernel_rfl) (by kernel_rfl) (W4 b3) ?_);refine wpAny_done (by kernel_rfl) ?_ _;clear b3 hRW;generalize UA w3 (w.heap.size+1+1) true (Zo (q-p)) (Zh (q-p))=w5 at *;have c0:=b4.c0;have c1:=b4.c1;have c2:=b4.c2;have c3:=b4.c3;have c4:=b4.c4;have c5:=b4.c5;have c6:=b4.c6;have c7:=b4.c7;have c8:=b4.c8;have c9:=b4.c9;clear b4;go_simp;go_wp2_with (fail);exact bodyPost_ret (v:=ZU true (Zo (q-p)) (Zh (q-p))) (by simp[results,Tryz.results222,go_sem,ZU, *]) rfl ⟨by rw[J5,if_pos hlt.out],Y4.out⟩
 ·have hb:decide (p<q)=false:=by simpa using hlt
  have MIN:=Hd (fun W=>Qr p q W hq.1 (by omega) hp.2);replace hlt:=Hd hlt;clear LE;go_wp2_with (fail);refine wp_region_any (by kernel_rfl) ?_
  change wpAny _ _ _ _ _ _ _ (World.drew _)
  refine Zc (i:=0) (op:=Op.fieldAddr 261 (Operand.tmp 2) 0) (t:=0) (d:=some 31) (v:=?_) rfl (by decide +kernel) (by decide +kernel) (by decide +kernel) (fun _ _ _ h=>h) ?_ ?_
  case refine_2=>(intro _;unfold Zd;go_simp;try with_reducible rfl)
  try simp only[lay]
  refine Zc (i:=2) (op:=Op.fieldAddr 261 (Operand.tmp 2) 1) (t:=0) (d:=some 33) (v:=?_) rfl (by decide +kernel) (by decide +kernel) (by decide +kernel) (fun _ _ _ h=>h) ?_ ?_
  case refine_2=>(intro _;unfold Zd;go_simp;try with_reducible rfl)
  try simp only[lay]
  refine Zc (i:=4) (op:=Op.fieldAddr 261 (Operand.tmp 3) 1) (t:=0) (d:=some 35) (v:=?_) rfl (by decide +kernel) (by decide +kernel) (by decide +kernel) (fun _ _ _ h=>h) ?_ ?_
  case refine_2=>(intro _;unfold Zd;go_simp;try with_reducible rfl)
  try simp only[lay]
  refine Zv (n:=2) [(1,some 32),(3,some 34),(5,some 36),(6,some 37)] (Ext w2)
   (VF (fun | 1=>some (.bool false) | 3=>some (ZS (Zo p) (Zh p)) | 5=>some (ZS (Zo q) (Zh q)) | 6=>some (ZS (Zo (p-q)) (Zh (p-q))) | _=>none) (fun _ _ _=>True))
   Ext #[true,true,true,true,true,true,true,false,false] (by kernel_rfl) (VF.stab ?_) ?_ ?_ ((Ext.rf _).drew)
  ·intro j v W W' _ h _
   exact h
  ·intro pq hpm u W hRW hD K hK
   have b1:=B1.out.ext (x2.out.tr hRW);have b2:=B2.out.ext (x2.out.tr hRW);simp only[List.mem_cons,List.not_mem_nil,or_false] at hpm;rcases hpm with rfl | rfl | rfl | rfl
   ·exact Zr (T:=4) rfl (.pointer (some ⟨w.heap.size,0,none⟩)) (by kernel_rfl) (.bool false) (Wr b1) (hK _ _ (VF.mk rfl) hRW (Ext.rf _))
   ·exact Zr (T:=259) rfl (.pointer (some ⟨w.heap.size,1,none⟩)) (by kernel_rfl) (ZS (Zo p) (Zh p)) (Xm b1) (hK _ _ (VF.mk rfl) hRW (Ext.rf _))
   ·exact Zr (T:=259) rfl (.pointer (some ⟨w.heap.size+1,1,none⟩)) (by kernel_rfl) (ZS (Zo q) (Zh q)) (Xm b2) (hK _ _ (VF.mk rfl) hRW (Ext.rf _))
   ·have h3:=(hD 3 (Zf (by kernel_rfl))).k rfl
    have h5:=(hD 5 (Zf (by kernel_rfl))).k rfl;refine ZJ rfl #[ZS (Zo p) (Zh p),ZS (Zo q) (Zh q)] (by go_simp) (by simp only[Zj,h3,h5];kernel_rfl) _ (MIN.out W) ?_;rintro e w3 ⟨rfl,x3⟩;exact⟨_,rfl,hK _ _ (VF.mk rfl) (hRW.tr x3) x3⟩
  ·intro u w3 hRW hV
   have h1:=(hV (1,some 32) (by simp)).k rfl;have h3:=(hV (3,some 34) (by simp)).k rfl;have h5:=(hV (5,some 36) (by simp)).k rfl;have h6:=(hV (6,some 37) (by simp)).k rfl;simp only[Zj,h1,h3,h5,h6];clear hV h1 h3 h5 h6;have b3:=B3.out.ext (x2.out.tr hRW);have b4:Blk (UA w3 (w.heap.size+1+1) false (Zo (p-q)) (Zh (p-q))) (w.heap.size+1+1) 261 (Zy false (Zo (p-q)) (Zh (p-q))):=VU b3;have Y4:=Hd (VW (m:=false) (lo:=(Zo (p-q))) (hi:=(Zh (p-q))) (g:=w.heap.size+1+1) (Ext.tr (Ext.tr Y0.out x2.out) hRW) (by omega));unfold ZS
   try simp only[lay]
   refine Zc (i:=7) (op:=Op.build 261 #[(0,Operand.tmp 32),(1,Operand.tmp 37)]) (t:=261) (d:=some 38) (v:=?_) rfl (by decide +kernel) (by decide +kernel) (by decide +kernel) (fun _ _ _ h=>h) ?_ ?_
   case refine_2=>(intro _;unfold Zd;go_simp;try with_reducible rfl)
   try simp only[lay]
   refine Zm 8 (by kernel_rfl) (YH rfl (.pointer (some ⟨w.heap.size+1+1,0,none⟩)) (ZU false (Zo (p-q)) (Zh (p-q))) (by kernel_rfl) (by kernel_rfl) (W4 b3) ?_);refine wpAny_done (by kernel_rfl) ?_ _;clear b3 hRW;generalize UA w3 (w.heap.size+1+1) false (Zo (p-q)) (Zh (p-q))=w5 at *;have c0:=b4.c0;have c1:=b4.c1;have c2:=b4.c2;have c3:=b4.c3;have c4:=b4.c4;have c5:=b4.c5;have c6:=b4.c6;have c7:=b4.c7;have c8:=b4.c8;have c9:=b4.c9;clear b4;go_simp;go_wp2_with (fail);exact bodyPost_ret (v:=ZU false (Zo (p-q)) (Zh (p-q))) (by simp[results,Tryz.results222,go_sem,ZU, *]) rfl ⟨by rw[J5,if_neg (by have:=hlt.out;omega)],Y4.out⟩
theorem ZbW : Tryz.prog.underlying 259=some (.array 9 3):=by kernel_rfl
theorem ZdN (x y:Int)(u:World) : (binOp .eql 259 (.agg #[.int .i64 x,.int .i64 y,.int .i64 0,.int .i64 0,.int .i64 0,.int .i64 0,.int .i64 0,.int .i64 0,.int .i64 0]) (.agg #[.int .i64 0,.int .i64 0,.int .i64 0,.int .i64 0,.int .i64 0,.int .i64 0,.int .i64 0,.int .i64 0,.int .i64 0])).run Tryz.prog u=.ok (.bool ((x==0)&&(y==0))) u:=by
 rw[run_eql_struct];unfold Op.equalIn;simp only[Sem.run_bind,run_underlying ZbW,Result.andThen_ok];have e9:List.range' 0 9 1=[0,1,2,3,4,5,6,7,8]:=rfl;simp only[Std.Legacy.Range.forIn_eq_forIn_range',Std.Legacy.Range.size,Nat.sub_zero,Nat.add_one_sub_one,Nat.div_one,e9,List.forIn_cons,List.forIn_nil]
 by_cases hx:x=0
 ·subst hx
  by_cases hy:y=0
  ·subst hy
   go_simp
  ·have hy':(y==0)=false:=by simpa using hy
   go_simp
 ·have hx':(x==0)=false:=by simpa using hx
  go_simp
def Ui (p q:Int) : Int:=if p=q then 0 else if p<q then -1 else 1
theorem ZaN (p q:Int)(hp:0<=p/\p<=4611686014132420609)(hq:0<=q/\q<=4611686014132420609) : ∃ m x y,J5 p q=ZU m x y/\((Ui p q=0/\x=0/\y=0)\/(Ui p q=-1/\m=true/\(x≠0\/y≠0))\/(Ui p q=1/\m=false/\(x≠0\/y≠0))):=by
 unfold J5 Ui Zo Zh
 by_cases h1:p<q
 ·rw[if_pos h1]
  exact⟨_,_,_,rfl,.inr (.inl ⟨by rw[if_neg (by omega),if_pos h1],rfl,by omega⟩)⟩
 ·rw[if_neg h1]
  by_cases h2:p=q
  ·exact⟨_,_,_,rfl,.inl ⟨by rw[if_pos h2],by omega,by omega⟩⟩
  ·exact⟨_,_,_,rfl,.inr (.inr ⟨by rw[if_neg h2,if_neg h1],rfl,by omega⟩)⟩
theorem ZcT (p q:Int)(w:World)(hp:0<=p/\p<=4611686014132420609)(hq:0<=q/\q<=4611686014132420609) :
  Calls Tryz.prog 207 #[ZU false (Zo p) (Zh p),ZU false (Zo q) (Zh q)] w fun e w'=>e=.returned (.int .i64 (Ui p q))/\Ext w w':=by
 have B1:Blk ((w.alloc (.cells (Zy false (Zo p) (Zh p)) 261)).alloc (.cells (Zy false (Zo q) (Zh q)) 261)) w.heap.size 261 (Zy false (Zo p) (Zh p)):=.alloc (.new rfl) _;have B2:Blk ((w.alloc (.cells (Zy false (Zo p) (Zh p)) 261)).alloc (.cells (Zy false (Zo q) (Zh q)) 261)) (w.heap.size+1) 261 (Zy false (Zo q) (Zh q)):=.new (by simp);have Y0:Ext w ((w.alloc (.cells (Zy false (Zo p) (Zh p)) 261)).alloc (.cells (Zy false (Zo q) (Zh q)) 261)):=((Ext.rf _).alloc _).alloc _;have ADD:=fun W=>ZcS p q W hp hq
 obtain⟨m,x,y,hd,hcase⟩:=ZaN p q hp hq;rw[hd] at ADD;obtain⟨wr,hwr⟩:∃ wr,wr=((w.alloc (.cells (Zy false (Zo p) (Zh p)) 261)).alloc (.cells (Zy false (Zo q) (Zh q)) 261)):=⟨_,rfl⟩;have hwl:((w.alloc (.cells #[.bool false,.int .i64 (Zo p),.int .i64 (Zh p),.int .i64 0,.int .i64 0,.int .i64 0,.int .i64 0,.int .i64 0,.int .i64 0,.int .i64 0] 261)).alloc (.cells #[.bool false,.int .i64 (Zo q),.int .i64 (Zh q),.int .i64 0,.int .i64 0,.int .i64 0,.int .i64 0,.int .i64 0,.int .i64 0,.int .i64 0] 261))=wr:=hwr.symm;rw[<-hwr] at B1 B2 Y0;clear hwr hp hq hd;generalize Ui p q=res at *;replace B1:=Hd B1;replace B2:=Hd B2;replace Y0:=Hd Y0;replace ADD:=Hd ADD;replace hwl:=Hd hwl;replace hcase:=Hd hcase;unfold ZU;go_enter Tryz.func207,Tryz.ntmps207;go_wp2_with (fail);rw[hwl.out];refine wp_region_any (by kernel_rfl) ?_
 change wpAny _ _ _ _ _ _ _ (World.drew _)
 refine Zv (n:=1) [(0,some 6),(1,some 7),(2,some 8),(3,some 9),(4,some 5)] (Ext wr)
  (VF (fun | 0=>some (ZU false (Zo p) (Zh p)) | 1=>some (ZU false (Zo q) (Zh q)) | 2=>some (ZU true (Zo q) (Zh q)) | 3=>some (ZU m x y) | _=>none)
   (fun j v W=>j=4->∃ h,v=.pointer (some ⟨h,0,none⟩)/\wr.heap.size<=h/\Blk W h 261 (Zy false 0 0)))
  Ext #[true,true,true,true,true,false] (by kernel_rfl) (VF.stab ?_) ?_ ?_ ((Ext.rf _).drew)
 ·intro j v W W' _ g6 hx h
  obtain⟨h,q1,q2,q3⟩:=g6 h;exact⟨h,q1,q2,q3.ext hx⟩
 ·intro pq hpm u W hRW hD K hK
  have b1:=B1.out.ext hRW;have b2:=B2.out.ext hRW;have z2:=hRW.size;simp only[List.mem_cons,List.not_mem_nil,or_false] at hpm;rcases hpm with rfl | rfl | rfl | rfl | rfl
  ·exact Zr (T:=261) rfl (.pointer (some ⟨w.heap.size,0,none⟩)) (by kernel_rfl) _ (J4 b1) (hK _ _ (VF.mk rfl) hRW (Ext.rf _))
  ·exact Zr (T:=261) rfl (.pointer (some ⟨w.heap.size+1,0,none⟩)) (by kernel_rfl) _ (J4 b2) (hK _ _ (VF.mk rfl) hRW (Ext.rf _))
  ·have h1:=(hD 1 (Zf (by kernel_rfl))).k rfl
   refine ZJ rfl #[ZU false (Zo q) (Zh q)] (by go_simp) (by simp only[Zj,h1];kernel_rfl) _ (Zdr false _ _ W) ?_;rintro e w3 ⟨rfl,x3⟩;exact⟨_,rfl,hK _ _ (VF.mk rfl) (hRW.tr x3) x3⟩
  ·have h0:=(hD 0 (Zf (by kernel_rfl))).k rfl
   have h2:=(hD 2 (Zf (by kernel_rfl))).k rfl;refine ZJ rfl #[ZU false (Zo p) (Zh p),ZU true (Zo q) (Zh q)] (by go_simp) (by simp only[Zj,h0,h2];kernel_rfl) _ (ADD.out W) ?_;rintro e w3 ⟨rfl,x3⟩;exact⟨_,rfl,hK _ _ (VF.mk rfl) (hRW.tr x3) x3⟩
  ·refine Zz rfl (.pointer (some ⟨W.heap.size,0,none⟩)) (w':=W.alloc (.cells (Zy false 0 0) 261)) ?_ (hK _ _ (VF.mg rfl fun _=>⟨_,rfl,z2,.new rfl⟩) (hRW.alloc _) ((Ext.rf _).alloc _))
   unfold Zd Zy;go_simp
 ·intro u w3 hRW hV
  have h0:=(hV (0,some 6) (by simp)).k rfl;have h1:=(hV (1,some 7) (by simp)).k rfl;have h2:=(hV (2,some 8) (by simp)).k rfl;have h3:=(hV (3,some 9) (by simp)).k rfl;obtain⟨gh,h4,hgh,b3⟩:=(hV (4,some 5) (by simp)).g rfl rfl;simp only[Zj,h0,h1,h2,h3,h4];clear hV h0 h1 h2 h3 h4;have b4:Blk (UA w3 gh m x y) gh 261 (Zy m x y):=VU b3;have Y4:=Hd (VW (m:=m) (lo:=x) (hi:=y) (g:=gh) (Ext.tr Y0.out hRW) (Nat.le_trans Y0.out.size hgh))
  try simp only[lay]
  refine Zm 5 (by kernel_rfl) (YH rfl (.pointer (some ⟨gh,0,none⟩)) (ZU m x y) (by kernel_rfl) (by kernel_rfl) (W4 b3) ?_);refine wpAny_done (by kernel_rfl) ?_ _;clear b3 hRW;generalize UA w3 gh m x y=w5 at *;have c0:=b4.c0;have c1:=b4.c1;have c2:=b4.c2;have c3:=b4.c3;have c4:=b4.c4;have c5:=b4.c5;have c6:=b4.c6;have c7:=b4.c7;have c8:=b4.c8;have c9:=b4.c9;clear b4;obtain⟨bz,hbz⟩:∃ bz,Hid (((x==0)&&(y==0))=bz):=⟨_,rfl⟩;have hq:∀ u:World,(binOp .eql 259 (.agg #[.int .i64 x,.int .i64 y,.int .i64 0,.int .i64 0,.int .i64 0,.int .i64 0,.int .i64 0,.int .i64 0,.int .i64 0]) (.agg #[.int .i64 0,.int .i64 0,.int .i64 0,.int .i64 0,.int .i64 0,.int .i64 0,.int .i64 0,.int .i64 0,.int .i64 0])).run Tryz.prog u=.ok (.bool bz) u:=fun u=>by rw[ZdN,hbz.out]
  rcases hcase.out with⟨e1,e2,e3⟩ | ⟨e1,e2,e3⟩ | ⟨e1,e2,e3⟩
  ·obtain rfl:bz=true:=by rw[<-hbz.out,e2,e3];rfl
   have e1:=Hd e1;clear e2 e3;go_simp;go_wp2_with (fail);go_ret;exact⟨ZW e1.out.symm,Y4.out⟩
  ·obtain rfl:bz=false:=by rw[<-hbz.out,Bool.eq_false_iff];simp;omega
   have e1:=Hd e1;subst e2;clear e3;go_simp;go_wp2_with (fail);go_ret;exact⟨rfl,Y4.out⟩
  ·obtain rfl:bz=false:=by rw[<-hbz.out,Bool.eq_false_iff];simp;omega
   have e1:=Hd e1;subst e2;clear e3;go_simp;go_wp2_with (fail);go_ret;exact⟨rfl,Y4.out⟩
end Go.Proofs.YtmojhhlcocjoaaaGreatDoor
