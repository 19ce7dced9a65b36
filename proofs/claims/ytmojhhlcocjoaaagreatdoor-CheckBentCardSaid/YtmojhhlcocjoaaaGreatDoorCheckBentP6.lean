/- packed and squeezed by programs (see wip/) -/
import Derived.Test.YtmojhhlcocjoaaaGreatDoorCheckBentP5
import Derived.Laws.CopyRow
import Derived.Laws.IdiomCopy
set_option maxRecDepth 100000
set_option maxHeartbeats 16000000
set_option linter.unusedVariables false
set_option linter.unusedSimpArgs false
namespace Go.Proofs.YtmojhhlcocjoaaaGreatDoor
open Go.RowKit Go.ChangeShapes Go.WideShapes Go.ChangeAt Go.Deep
def Xa (x:List Int)(n:Nat) : Bool:=decide (x.length=n/\∀ k,k<n->x.count (k:Int)=1)
theorem Zht (P:Option Addr)(c n:Nat)(x:List Int)(w:World)(hP:RdI w P x)(hn:n<=1000) :
  Calls Tryz.prog 60 #[.slice P x.length c,.int .i64 n] w fun e w'=>e=.returned (.bool (Xa x n))/\Ext w w':=by
 by_cases hl:x.length=n
 ·have PB:Hid (∀ b:Bool,(b=true↔∀ k,k<n->x.count (k:Int)=1)->Xa x n=b):=fun b h=>by
   unfold Xa;rw[Bool.eq_iff_iff,decide_eq_true_iff,h];exact⟨fun h=>h.2,fun h=>⟨hl,h⟩⟩
  have ne0:((n:Int) != (n:Int))=false:=by simp
  generalize Xa x n=pb at *;have hlen:Hid (x.length=n):=by
   have h:x.length=n:=hl;exact h
  rw[hl];clear hl;replace hP:=Hd hP;go_enter Tryz.func60,Tryz.ntmps60;go_wp2_with (fail);go_loopw [5] (fun v wr=>∃ k:Nat,v=.int .i64 k/\k<=n/\Hid (∀ k',k'<k->x.count (k':Int)=1)/\Hid (Ext w wr)) (fun v _=>n-(intOf v).toNat)
  case atStart=>exact⟨0,rfl,by omega,fun k' h=>by omega,Ext.rf _⟩
  case round =>
   obtain⟨wo,rfl⟩:∃ wo:World,wo=wr:=⟨_,rfl⟩;obtain⟨k,rfl,hk,HK,Y⟩:=hrel
   by_cases hkn:k<n
   ·have q1:(k:Int)<(n:Int):=by omega
    go_wp2_with (fail);go_loopw [7,6] (fun v fv wr=>∃ j:Nat,v=.int .i64 j/\fv=.int .i64 ((x.take j).count (k:Int):Nat)/\j<=n/\Hid (Ext w wr)) (fun v _ _=>n-(intOf v).toNat)
    case atStart=>exact⟨0,rfl,by rw[List.take_zero,List.count_nil];rfl,by omega,Y⟩
    case round =>
     obtain⟨wi,rfl⟩:∃ wi:World,wi=wr:=⟨_,rfl⟩;obtain⟨j,rfl,rfl,hj,YI⟩:=hrel;have hcl:=List.count_le_length (a:=(k:Int)) (l:=x.take j);rw[List.length_take] at hcl
     by_cases hjn:j<n
     ·have q2:(j:Int)<(n:Int):=by omega
      obtain⟨pb',po,y,rfl,_,cx,ey,_⟩:=(hP.out.ext YI.out).at (k:=j) (by rw[hlen.out];exact hjn);have HC:Hid ((x.take (j+1)).count (k:Int)=(x.take j).count (k:Int)+if y=(k:Int) then 1 else 0):=Hd (by
       rw[List.take_add_one,ey.out,List.count_append];simp[List.count_cons])
      clear ey;generalize (x.take j).count (k:Int)=cn at *
      by_cases hyk:y=(k:Int)
      ·subst hyk
       rw[if_pos rfl] at HC;go_wp2_with (fail);go_roundw
       case rel=>exact⟨j+1,by go_num,by rw[HC.out];go_num,by omega,YI⟩
       case measure=>simp[intOf];omega
      ·have HC2:Hid ((x.take (j+1)).count (k:Int)=cn):=by
        have h:=HC.out;rw[if_neg hyk] at h;exact h
       clear HC;have t2:(y==(k:Int))=false:=by rw[beq_eq_false_iff_ne];exact hyk
       go_wp2_with (fail);go_roundw
       case rel=>exact⟨j+1,by go_num,by rw[HC2.out],by omega,YI⟩
       case measure=>simp[intOf];omega
     ·have q2:¬(j:Int)<(n:Int):=by omega
      have e1:x.take j=x:=List.take_of_length_le (by rw[hlen.out];omega);rw[e1];clear e1 hcl
      by_cases hc1:x.count (k:Int)=1
      ·have HK2:Hid (∀ k',k'<k+1->x.count (k':Int)=1):=fun k' h=>by
        by_cases e:k'=k
        ·subst e;exact hc1
        ·exact HK.out k' (by omega)
       rw[hc1];clear hc1;go_wp2_with (fail);go_roundw
       case rel=>exact⟨k+1,by go_num,by omega,HK2,YI⟩
       case measure=>simp[intOf];omega
      ·have R:=PB.out false (by
        constructor
        ·intro h;cases h
        ·intro h;exact absurd (h k hkn) hc1)
       have t3:(((x.count (k:Int):Nat):Int) != 1)=true:=by
        rw[bne_iff_ne];omega
       replace hc1:=Hd hc1;generalize x.count (k:Int)=cn at *;go_wp2_with (fail);go_ret;exact⟨by first | rfl | (rw[R];rfl),YI.out⟩
   ·have q1:¬(k:Int)<(n:Int):=by omega
    have R:=PB.out true ⟨fun _ k' h=>HK.out k' (by omega),fun _=>rfl⟩;go_wp2_with (fail);go_ret;exact⟨by first | rfl | (rw[R];rfl),Y.out⟩
 ·have PB:Xa x n=false:=by
   unfold Xa;exact decide_eq_false fun h=>hl h.1
  have ne0:((x.length:Int) != (n:Int))=true:=by rw[bne_iff_ne];omega
  rw[PB];replace hl:=Hd hl;go_enter Tryz.func60,Tryz.ntmps60;go_wp2_with (fail);go_ret;exact⟨rfl,by(repeat (first | assumption | exact Ext.rf _ | apply Ext.drew | apply Ext.drewN | apply Ext.alloc))⟩
theorem U2 : ∀ {r x:List Int},r.Nodup->(∀ y∈r,y∈x)->r.length=x.length->r.Perm x
 | [],x,_,_,hl=>by rw[List.eq_nil_of_length_eq_zero hl.symm]
 | a::r,x,hd,hs,hl=>by
  obtain⟨h1,h2⟩:=List.nodup_cons.1 hd;have ha:a∈x:=hs a (by simp);have hp:=List.perm_cons_erase ha;have ih:=U2 (r:=r) (x:=x.erase a) h2 (fun y hy=>by
   have hne:y≠a:=fun e=>h1 (e ▸ hy)
   exact(List.mem_erase_of_ne hne).2 (hs y (by simp[hy]))) (by
   have:=hp.length_eq;simp only[List.length_cons] at this hl;omega)
  exact(ih.cons a).trans hp.symm
theorem J5 {k:Int} : ∀ {l:List Int},l.Nodup->k∈l->l.count k=1
 | [],_,h=>by cases h
 | x::l,hd,h=>by
  have hd':=List.nodup_cons.1 hd
  by_cases e:x=k
  ·subst e
   rw[List.count_cons_self,List.count_eq_zero.2 hd'.1]
  ·rw[List.count_cons_of_ne e]
   rcases List.mem_cons.1 h with h | h
   ·exact absurd h.symm e
   ·exact J5 hd'.2 h
theorem Wf {x:List Int}{n:Nat} : Xa x n=true↔∃ l:List Nat,x=Zd l/\l.Perm (List.range n):=by
 unfold Xa;rw[decide_eq_true_iff]
 constructor
 ·rintro ⟨h1,h2⟩
  have hsub:Zd (List.range n) ⊆ x:=fun y hy=>by
   obtain⟨k,hk,rfl⟩:=List.mem_map.1 hy;have:=h2 k (List.mem_range.1 hk);exact List.count_pos_iff.1 (by omega)
  have hnd:(Zd (List.range n)).Nodup:=by
   unfold Zd;refine List.pairwise_map.2 (List.nodup_range.imp ?_);intro a b hab e;exact hab (by omega)
  have hp:(Zd (List.range n)).Perm x:=U2 hnd (fun y hy=>hsub hy) (by rw[Zg,List.length_range];omega);refine⟨x.map Int.toNat,?_,?_⟩
  ·unfold Zd
   rw[List.map_map];refine(List.map_id x).symm.trans (List.map_congr_left fun y hy=>?_);obtain⟨k,_,rfl⟩:=List.mem_map.1 (hp.mem_iff.2 hy);simp
  ·have:=hp.symm.map Int.toNat
   refine this.trans ?_;unfold Zd;rw[List.map_map];have e:(List.range n).map (Int.toNat ∘ fun n:Nat=>(n:Int))=List.range n:=by
    refine(List.map_congr_left fun k _=>?_).trans (List.map_id _);simp
   rw[e]
 ·rintro ⟨l,rfl,hl⟩
  refine⟨by rw[Zg,hl.length_eq,List.length_range],fun k hk=>?_⟩;have h1:(Zd l).Perm (Zd (List.range n)):=hl.map _;rw[h1.count_eq];have hm:(k:Int)∈Zd (List.range n):=List.mem_map.2 ⟨k,List.mem_range.2 hk,rfl⟩;have hnd:(Zd (List.range n)).Nodup:=by
   unfold Zd;refine List.pairwise_map.2 (List.nodup_range.imp ?_);intro a b hab e;exact hab (by omega)
  exact J5 hnd hm
theorem ZdH (i:InstP)(us:List Value)(P:Option Addr)(c:Nat)(x:List Int)(w:World)(H:RInst w us i)(hc:Zh i=0)(hk:i.kind=1)(hP:RdI w P x)(lx:(x.length:Int)=i.n)(hbad:¬∀ v∈x,v=0\/v=1) :
  Calls Tryz.prog 27 #[.agg (List.toArray us),.slice P x.length c] w fun e w'=>e=.returned (.tuple #[.int .i64 0,.int .i64 1])/\Ext w w':=by
 have CH:=fun(W:World) (x:Ext w W)=>YW i us W (H.ext x)
 rw[hc] at CH;have ok:=ZR hc hk;have k1:=ok.n1;have k2:=ok.n2;have k3:=ok.w;have k4:=ok.v;have k5:=ok.cap;have k6:=Hd ok.sw;have k7:=Hd ok.sv;clear ok hc;obtain⟨kind,nn,cap,xw,xv,co⟩:=i;obtain⟨A,a,B,b,D,d,rfl,⟨rA,iA,lA,mA⟩,⟨rB,iB,lB,mB⟩,-⟩:=H;simp only at *;subst hk;obtain⟨n,rfl⟩:∃ n:Nat,nn=(n:Int):=⟨nn.toNat,by omega⟩;have lxn:x.length=n:=by omega
 have lwn:xw.length=n:=by omega
 have lvn:xv.length=n:=by omega
 have hn2:n<=64:=by omega
 replace lwn:=Hd lwn;replace lvn:=Hd lvn;replace lxn:=Hd lxn;clear lx k3 k4;have W1:∀ k v u,x[k]?=some v->xw[k]?=some u->Zr (x.take (k+1)) xw=Zr (x.take k) xw+if v=1 then u else 0:=fun k v u h1 h2=>YV _ k x xw h1 h2
 have V1:∀ k v u,x[k]?=some v->xv[k]?=some u->ZE (x.take (k+1)) xv=ZE (x.take k) xv+if v=1 then 0 else u:=fun k v u h1 h2=>YV _ k x xv h1 h2
 replace W1:=Hd W1;replace V1:=Hd V1;replace CH:=Hd CH;replace rA:=Hd rA;replace rB:=Hd rB;replace hP:=Hd hP;replace mA:=Hd mA;replace mB:=Hd mB;replace iA:=Hd iA;replace iB:=Hd iB;replace hbad:=Hd hbad;have B1:Hid (Blk (w.alloc (.cells #[.int .i64 1,.int .i64 n,.int .i64 cap,.slice A xw.length a,.slice B xv.length b,.slice D co.length d] 25)) w.heap.size 25 #[.int .i64 1,.int .i64 n,.int .i64 cap,.slice A xw.length a,.slice B xv.length b,.slice D co.length d]):=.new rfl;have lz:=List.take_length (l:=x);have bW:∀ k,k<=n->0<=Zr (x.take k) xw/\Zr (x.take k) xw<=2147483647*(k:Int):=by
  intro k
  induction k with
  | zero=>intro _;simp[Zr,Zj]
  | succ k ih =>
   intro hk;have h0:=ih (by omega);have h8:k<x.length:=by rw[lxn.out];omega
   have e1:x[k]?=some x[k]:=List.getElem?_eq_getElem h8;have h9:k<xw.length:=by rw[lwn.out];omega
   have e2:xw[k]?=some xw[k]:=List.getElem?_eq_getElem h9;have h1:=W1.out k _ _ e1 e2;have h2:=k6.out.get e2;rw[h1];split<;>omega
 have bV:∀ k,k<=n->0<=ZE (x.take k) xv/\ZE (x.take k) xv<=2147483647*(k:Int):=by
  intro k
  induction k with
  | zero=>intro _;simp[ZE,Zj]
  | succ k ih =>
   intro hk;have h0:=ih (by omega);have h8:k<x.length:=by rw[lxn.out];omega
   have e1:x[k]?=some x[k]:=List.getElem?_eq_getElem h8;have h9:k<xv.length:=by rw[lvn.out];omega
   have e2:xv[k]?=some xv[k]:=List.getElem?_eq_getElem h9;have h1:=V1.out k _ _ e1 e2;have h2:=k7.out.get e2;rw[h1];split<;>omega
 replace bW:=Hd bW;replace bV:=Hd bV;clear lz;go_enter Tryz.func27,Tryz.ntmps27;go_wp2_with (fail);refine(CH.out _ (by(repeat (first | assumption | exact Ext.rf _ | apply Ext.drew | apply Ext.drewN | apply Ext.alloc)))).mono ?_;rintro e w1 ⟨rfl,x1⟩;have X1:=Hd (Ext.tr (a:=w) (by(repeat (first | assumption | exact Ext.rf _ | apply Ext.drew | apply Ext.drewN | apply Ext.alloc))) x1);have BB:=Hd (B1.out.ext x1);have d0:=BB.out.c0;have d1:=BB.out.c1;have zb:=BB.out.lt;clear x1;have exn:(x.length:Int)=(n:Int):=by rw[lxn.out]
 have d2:=BB.out.c2;have d3:=BB.out.c3;have d4:=BB.out.c4;go_wp2_with (fail);go_loopw [9,10,11] (fun a b i wr=>∃ k:Nat,i=.int .i64 k/\a=.int .i64 (Zr (x.take k) xw)/\b=.int .i64 (ZE (x.take k) xv)/\k<=n/\Hid (∀ j y,j<k->x[j]?=some y->y=0\/y=1)/\Ext w1 wr) (fun _ _ i _=>n-(intOf i).toNat)
 case atStart=>exact⟨0,rfl,rfl,rfl,by omega,(fun j y h=>by omega),Ext.rf _⟩
 case round =>
  obtain⟨wo,rfl⟩:∃ wo:World,wo=wr:=⟨_,rfl⟩;obtain⟨k,rfl,rfl,rfl,hk,HG,Y⟩:=hrel;have e1:=Zc Y zb d1;have e2:=Zc Y zb d2;have e3:=Zc Y zb d3;have e4:=Zc Y zb d4;obtain⟨tw1,tw2⟩:=bW.out k hk;obtain⟨tv1,tv2⟩:=bV.out k hk
  by_cases hlt:k<n
  ·obtain⟨pb,po,y,rfl,zy,cy,ey,_⟩:=(hP.out.ext (X1.out.tr Y)).at (k:=k) (by rw[lxn.out];exact hlt)
   obtain⟨ab,ao,u,rfl,zu,cu,eu,_⟩:=(rA.out.ext (X1.out.tr Y)).at (k:=k) (by rw[lwn.out];exact hlt);obtain⟨vb,vo,v,rfl,zv,cv,ev,_⟩:=(rB.out.ext (X1.out.tr Y)).at (k:=k) (by rw[lvn.out];exact hlt);have sW:=Hd (W1.out k y u ey.out eu.out);have sV:=Hd (V1.out k y v ey.out ev.out);have bu:=k6.out.get eu.out;have bv:=k7.out.get ev.out;have q1:(k:Int)<(x.length:Int):=by omega
   have q2:(k:Int)<(xw.length:Int):=by rw[lwn.out];omega
   have q3:(k:Int)<(xv.length:Int):=by rw[lvn.out];omega
   have HGN:Hid ((y=0\/y=1)->∀ j y',j<k+1->x[j]?=some y'->y'=0\/y'=1):=fun hy j y' hj e=>by
    by_cases ej:j=k
    ·subst ej
     rw[ey.out] at e;obtain rfl:=Option.some.inj e;exact hy
    ·exact HG.out j y' (by omega) e
   obtain⟨tw,htw⟩:∃ tw,tw=Zr (x.take k) xw:=⟨_,rfl⟩;obtain⟨tv,htv⟩:∃ tv,tv=ZE (x.take k) xv:=⟨_,rfl⟩;rw[<-htw] at tw1 tw2 sW ⊢;rw[<-htv] at tv1 tv2 sV ⊢;clear ey eu ev htw htv e2
   by_cases y1:y=1
   ·subst y1
    have sW2:Hid (Zr (x.take (k+1)) xw=tw+u):=by
     have h:=sW.out;rw[if_pos rfl] at h;exact h
    have sV2:Hid (ZE (x.take (k+1)) xv=tv):=by
     have h:=sV.out;rw[if_pos rfl,Int.add_zero] at h;exact h
    have HN:=Hd (HGN.out (.inr rfl));clear sW sV HGN;have w1':IntKind.i64.wrap (tw+u)=tw+u:=IntWalk.i64_in _ (by omega);go_wp2_with (go_quiet (fail));go_roundw
    case rel=>exact⟨k+1,by go_num,by rw[sW2.out],by rw[sV2.out],by omega,HN.out,by repeat (first | exact Y | apply Ext.drewN)⟩
    case measure=>simp[intOf];omega
   by_cases y0:y=0
   ·subst y0
    have sW2:Hid (Zr (x.take (k+1)) xw=tw):=by
     have h:=sW.out;rw[if_neg (by decide),Int.add_zero] at h;exact h
    have sV2:Hid (ZE (x.take (k+1)) xv=tv+v):=by
     have h:=sV.out;rw[if_neg (by decide)] at h;exact h
    have HN:=Hd (HGN.out (.inl rfl));clear sW sV HGN y1;have w1':IntKind.i64.wrap (tv+v)=tv+v:=IntWalk.i64_in _ (by omega);go_wp2_with (go_quiet (fail));go_roundw
    case rel=>exact⟨k+1,by go_num,by rw[sW2.out],by rw[sV2.out],by omega,HN.out,by repeat (first | exact Y | apply Ext.drewN)⟩
    case measure=>simp[intOf];omega
   ·have e0:(y != 0)=true:=by simpa using y0
    have e1:(y != 1)=true:=by simpa using y1
    clear sW sV HGN;go_wp2_with (fail);go_ret2;exact⟨rfl,X1.out.tr Y⟩
  ·exfalso
   refine hbad.out fun y hy=>?_
   obtain⟨j,hj,rfl⟩:=List.mem_iff_getElem.1 hy;exact HG.out j _ (by rw[lxn.out] at hj;omega) (List.getElem?_eq_getElem hj)
theorem Zgf (i:InstP)(us:List Value)(X:Value)(w:World)(H:RInst w us i)(hc:Zh i≠0) :
  Calls Tryz.prog 27 #[.agg (List.toArray us),X] w fun e w'=>e=.returned (.tuple #[.int .i64 0,.int .i64 (Zh i)])/\Ext w w':=by
 have CH:=fun(W:World) (x:Ext w W)=>YW i us W (H.ext x)
 generalize Zh i=cc at *;have e1:(cc != 0)=true:=by simpa using hc
 obtain⟨kind,nn,cap,xw,xv,co⟩:=i;obtain⟨A,a,B,b,D,d,rfl,-,-,-⟩:=H;simp only at *;replace CH:=Hd CH;clear hc;go_enter Tryz.func27,Tryz.ntmps27;go_wp2_with (fail);refine(CH.out _ (by(repeat (first | assumption | exact Ext.rf _ | apply Ext.drew | apply Ext.drewN | apply Ext.alloc)))).mono ?_;rintro e w1 ⟨rfl,x1⟩;have X1:=Hd (Ext.tr (a:=w) (by(repeat (first | assumption | exact Ext.rf _ | apply Ext.drew | apply Ext.drewN | apply Ext.alloc))) x1);clear x1;go_wp2_with (fail);go_ret2;exact⟨rfl,X1.out⟩
theorem Zgg (i:InstP)(us:List Value)(P:Option Addr)(c m:Nat)(w:World)(H:RInst w us i)(hc:Zh i=0)(hk:i.kind=1)(hm:(m:Int)≠i.n) :
  Calls Tryz.prog 27 #[.agg (List.toArray us),.slice P m c] w fun e w'=>e=.returned (.tuple #[.int .i64 0,.int .i64 1])/\Ext w w':=by
 have CH:=fun(W:World) (x:Ext w W)=>YW i us W (H.ext x)
 rw[hc] at CH;obtain⟨kind,nn,cap,xw,xv,co⟩:=i;obtain⟨A,a,B,b,D,d,rfl,-,-,-⟩:=H;simp only at *;subst hk;have e1:((m:Int) != nn)=true:=by simpa using hm
 have B1:Hid (Blk (w.alloc (.cells #[.int .i64 1,.int .i64 nn,.int .i64 cap,.slice A xw.length a,.slice B xv.length b,.slice D co.length d] 25)) w.heap.size 25 #[.int .i64 1,.int .i64 nn,.int .i64 cap,.slice A xw.length a,.slice B xv.length b,.slice D co.length d]):=.new rfl;replace CH:=Hd CH;clear hc hm;go_enter Tryz.func27,Tryz.ntmps27;go_wp2_with (fail);refine(CH.out _ (by(repeat (first | assumption | exact Ext.rf _ | apply Ext.drew | apply Ext.drewN | apply Ext.alloc)))).mono ?_;rintro e w1 ⟨rfl,x1⟩;have X1:=Hd (Ext.tr (a:=w) (by(repeat (first | assumption | exact Ext.rf _ | apply Ext.drew | apply Ext.drewN | apply Ext.alloc))) x1);have BB:=Hd (B1.out.ext x1);have d0:=BB.out.c0;have d1:=BB.out.c1;clear x1;go_wp2_with (fail);go_ret2;exact⟨rfl,X1.out⟩
theorem ZaX (i:InstP)(us:List Value)(P:Option Addr)(c:Nat)(x:List Int)(w:World)(H:RInst w us i)(hc:Zh i=0)(hk:i.kind≠1)(hP:RdI w P x)(hno:Xa x i.cost.length=false\/Xa x i.cost.length=true/\i.kind=3/\x[0]?≠some 0) :
  Calls Tryz.prog 27 #[.agg (List.toArray us),.slice P x.length c] w fun e w'=>e=.returned (.tuple #[.int .i64 0,.int .i64 1])/\Ext w w':=by
 have CH:=fun(W:World) (x:Ext w W)=>YW i us W (H.ext x)
 rw[hc] at CH;have sq:=Zp hc hk;have rok:=ZF sq;have n1:=rok.n1;have hin:i.n=(i.cost.length:Int):=sq.len.symm;have PG:=fun(W:World) (y:Ext w W)=>Zht P c i.cost.length x W (hP.ext y) (by have:=rok.n2;omega)
 have LX:Xa x i.cost.length=true->x.length=i.cost.length:=fun h=>by
  obtain⟨l,rfl,hl⟩:=Wf.1 h;rw[Zg,hl.length_eq,List.length_range]
 clear sq rok;obtain⟨kind,nn,cap,xw,xv,co⟩:=i;obtain⟨A,a,B,b,D,d,rfl,-,-,-⟩:=H;simp only at *;subst hin;have e1:(kind != 1)=true:=by simpa using hk
 have B1:Hid (Blk (w.alloc (.cells #[.int .i64 kind,.int .i64 co.length,.int .i64 cap,.slice A xw.length a,.slice B xv.length b,.slice D co.length d] 25)) w.heap.size 25 #[.int .i64 kind,.int .i64 co.length,.int .i64 cap,.slice A xw.length a,.slice B xv.length b,.slice D co.length d]):=.new rfl;replace CH:=Hd CH;replace PG:=Hd PG;replace hP:=Hd hP;replace LX:=Hd LX;clear hc;go_enter Tryz.func27,Tryz.ntmps27;go_wp2_with (fail);refine(CH.out _ (by(repeat (first | assumption | exact Ext.rf _ | apply Ext.drew | apply Ext.drewN | apply Ext.alloc)))).mono ?_;rintro e w1 ⟨rfl,x1⟩;have X1:=Hd (Ext.tr (a:=w) (by(repeat (first | assumption | exact Ext.rf _ | apply Ext.drew | apply Ext.drewN | apply Ext.alloc))) x1);have BB:=Hd (B1.out.ext x1);have d0:=BB.out.c0;have d1:=BB.out.c1;clear x1;rcases hno with hno | ⟨hyes,hk3,hx0⟩
 ·rw[hno] at PG
  go_wp2_with (fail);refine(PG.out _ X1.out).mono ?_;rintro e w2 ⟨rfl,x2⟩;have X2:=Hd (X1.out.tr x2);clear x2;go_wp2_with (fail);go_ret2;exact⟨rfl,X2.out⟩
 ·have hl:=LX.out hyes
  obtain⟨pb,po,x0,rfl,zp0,cp0,ep0,_⟩:=hP.out.at (k:=0) (by omega);have e0:(x0 != 0)=true:=by
   rw[bne_iff_ne];rintro rfl;exact hx0 ep0.out
  replace cp0:w.cell? ⟨pb,po,none⟩=some (.int .i64 x0):=cp0;have e3:(kind==3)=true:=by simpa using hk3
  have q0:(0:Int)<(x.length:Int):=by omega
  rw[hyes] at PG;replace hk3:=Hd hk3;replace hl:=Hd hl;clear hx0 ep0;go_wp2_with (fail);refine(PG.out _ X1.out).mono ?_;rintro e w2 ⟨rfl,x2⟩;have X2:=Hd (X1.out.tr x2);have u0:w2.cell? ⟨w.heap.size,0,none⟩=some (.int .i64 kind):=(BB.out.ext x2).cell 0;have u1:w2.cell? ⟨pb,po,none⟩=some (.int .i64 x0):=Zc X2.out zp0 cp0;clear x2 d0 d1;go_wp2_with (fail);go_ret2;exact⟨rfl,X2.out⟩
def ZJ (i:InstP)(x:List Int) : Int×Int :=
 if Zh i≠0 then(0,Zh i)
 else if i.kind=1 then(if (x.length:Int)=i.n/\∀ v∈x,v=0\/v=1 then QV i.cap i.weight i.value x else(0,1))
 else if Xa x i.cost.length=true/\(i.kind=3->x[0]?=some 0) then(if i.kind=2 then Zv i.cost x else ZC i.cost 0 (x.tail.map Int.toNat),0) else(0,1)
theorem Zgh (i:InstP)(us:List Value)(P:Option Addr)(c:Nat)(x:List Int)(w:World)(H:RInst w us i)(hP:RdI w P x) :
  Calls Tryz.prog 27 #[.agg (List.toArray us),.slice P x.length c] w fun e w'=>e=.returned (.tuple #[.int .i64 (ZJ i x).1,.int .i64 (ZJ i x).2])/\Ext w w':=by
 unfold ZJ
 by_cases hc:Zh i=0
 ·rw[if_neg (by simpa using hc)]
  by_cases hk:i.kind=1
  ·rw[if_pos hk]
   by_cases hl:(x.length:Int)=i.n
   ·by_cases h01:∀ v∈x,v=0\/v=1
    ·rw[if_pos ⟨hl,h01⟩]
     exact ZbK i us P c x w H hc hk hP hl h01
    ·rw[if_neg (fun h=>h01 h.2)]
     exact ZdH i us P c x w H hc hk hP hl h01
   ·rw[if_neg (fun h=>hl h.1)]
    exact Zgg i us P c x.length w H hc hk hl
  ·rw[if_neg hk]
   by_cases hp:Xa x i.cost.length=true
   ·obtain⟨l,rfl,hl⟩:=Wf.1 hp
    have hll:l.length=i.cost.length:=by rw[hl.length_eq,List.length_range]
    have hlen:(Zd l).length=i.cost.length:=by rw[Zg,hll]
    have n1:=(ZF (Zp hc hk)).n1;rcases ZU hc with h | h | h
    ·exact absurd h hk
    ·rw[if_pos ⟨hp,fun h3=>by omega⟩,if_pos h,hlen]
     exact ZbF i us P c l w H hc h hP hl
    ·by_cases h0:(Zd l)[0]?=some 0
     ·rw[if_pos ⟨hp,fun _=>h0⟩,if_neg (by omega),hlen]
      cases l with
      | nil=>simp at hll;omega
      | cons a q =>
       obtain rfl:a=0:=by
        simp[Zd] at h0;omega
       have e:(Zd (0::q)).tail.map Int.toNat=q:=by
        simp[Zd,Function.comp_def]
       rw[e];exact ZbH i us P c q w H hc h hP hl
     ·rw[if_neg (fun h9=>h0 (h9.2 h))]
      exact ZaX i us P c _ w H hc hk hP (.inr ⟨hp,h,h0⟩)
   ·rw[if_neg (fun h=>hp h.1)]
    exact ZaX i us P c x w H hc hk hP (.inl (by simpa using hp))
 ·rw[if_pos hc]
  exact Zgf i us _ w H hc
theorem QI (x v:Int)(p vs:List Int) : ZE (x::p) (v::vs)=(if x=1 then 0 else v)+ZE p vs:=by simp[ZE,Zj]
theorem U3 (x w:Int)(p ws:List Int) : Zr (x::p) (w::ws)=(if x=1 then w else 0)+Zr p ws:=by simp[Zr,Zj]
theorem JL : ∀ (ws vs p:List Int) (room out:Int),p.length=ws.length->ws.length=vs.length->(∀ x∈p,x=0\/x=1)->(∀ w∈ws,0<=w)->Zr p ws<=room->Yq room out ws vs<=out+ZE p vs
 | [],[],p,room,out,h,_,_,_,_=>by
  have:p=[]:=List.eq_nil_of_length_eq_zero (by simpa using h);subst this;simp[Yq,ZE,Zj]
 | [],_::_,_,_,_,_,h,_,_,_=>by simp at h
 | _::_,[],_,_,_,_,h,_,_,_=>by simp at h
 | _::_,_::_,[],_,_,h,_,_,_,_=>by simp at h
 | w::ws,v::vs,x::p,room,out,h1,h2,h3,h4,h5=>by
  rw[U3] at h5;rw[QI];have hw:=h4 w (by simp);have hp:0<=Zr p ws:=by
   unfold Zr;refine XU fun z hz=>?_
   obtain⟨k,hk,rfl⟩:=List.mem_iff_getElem.1 hz;rw[List.getElem_zipWith];have:=h4 _ (List.mem_cons_of_mem _ (List.getElem_mem (show k<ws.length by simp at hk;omega)));split<;>omega
  have i0:=JL ws vs p room (out+v) (by simpa using h1) (by simpa using h2) (fun y hy=>h3 y (by simp[hy])) (fun y hy=>h4 y (by simp[hy]));have i1:=JL ws vs p (room-w) out (by simpa using h1) (by simpa using h2) (fun y hy=>h3 y (by simp[hy])) (fun y hy=>h4 y (by simp[hy]));rcases h3 x (by simp) with rfl | rfl
  ·rw[if_neg (show ¬(0:Int)=1 by decide)] at h5 ⊢
   have:=i0 (by omega);unfold Yq;split
   ·split<;>omega
   ·omega
  ·rw[if_pos rfl] at h5 ⊢
   have:=i1 (by omega);unfold Yq;rw[if_pos (show w<=room by omega)];split<;>omega
theorem ZaY : ∀ (ws vs:List Int) (room out:Int),ws.length=vs.length->0<=room->∃ p:List Int,p.length=ws.length/\(∀ x∈p,x=0\/x=1)/\Zr p ws<=room/\Yq room out ws vs=out+ZE p vs
 | [],[],room,out,_,h0=>⟨[],rfl,by simp,by simpa [Zr,Zj] using h0,by simp[Yq,ZE,Zj]⟩
 | [],_::_,_,_,h,_=>by simp at h
 | _::_,[],_,_,h,_=>by simp at h
 | w::ws,v::vs,room,out,h,h0=>by
  obtain⟨p0,a1,a2,a3,a4⟩:=ZaY ws vs room (out+v) (by simpa using h) h0;have no:∃ p:List Int,p.length=(w::ws).length/\(∀ x∈p,x=0\/x=1)/\Zr p (w::ws)<=room/\Yq room (out+v) ws vs=out+ZE p (v::vs) :=
   ⟨0::p0,by simp[a1],fun x hx=>by
    rcases List.mem_cons.1 hx with h | h
    ·exact .inl h
    ·exact a2 x h,by rw[U3,if_neg (by decide)];omega,by rw[QI,if_neg (by decide)];omega⟩
  unfold Yq
  by_cases hw:w<=room
  ·rw[if_pos hw]
   obtain⟨p1,b1,b2,b3,b4⟩:=ZaY ws vs (room-w) out (by simpa using h) (by omega);split
   ·exact no
   ·exact⟨1::p1,by simp[b1],fun x hx=>by
     rcases List.mem_cons.1 hx with h | h
     ·exact .inr h
     ·exact b2 x h,by rw[U3,if_pos rfl];omega,by rw[QI,if_pos rfl];omega⟩
  ·rw[if_neg hw]
   exact no
theorem ZbV (f:Int->Int->Int){l:List Nat}{n:Nat}(hp:l.Perm (List.range n)){y w:List Int}(ly:y.length=n)(lw:w.length=n) : Zj (List.zipWith f (Zx l y) (Zx l w))=Zj (List.zipWith f y w):=by
 rw[Wl f y w (by omega),ly,<-Xp (hp.map _)];unfold Zx;rw[List.zipWith_map]
 congr 1
 apply List.ext_getElem
 ·simp
 ·intro k h1 h2
  simp
def Xx (i:InstP) : Int:=if i.kind=1 then XG i.cap i.weight i.value i.n.toNat [] else bxI i []
theorem ZfC {i:InstP}(hc:Zh i=0) : bxI i []=Xx i:=by
 unfold Xx
 by_cases h:i.kind=1
 ·rw[if_pos h]
  have ok:=ZR hc h;obtain⟨f1,f2,f3,f4,f5⟩:=Ur ok;have hv:∀ x∈i.value,0<=x:=fun x hx=>(ok.sv x hx).1
  have hn:i.weight.length=i.n.toNat:=by have:=ok.w;omega
  have hnv:i.value.length=i.n.toNat:=by have:=ok.v;omega
  have hperm:(ZS i).Perm (List.range i.n.toNat):=by
   have:=WQ i.value i.weight;rw[hnv] at this;exact this
  have hwl:(wsP i).length=i.n.toNat:=by omega
  obtain⟨L1,L2⟩:=V6 (cap:=i.cap) (ws:=i.weight) (n:=i.n.toNat) hv i.n.toNat [] (by simp) (by simp);have e:bxI i []=Yq i.cap 0 (wsP i) (vsP i):=by
   unfold bxI;rw[if_pos h];unfold W6;have:stP i.cap 0 (wsP i) (vsP i) []=some (i.cap,0):=by cases wsP i<;>cases vsP i<;>rfl
   rw[this]
   rfl
  rw[e];obtain⟨p,p1,p2,p3,p4⟩:=ZaY (wsP i) (vsP i) i.cap 0 f1 ok.cap.1;have T:=QW (fun x w=>if x=1 then w else 0) hperm (p:=p) (w:=i.weight) (by omega) hn;have V:=QW (fun x w=>if x=1 then 0 else w) hperm (p:=p) (w:=i.value) (by omega) hnv;have E1:Zcp i.n.toNat [] (Jr (ZS i) p i.n.toNat):=⟨⟨_,rfl⟩,by rw[QU,hperm.length_eq,List.length_range],Zfl p2 _⟩;have T':Zr (Jr (ZS i) p i.n.toNat) i.weight=Zr p (wsP i):=T;have V':ZE (Jr (ZS i) p i.n.toNat) i.value=ZE p (vsP i):=V;have B1:=L2 _ E1 (by omega);rw[V'] at B1;have low:∀ y,Zcp i.n.toNat [] y->Zr y i.weight<=i.cap->Yq i.cap 0 (wsP i) (vsP i)<=ZE y i.value:=fun y hy ht=>by
   have t1:=ZbV (fun x w=>if x=1 then w else 0) hperm (y:=y) (w:=i.weight) hy.2.1 hn;have t2:=ZbV (fun x w=>if x=1 then 0 else w) hperm (y:=y) (w:=i.value) hy.2.1 hnv;have h01:∀ x∈Zx (ZS i) y,x=0\/x=1:=fun x hx=>by
    obtain⟨k,hk,rfl⟩:=List.mem_map.1 hx;have:k<y.length:=by rw[hy.2.1];exact List.mem_range.1 (hperm.mem_iff.1 hk)
    rw[List.getD,List.getElem?_eq_getElem this];exact hy.2.2 _ (List.getElem_mem this)
   have t1':Zr (Zx (ZS i) y) (wsP i)=Zr y i.weight:=t1;have t2':ZE (Zx (ZS i) y) (vsP i)=ZE y i.value:=t2;have:=JL (wsP i) (vsP i) (Zx (ZS i) y) i.cap 0 (by rw[Yb];have:=hperm.length_eq;rw[List.length_range] at this;omega) f1 h01 f3 (by omega);omega
  rcases L1 with L1 | ⟨y,y1,y2,y3⟩
  ·omega
  ·have:=low y y1 y2
   omega
 ·rw[if_neg h]
theorem ZdI {i:InstP}(hc:Zh i=0){x:List Int}(hx:(ZJ i x).2=0) : Xx i<=(ZJ i x).1:=by
 have e0:(ZJ i x).2=0:=hx;unfold ZJ at hx ⊢;rw[if_neg (by simpa using hc)] at hx ⊢
 by_cases h:i.kind=1
 ·rw[if_pos h] at hx ⊢
  have ok:=ZR hc h;split at hx
  ·rename_i hx1
   rw[if_pos hx1];unfold QV at hx ⊢;split at hx
   ·simp at hx
   ·rename_i hcap
    rw[if_neg hcap];unfold Xx;rw[if_pos h];have hv:∀ x∈i.value,0<=x:=fun x hx=>(ok.sv x hx).1
    obtain⟨_,L2⟩:=V6 (cap:=i.cap) (ws:=i.weight) (n:=i.n.toNat) hv i.n.toNat [] (by simp) (by simp);exact(L2 x ⟨⟨x,rfl⟩,by omega,hx1.2⟩ (by omega)).2
  ·simp at hx
 ·rw[if_neg h] at hx ⊢
  have sq:=Zp hc h;have rok:=ZF sq;split at hx
  ·rename_i hx1
   rw[if_pos hx1];unfold Xx bxI;rw[if_neg h,if_neg h];obtain⟨l,rfl,hl⟩:=Wf.1 hx1.1
   by_cases h2:i.kind=2
   ·rw[if_pos h2,if_pos h2]
    have:=ZaH rok.n2 (fun row hr c hc=>(rok.get hr hc).1) i.cost.length [] _ XT (by simp) l (by rw[XR (by have:=rok.n2;omega)];exact hl)
    simpa using this
   ·rw[if_neg h2,if_neg h2]
    have h3:i.kind=3:=by rcases ZU hc with h | h | h<;>omega
    obtain⟨a,q,rfl⟩:∃ a q,l=a::q:=by
     cases l with
     | nil=>have:=hx1.2 h3;simp[Zd] at this
     | cons a q=>exact⟨a,q,rfl⟩
    have ha:a=0:=by
     have:=hx1.2 h3;simp[Zd] at this;omega
    subst ha;obtain⟨l0,W⟩:=YK rok.n1 rok.n2 (YX (rows:=i.cost));have hl0:l0=[]:=by
     have:=W.eq
     cases l0 with
     | nil=>rfl
     | cons a b=>simp[Zd] at this
    subst hl0;have hq:q.Perm (Zf (Vt i.cost.length)):=by
     refine(List.perm_ext_iff_of_nodup ?_ ((Zw _).imp fun h=>Nat.ne_of_lt h)).2 fun c=>?_
     ·have:=hl.nodup_iff.2 List.nodup_range
      exact(List.nodup_cons.1 this).2
     ·have nd:=hl.nodup_iff.2 List.nodup_range
      have n0:=(List.nodup_cons.1 nd).1;rw[W.rest c];have m:=hl.mem_iff (a:=c);rw[List.mem_range,List.mem_cons] at m
      constructor
      ·intro hq
       exact⟨⟨m.1 (.inr hq),fun e=>n0 (e ▸ hq)⟩,by simp⟩
      ·rintro ⟨⟨g1,g2⟩,_⟩
       rcases m.2 g1 with g | g
       ·exact absurd g g2
       ·exact g
    have:=ZaI rok.n1 rok.n2 (fun a b ha hb=>(Zcx rok a b ha hb).1) (i.cost.length-1) [] _ _ _ [] YX W (by simp) q hq;rw[List.nil_append] at this;have e2:(Zd (0::q)).tail.map Int.toNat=q:=by
     show (Zd q).map Int.toNat=q;exact Z8 q
    rw[e2]
    simpa using this
  ·simp at hx
def orP (m:Nat) : List Nat->Nat
 | []=>m
 | x::l=>orP (m ||| 2^x) l
theorem Zcy : ∀ (l:List Nat) (m j:Nat),(orP m l).testBit j=(m.testBit j || decide (j∈l))
 | [],m,j=>by simp[orP]
 | x::l,m,j=>by
  rw[orP,Zcy l,Nat.testBit_or,Nat.testBit_two_pow]
  by_cases e:x=j
  ·subst e;simp
  ·have e':¬j=x:=fun h=>e h.symm
   simp[e,e']
theorem ZdJ : ∀ (l:List Nat) (m x:Nat),orP m (l++[x])=orP m l ||| 2^x
 | [],m,x=>rfl
 | y::l,m,x=>by rw[List.cons_append,orP,ZdJ l,orP]
theorem Zi0 {l:List Nat}(h:∀ x∈l,x<64) : orP 0 l<18446744073709551616:=by
 refine Nat.lt_pow_two_of_testBit (n:=64) _ fun i hi=>?_
 rw[Zcy];simp;intro hm;have:=h i hm;omega
theorem Zhu {l:List Nat}{n:Nat}(h:l.Perm (List.range n)) : orP 0 l=2^n-1:=by
 refine Nat.eq_of_testBit_eq fun j=>?_
 rw[Zcy,Nat.testBit_two_pow_sub_one];have:j∈l↔j<n:=by rw[h.mem_iff,List.mem_range]
 simp[this]
theorem Zin (x y:Int)(u:World) : (Op.equalIn 10000 141 (.agg #[.int .u64 x,.int .u64 0]) (.agg #[.int .u64 y,.int .u64 0])).run Tryz.prog u=.ok (x==y) u:=by
 unfold Op.equalIn;simp only[Sem.run_bind,run_underlying Tryz.underlying141,Result.andThen_ok];have e9:List.range' 0 2 1=[0,1]:=rfl;simp only[Std.Legacy.Range.forIn_eq_forIn_range',Std.Legacy.Range.size,Nat.sub_zero,Nat.add_one_sub_one,Nat.div_one,e9,List.forIn_cons,List.forIn_nil]
 by_cases hx:x=y
 ·subst hx
  go_simp
 ·have hx':(x==y)=false:=by simpa using hx
  go_simp
theorem Zgi (A:Option Addr)(c:Nat)(l:List Nat)(hl:∀ x∈l,x<64)(hn:l.length<=1000)(w:World)(hA:RdI w A (Zd l)) :
  Calls Tryz.prog 133 #[.slice A l.length c] w fun e w'=>e=.returned (setV (orP 0 l))/\Ext w w':=by
 have B0:Hid (Blk ((w.alloc (.cells #[.int .u64 0,.int .u64 0] 141)).alloc (.cells #[.int .u64 0,.int .u64 0] 141)) w.heap.size 141 #[.int .u64 0,.int .u64 0]):=Blk.alloc (.new rfl) _;have B1:Hid (Blk ((w.alloc (.cells #[.int .u64 0,.int .u64 0] 141)).alloc (.cells #[.int .u64 0,.int .u64 0] 141)) (w.heap.size+1) 141 #[.int .u64 ((orP 0 (l.take 0):Nat):Int),.int .u64 0]):=.new (by simp);have X0:Hid (Ext w ((w.alloc (.cells #[.int .u64 0,.int .u64 0] 141)).alloc (.cells #[.int .u64 0,.int .u64 0] 141))):=((Ext.rf w).alloc _).alloc _;have WI:=fun(m i:Nat) (h:m<18446744073709551616) (hi:i<64) (W:World)=>Zdk m i h hi W
 unfold setV at WI ⊢;replace WI:=Hd WI;replace hA:=Hd hA;replace hl:=Hd hl;go_enter Tryz.func133,Tryz.ntmps133;go_wp2_with (fail);go_loopw [8] (fun i wr=>∃ k:Nat,i=.int .i64 k/\k<=l.length/\Hid (Blk wr (w.heap.size+1) 141 #[.int .u64 ((orP 0 (l.take k):Nat):Int),.int .u64 0])/\Hid (Blk wr w.heap.size 141 #[.int .u64 0,.int .u64 0])/\Hid (Ext w wr)) (fun i _=>l.length-(intOf i).toNat)
 case atStart=>exact⟨0,rfl,by omega,B1,B0,X0⟩
 case round =>
  clear B0 B1 X0;obtain⟨wo,rfl⟩:∃ wo:World,wo=wr:=⟨_,rfl⟩;obtain⟨k,rfl,hk,B1,B0,X0⟩:=hrel
  by_cases hlt:k<l.length
  ·obtain⟨b,off,x,rfl,zb,cx,ex,_⟩:=(hA.out.ext X0.out).at (k:=k) (by rw[Zg];exact hlt)
   obtain⟨y,hy⟩:∃ y,Hid (l[k]?=some y):=⟨l[k],List.getElem?_eq_getElem hlt⟩;obtain rfl:x=(y:Int):=by
    have h1:=ex.out;simp only[Zd,List.getElem?_map,hy.out,Option.map_some,Option.some.injEq] at h1;exact h1.symm
   have hy64:=hl.out y (List.mem_of_getElem? hy.out);have hm:=Zi0 (l:=l.take k) (fun x hx=>hl.out x (List.mem_of_mem_take hx));have HS:orP 0 (l.take (k+1))=orP 0 (l.take k) ||| 2^y:=by
    rw[List.take_add_one,hy.out];exact ZdJ _ _ _
   have HW:=Hd (WI.out (orP 0 (l.take k)) y hm hy64);rw[<-HS] at HW;clear HS hm hy64 ex;generalize orP 0 (l.take k)=m at *;obtain⟨m2,hm2⟩:∃ m2,Hid (orP 0 (l.take (k+1))=m2):=⟨_,rfl⟩;rw[hm2.out] at HW;have c0:=B1.out.c0;have c1:=B1.out.c1;have q1:(k:Int)<(l.length:Int):=by omega
   go_wp2_with (fail);refine(HW.out _).mono ?_;rintro e w1 ⟨rfl,x1⟩;have b1:=B1.out.ext x1;have d0:=b1.c0;have d1:=b1.c1;have f0:=b1.free 0;have f1:=b1.free 1;have B1':=Hd ((b1.set 0 (.int .u64 m2)).set 1 (.int .u64 0));have B0':=Hd (((B0.out.ext x1).far (p:=⟨w.heap.size+1,0,none⟩) (by simp) (.int .u64 m2)).far (p:=⟨w.heap.size+1,1,none⟩) (by simp) (.int .u64 0));have X1:=Hd (((X0.out.tr x1).setNew (p:=⟨w.heap.size+1,0,none⟩) (by simp) (.int .u64 m2)).setNew (p:=⟨w.heap.size+1,1,none⟩) (by simp) (.int .u64 0));clear b1 x1 B0 B1 X0 c0 c1;go_wp2_with (fail);go_roundw
   case rel=>exact⟨k+1,by go_num,by omega,by rw[hm2.out];exact B1',B0',X1⟩
   case measure=>simp[intOf];omega
  ·obtain rfl:k=l.length:=by omega
   rw[List.take_length] at B1;obtain⟨m,hm⟩:∃ m,Hid (orP 0 l=m):=⟨_,rfl⟩;rw[hm.out] at B1;have c0:=B1.out.c0;have c1:=B1.out.c1;have r0:=B0.out.c0;have r1:=B0.out.c1;have g0:=B0.out.free 0;have g1:=B0.out.free 1;go_wp2_with (fail);refine bodyPost_ret (v:=.agg #[.int .u64 m,.int .u64 0]) (by simp[results,Tryz.results133,go_sem, *]) rfl ⟨by rw[hm.out],?_⟩;exact(X0.out.setNew (p:=⟨w.heap.size,0,none⟩) (by simp) _).setNew (p:=⟨w.heap.size,1,none⟩) (by simp) _
theorem ZbW (A:Option Addr)(c n:Nat)(l:List Nat)(hl:l.Perm (List.range n))(hn:n<64)(w:World)(hA:RdI w A (Zd l)) :
  Calls Tryz.prog 79 #[.slice A n c,.int .i64 n] w fun e w'=>e=.returned (.bool true)/\Ext w w':=by
 have lk:l.length=n:=by rw[hl.length_eq,List.length_range]
 have OF:=fun(W:World) (x:Ext w W)=>Zgi A c l (fun x hx=>by have:=List.mem_range.1 (hl.mem_iff.1 hx);omega) (by omega) W (hA.ext x)
 have FU:=fun(W:World)=>Zc4 n hn W
 rw[Zhu hl,lk] at OF;clear lk hl hA;unfold setV at OF FU;generalize 2^n-1=m at *;have EQ:=fun u:World=>Zin (m:Int) (m:Int) u
 simp only[beq_self_eq_true] at EQ;have en:((n:Int)==(n:Int))=true:=by simp
 replace OF:=Hd OF;replace FU:=Hd FU;go_enter Tryz.func79,Tryz.ntmps79;go_wp2_with (fail);refine(OF.out _ (by(repeat (first | assumption | exact Ext.rf _ | apply Ext.drew | apply Ext.drewN | apply Ext.alloc)))).mono ?_;rintro e w1 ⟨rfl,x1⟩;go_wp2_with (fail);refine(FU.out _).mono ?_;rintro e w2 ⟨rfl,x2⟩;have X2:=Hd (Ext.tr (Ext.tr (a:=w) (by(repeat (first | assumption | exact Ext.rf _ | apply Ext.drew | apply Ext.drewN | apply Ext.alloc))) x1) x2);clear x1 x2;go_wp2_with (fail);go_ret;exact⟨rfl,X2.out⟩
def U4 (rows:List (List Int))(l:List Nat)(k:Nat) : Int:=Zj ((List.range k).map fun j=>Za rows j (l.getD j 0))
theorem ZeT (rows:List (List Int))(l:List Nat)(k:Nat) : U4 rows l (k+1)=U4 rows l k+Za rows k (l.getD k 0):=by
 unfold U4;rw[List.range_succ,List.map_append,WR];simp[Zj]
theorem ZeU (i:InstP)(us:List Value)(P:Option Addr)(c:Nat)(l:List Nat)(w:World)(H:RInst w us i)(hc:Zh i=0)(hk:i.kind=2)(hP:RdI w P (Zd l))(hl:l.Perm (List.range i.cost.length)) :
  Calls Tryz.prog 41 #[.agg (List.toArray us),.slice P i.cost.length c] w fun e w'=>e=.returned (.tuple #[.int .i64 (Zv i.cost (Zd l)),.int .i64 0])/\Ext w w':=by
 have sq:=Zp hc (by omega);have rok:=ZF sq;have CH:=fun(W:World) (x:Ext w W)=>YM i us W (H.ext x) (by rw[sq.w];simp) (by rw[sq.v];simp)
 have lk:l.length=i.cost.length:=by rw[hl.length_eq,List.length_range]
 have OY:=fun(W:World) (x:Ext w W)=>ZbW P c i.cost.length l hl (by have:=rok.n2;omega) W (hP.ext x)
 have CF:Hid (Zv i.cost (Zd l)=U4 i.cost l i.cost.length):=Hd (by rw[XV lk.symm,lk];rfl);have hln:=sq.len;rw[hc] at CH;obtain⟨kind,nn,cap,xw,xv,co⟩:=i;obtain⟨A,a,B,b,D,d,rfl,-,-,hC,-⟩:=H;simp only at *;subst hk;have n1:=rok.n1;have n2:=rok.n2;obtain⟨n,hn⟩:∃ n,co.length=n:=⟨_,rfl⟩;rw[hn] at CH OY CF lk hln hl n1 n2 ⊢;have lt:∀ k,k<n->l.getD k 0<n:=fun k hk=>by
  have h1:l[k]?=some (l[k]'(by omega)):=List.getElem?_eq_getElem _;rw[getD_some h1];exact List.mem_range.1 (hl.mem_iff.1 (List.getElem_mem _))
 have CA:=fun(W:World) (x:Ext w W) (r c:Nat) (hr:r<n) (hc:c<n)=>XQ rok (hC.ext x fun _ _ h=>h.ext x) (r:=r) (c:=c) (by omega) (by omega)
 rw[hn] at CA;have EB:=fun r c (hr:r<n) (hc:c<n)=>Yl rok r c (by omega) (by omega)
 have B1:Hid (Blk (w.alloc (.cells #[.int .i64 2,.int .i64 nn,.int .i64 cap,.slice A xw.length a,.slice B xv.length b,.slice D n d] 25)) w.heap.size 25 #[.int .i64 2,.int .i64 nn,.int .i64 cap,.slice A xw.length a,.slice B xv.length b,.slice D n d]):=.new rfl;subst hln;replace CH:=Hd CH;replace OY:=Hd OY;replace CA:=Hd CA;replace EB:=Hd EB;replace hP:=Hd hP;replace lk:=Hd lk;replace lt:=Hd lt;replace hn:=Hd hn;clear hc hl hC rok sq;go_enter Tryz.func41,Tryz.ntmps41;go_wp2_with (fail);refine(CH.out _ (by(repeat (first | assumption | exact Ext.rf _ | apply Ext.drew | apply Ext.drewN | apply Ext.alloc)))).mono ?_;rintro e w1 ⟨rfl,x1⟩;have X1:=Hd (Ext.tr (a:=w) (by(repeat (first | assumption | exact Ext.rf _ | apply Ext.drew | apply Ext.drewN | apply Ext.alloc))) x1);have b1:=Hd (B1.out.ext x1);have t0:=b1.out.c0;have t1:=b1.out.c1;clear x1 B1;go_wp2_with (fail);refine(OY.out _ (X1.out.tr (by(repeat (first | assumption | exact Ext.rf _ | apply Ext.drew | apply Ext.drewN | apply Ext.alloc))))).mono ?_;rintro e w2 ⟨rfl,x2⟩;have X2:=Hd (X1.out.tr (Ext.tr (by(repeat (first | assumption | exact Ext.rf _ | apply Ext.drew | apply Ext.drewN | apply Ext.alloc))) x2));have b2:=Hd (b1.out.ext (Ext.tr (by(repeat (first | assumption | exact Ext.rf _ | apply Ext.drew | apply Ext.drewN | apply Ext.alloc))) x2));have s0:=b2.out.c0;clear x2 b1 X1 t0 t1;go_wp2_with (fail);go_loopw [7,44] (fun sv i wr=>∃ k:Nat,i=.int .i64 k/\sv=.int .i64 (U4 co l k)/\k<=n/\Hid (0<=U4 co l k/\U4 co l k<=k*2147483647)/\Hid (Ext w2 wr)) (fun _ i _=>n-(intOf i).toNat)
 case atStart=>exact⟨0,rfl,rfl,by omega,⟨Int.le_refl _,by simp[U4,Zj]⟩,Ext.rf _⟩
 case round =>
  clear s0;obtain⟨wo,rfl⟩:∃ wo:World,wo=wr:=⟨_,rfl⟩;obtain⟨k,rfl,rfl,hk,BD,X3⟩:=hrel
  by_cases hlt:k<n
  ·obtain⟨y,hy⟩:∃ y,Hid (l.getD k 0=y):=⟨_,rfl⟩
   have yn:y<n:=by rw[<-hy.out];exact lt.out k hlt
   obtain⟨pb,po,x,rfl,zp,cp,ex,_⟩:=((hP.out.ext X2.out).ext X3.out).at (k:=k) (by rw[Zg,lk.out];exact hlt);obtain rfl:x=(y:Int):=by
    have h1:=ex.out;have h2:l[k]?=some (l[k]'(by rw[lk.out];exact hlt)):=List.getElem?_eq_getElem _;have h3:=hy.out;rw[getD_some h2] at h3;simp only[Zd,List.getElem?_map,h2,Option.map_some,Option.some.injEq,h3] at h1;exact h1.symm
   obtain⟨cb,cof,rb,ro,d',rfl,k1,k2⟩:=CA.out wo (X2.out.tr X3.out) k y hlt yn;have eb:=EB.out k y hlt yn;have HK:Hid (U4 co l (k+1)=U4 co l k+Za co k y):=Hd (by rw[ZeT,hy.out]);have b3:=b2.out.ext X3.out;have s0:=b3.c0;have s5:=b3.c5;obtain⟨b0,b1⟩:=BD.out;generalize U4 co l k=su at *;generalize Za co k y=cv at *;have wv:IntKind.i64.wrap (su+cv)=su+cv:=IntWalk.i64_in _ (by omega);have q1:(k:Int)<(n:Int):=by omega
   have q2:(y:Int)<(n:Int):=by omega
   have bd2:0<=su+cv/\su+cv<=((k+1:Nat):Int)*2147483647:=by omega
   replace bd2:=Hd bd2;clear b0 b1 eb BD b3 ex;go_wp2_with (fail);go_roundw
   case rel=>exact⟨k+1,by go_num,by rw[HK.out],by omega,by rw[HK.out];exact bd2,X3.out.tr (by(repeat (first | assumption | exact Ext.rf _ | apply Ext.drew | apply Ext.drewN | apply Ext.alloc)))⟩
   case measure=>simp[intOf];omega
  ·obtain rfl:k=n:=by omega
   go_wp2_with (fail);go_ret2;exact⟨by rw[CF.out];rfl,X2.out.tr X3.out⟩
theorem ZeV (i:InstP)(us:List Value)(P:Option Addr)(c:Nat)(q:List Nat)(w:World)(H:RInst w us i)(hc:Zh i=0)(hk:i.kind=3)(hP:RdI w P (Zd (0::q)))(hl:(0::q).Perm (List.range i.cost.length)) :
  Calls Tryz.prog 41 #[.agg (List.toArray us),.slice P i.cost.length c] w fun e w'=>e=.returned (.tuple #[.int .i64 (ZC i.cost 0 q),.int .i64 0])/\Ext w w':=by
 have sq:=Zp hc (by omega);have rok:=ZF sq;have CH:=fun(W:World) (x:Ext w W)=>YM i us W (H.ext x) (by rw[sq.w];simp) (by rw[sq.v];simp)
 have OY:=fun(W:World) (x:Ext w W)=>ZbW P c i.cost.length (0::q) hl (by have:=rok.n2;omega) W (hP.ext x)
 rw[hc] at CH;have hnn:i.n=(i.cost.length:Int):=sq.len.symm;have hlt:Hid (∀ x∈0::q,x<i.cost.length):=fun x hx=>List.mem_range.1 (hl.mem_iff.1 hx)
 have hlen:Hid ((0::q).length=i.cost.length):=Hd (by rw[hl.length_eq,List.length_range]);have n24:=rok.n2;have n1:=rok.n1;clear hl hc sq;obtain⟨kind,nn,cap,xw,xv,co⟩:=i;obtain⟨A,a,B,b,D,d,rfl,-,-,hC,-⟩:=H;simp only at *;subst hk hnn;obtain⟨cb,cof,_,_,_,rfl,_,_⟩:=XQ rok hC (r:=0) (c:=0) (by omega) (by omega);have num:=Yl rok;have CA:=Hd (fun(W:World) (x:Ext w W) (r c:Nat) (hr:r<co.length) (hc:c<co.length)=>Qj rok (hC.ext x fun _ _ h=>h.ext x) hr hc);obtain⟨tot,htot⟩:∃ tot,Hid (ZC co 0 q=tot):=⟨_,rfl⟩;rw[htot.out];have bt:0<=tot/\tot<=2147483647*24:=by
  have h1:=Vv num q 0 (by omega) fun x hx=>hlt.out x (by simp[hx])
  have h2:=hlen.out;rw[List.length_cons] at h2;rw[htot.out] at h1;omega
 have START:Hid ((0:Int)+Z9 co ((0::q).drop 0)=tot):=Hd (by rw[<-htot.out];simp[Z9]);obtain⟨l,hll⟩:∃ l,Hid (0::q=l):=⟨_,rfl⟩;have h00:Hid (l[0]?=some 0):=Hd (by rw[<-hll.out];rfl);rw[hll.out] at hP hlt hlen START;obtain⟨pb,po,x0,rfl,zp0,cp0,ep0,_⟩:=hP.at (k:=0) (by rw[Zg,hlen.out];omega);obtain rfl:x0=0:=by
  have h:=ep0.out;rw[UW h00.out] at h;exact(Option.some.inj h).symm
 replace cp0:w.cell? ⟨pb,po,none⟩=some (.int .i64 0):=cp0;have DR:Hid (∀ k,k<co.length->∃ u,l[k]?=some u/\u<co.length/\l.drop k=u::l.drop (k+1)):=fun k hk=>by
  have h:k<l.length:=by rw[hlen.out];exact hk
  exact⟨l[k],List.getElem?_eq_getElem h,hlt.out _ (List.getElem_mem h),List.drop_eq_getElem_cons h⟩
 replace CH:=Hd CH;replace OY:=Hd OY;replace hP:=Hd hP;replace hC:=Hd hC;replace rok:=Hd rok;replace num:=Hd num;have B1:Hid (Blk (w.alloc (.cells #[.int .i64 3,.int .i64 co.length,.int .i64 cap,.slice A xw.length a,.slice B xv.length b,.slice (some ⟨cb,cof,none⟩) co.length d] 25)) w.heap.size 25 #[.int .i64 3,.int .i64 co.length,.int .i64 cap,.slice A xw.length a,.slice B xv.length b,.slice (some ⟨cb,cof,none⟩) co.length d]):=.new rfl;have q00:(0:Int)<(co.length:Int):=by omega
 clear ep0;go_enter Tryz.func41,Tryz.ntmps41;go_wp2_with (fail);refine(CH.out _ (by(repeat (first | assumption | exact Ext.rf _ | apply Ext.drew | apply Ext.drewN | apply Ext.alloc)))).mono ?_;rintro e w1 ⟨rfl,x1⟩;have X1:=Hd (Ext.tr (a:=w) (by(repeat (first | assumption | exact Ext.rf _ | apply Ext.drew | apply Ext.drewN | apply Ext.alloc))) x1);have b1:=Hd (B1.out.ext x1);have t0:=b1.out.c0;have t1:=b1.out.c1;clear x1 B1;go_wp2_with (fail);refine(OY.out _ (X1.out.tr (by(repeat (first | assumption | exact Ext.rf _ | apply Ext.drew | apply Ext.drewN | apply Ext.alloc))))).mono ?_;rintro e w2 ⟨rfl,x2⟩;have X2:=Hd (X1.out.tr (Ext.tr (by(repeat (first | assumption | exact Ext.rf _ | apply Ext.drew | apply Ext.drewN | apply Ext.alloc))) x2));have BC:=Hd (b1.out.ext (Ext.tr (by(repeat (first | assumption | exact Ext.rf _ | apply Ext.drew | apply Ext.drewN | apply Ext.alloc))) x2));have s0:=BC.out.c0;have e2:w2.cell? ⟨pb,po,none⟩=some (.int .i64 0):=Zc X2.out zp0 cp0;clear x2 b1 X1 t0 t1;go_wp2_with (fail);go_loopw [7,44] (fun s v wr=>∃ (k:Nat) (su:Int),v=.int .i64 k/\s=.int .i64 su/\k<=co.length/\Hid (0<=su/\su+Z9 co (l.drop k)=tot)/\Hid (Ext w2 wr)) (fun _ v _=>co.length-(intOf v).toNat)
 case atStart=>exact⟨0,0,rfl,rfl,by omega,by exact(show (0:Int)<=0/\(0:Int)+Z9 co (l.drop 0)=tot from⟨by omega,START.out⟩),Ext.rf _⟩
 case round =>
  clear s0;obtain⟨wo,rfl⟩:∃ wo:World,wo=wr:=⟨_,rfl⟩;obtain⟨k,su,rfl,rfl,hk,HS,Y⟩:=hrel;have s0:wo.cell? ⟨w.heap.size,0,none⟩=some (.int .i64 3):=(BC.out.ext Y.out).cell 0;have d1:wo.cell? ⟨w.heap.size,1,none⟩=some (.int .i64 co.length):=(BC.out.ext Y.out).cell 1;have d5:wo.cell? ⟨w.heap.size,5,none⟩=some (.slice (some ⟨cb,cof,none⟩) co.length d):=(BC.out.ext Y.out).cell 5;have XW:=Hd (X2.out.tr Y.out);clear e2 START
  by_cases hkl:k<co.length
  ·obtain⟨u,ek,hun,edr⟩:=DR.out k hkl
   obtain⟨pb',po',xu,hPq,zpk,cpk,epk,_⟩:=(hP.out.ext XW.out).at (k:=k) (by rw[Zg,hlen.out];exact hkl);obtain⟨rfl,rfl⟩:pb=pb'/\po=po':=by simpa using hPq
   obtain rfl:xu=(u:Int):=by
    have h:=epk.out;rw[UW ek] at h;exact(Option.some.inj h).symm
   have HS1:=HS.out;rw[edr] at HS1;have q1:(k:Int)<(co.length:Int):=by omega
   have q2:(u:Int)<(co.length:Int):=by omega
   have hw0:IntKind.i64.wrap ((k:Int)+1)=(k:Int)+1:=IntWalk.i64_in _ (by omega);clear ek edr hPq epk HS
   by_cases hlast:k+1=co.length
   ·have e1:l.drop (k+1)=[]:=List.drop_of_length_le (by rw[hlen.out];omega)
    rw[e1] at HS1;obtain⟨rb,ro,d',c1,c2⟩:=CA.out _ XW.out u 0 hun (by omega);have nu:=num.out u 0 hun (by omega);obtain⟨y,hy⟩:∃ y,Hid (Za co u 0=y):=⟨_,rfl⟩;simp only[Z9,ZC] at HS1;rw[hy.out] at c2 nu HS1;replace c2:wo.cell? ⟨rb,ro,none⟩=some (.int .i64 y):=c2;have hrem:((k:Int)+1).tmod (co.length:Int)=0:=by
     have h:(k:Int)+1=(co.length:Int):=by omega
     rw[h,Int.tmod_self]
    have hw1:IntKind.i64.wrap 0=0:=IntWalk.i64_in _ (by omega);have hw:IntKind.i64.wrap (su+y)=su+y:=IntWalk.i64_in _ (by omega);have p0:wo.cell? ⟨pb,po,none⟩=some (.int .i64 0):=Zc XW.out zp0 cp0;have NEW:Hid (0<=su+y/\su+y+Z9 co (l.drop (k+1))=tot):=Hd (by
     rw[e1];simp only[Z9];omega)
    have hnz:((co.length:Int)==0)=false:=by rw[beq_eq_false_iff_ne];omega
    clear HS1 e1;replace hlast:=Hd hlast;go_wp2_with (fail);go_quiet (fail);go_wp2_with (fail);go_roundw
    case rel=>exact⟨k+1,su+y,by go_num,rfl,by omega,NEW,Y.out.drewN _⟩
    case measure=>simp[intOf];omega
   ·have hk1:k+1<co.length:=by omega
    obtain⟨v,ek1,hvn,edr1⟩:=DR.out (k+1) hk1;obtain⟨pb',po',xu,hPq,zpk1,cpk1,epk1,_⟩:=(hP.out.ext XW.out).at (k:=k+1) (by rw[Zg,hlen.out];exact hk1);obtain⟨rfl,rfl⟩:pb=pb'/\po=po':=by simpa using hPq
    obtain rfl:xu=(v:Int):=by
     have h:=epk1.out;rw[UW ek1] at h;exact(Option.some.inj h).symm
    rw[edr1] at HS1;obtain⟨rb,ro,d',c1,c2⟩:=CA.out _ XW.out u v hun hvn;have nu:=num.out u v hun hvn;obtain⟨y,hy⟩:∃ y,Hid (Za co u v=y):=⟨_,rfl⟩;simp only[Z9,ZC] at HS1;rw[hy.out] at c2 nu HS1;have hpp:=(Vv num.out (l.drop (k+1+1)) v hvn fun x hx=>hlt.out x (List.mem_of_mem_drop hx)).1;have hrem:((k:Int)+1).tmod (co.length:Int)=((k+1:Nat):Int):=by
     rw[Int.tmod_eq_emod_of_nonneg (by omega),Int.emod_eq_of_lt (by omega) (by omega)];omega
    have hw1:IntKind.i64.wrap ((k+1:Nat):Int)=((k+1:Nat):Int):=IntWalk.i64_in _ (by omega);have hw:IntKind.i64.wrap (su+y)=su+y:=IntWalk.i64_in _ (by omega);have NEW:Hid (0<=su+y/\su+y+Z9 co (l.drop (k+1))=tot):=Hd (by
     rw[edr1];simp only[Z9];omega)
    have q3:(v:Int)<(co.length:Int):=by omega
    have q4:((k+1:Nat):Int)<(co.length:Int):=by omega
    have hnz:((co.length:Int)==0)=false:=by rw[beq_eq_false_iff_ne];omega
    clear HS1 edr1 ek1 hPq epk1 hpp;replace hlast:=Hd hlast;go_wp2_with (fail);go_quiet (fail);go_wp2_with (fail);go_roundw
    case rel=>exact⟨k+1,su+y,by go_num,rfl,by omega,NEW,Y.out.drewN _⟩
    case measure=>simp[intOf];omega
  ·have q1:¬(k:Int)<(co.length:Int):=by omega
   have HS2:Hid (su=tot):=by
    have h:=HS.out.2;rw[List.drop_of_length_le (by rw[hlen.out];omega)] at h;simp only[Z9] at h;have h2:su=tot:=by omega
    exact h2
   go_wp2_with (fail);go_ret2;rw[HS2.out];exact⟨rfl,XW.out⟩
theorem ZeW (i:InstP)(us:List Value)(w:World)(H:RInst w us i)(hc:Zh i=0)(hk:i.kind=3)(h12:i.n<=12) :
  Calls Tryz.prog 80 #[.agg (List.toArray us),.int .i64 3] w fun e w'=>e=.returned (.int .i64 0)/\Ext w w':=by
 have sq:=Zp hc (by omega);have CH:=fun(W:World) (x:Ext w W)=>YM i us W (H.ext x) (by rw[sq.w];simp) (by rw[sq.v];simp)
 rw[hc] at CH;obtain⟨kind,nn,cap,xw,xv,co⟩:=i;obtain⟨A,a,B,b,D,d,rfl,-,-,-⟩:=H;simp only at *;subst hk;have B1:Hid (Blk (w.alloc (.cells #[.int .i64 3,.int .i64 nn,.int .i64 cap,.slice A xw.length a,.slice B xv.length b,.slice D co.length d] 25)) w.heap.size 25 #[.int .i64 3,.int .i64 nn,.int .i64 cap,.slice A xw.length a,.slice B xv.length b,.slice D co.length d]):=.new rfl;replace CH:=Hd CH;clear hc sq;have hq:¬12<nn:=by omega
 go_enter Tryz.func80,Tryz.ntmps80;go_wp2_with (fail);refine(CH.out _ (by(repeat (first | assumption | exact Ext.rf _ | apply Ext.drew | apply Ext.drewN | apply Ext.alloc)))).mono ?_;rintro e w1 ⟨rfl,x1⟩;have X1:=Hd (Ext.tr (a:=w) (by(repeat (first | assumption | exact Ext.rf _ | apply Ext.drew | apply Ext.drewN | apply Ext.alloc))) x1);have b1:=Hd (B1.out.ext x1);have t0:=b1.out.c0;have t1:=b1.out.c1;clear x1 B1;go_wp2_with (fail);go_ret;exact⟨rfl,X1.out.tr (by(repeat (first | assumption | exact Ext.rf _ | apply Ext.drew | apply Ext.drewN | apply Ext.alloc)))⟩
theorem Zgj (i:InstP)(us:List Value)(P:Option Addr)(c:Nat)(q:List Nat)(w:World)(H:RInst w us i)(hc:Zh i=0)(hk:i.kind=3)(hP:RdI w P (Zd (0::q)))(hl:(0::q).Perm (List.range i.cost.length)) :
  Calls Tryz.prog 83 #[.agg (List.toArray us),.slice P i.cost.length c] w fun e w'=>e=.returned (.tuple #[.slice P i.cost.length c,.int .i64 (ZC i.cost 0 q),.int .i64 0])/\Ext w w':=by
 have VC:=fun(W:World) (x:Ext w W)=>ZeV i us P c q W (H.ext x) hc hk (hP.ext x) hl
 obtain⟨kind,nn,cap,xw,xv,co⟩:=i;obtain⟨A,a,B,b,D,d,rfl,-,-,-⟩:=H;simp only at *;generalize ZC co 0 q=cc at *;replace VC:=Hd VC;clear hc hk hP hl;go_enter Tryz.func83,Tryz.ntmps83;go_wp2_with (fail);refine(VC.out _ (by(repeat (first | assumption | exact Ext.rf _ | apply Ext.drew | apply Ext.drewN | apply Ext.alloc)))).mono ?_;rintro e w1 ⟨rfl,x1⟩;have X1:=Hd (Ext.tr (a:=w) (by(repeat (first | assumption | exact Ext.rf _ | apply Ext.drew | apply Ext.drewN | apply Ext.alloc))) x1);clear x1;go_wp2_with (fail);go_ret3;exact⟨rfl,X1.out.tr (by(repeat (first | assumption | exact Ext.rf _ | apply Ext.drew | apply Ext.drewN | apply Ext.alloc)))⟩
theorem Zhv : ∀ {l:List Int},Small31 l->0<=Zj l/\Zj l<=(l.length:Int)*2147483647
 | [],_=>by simp[Zj]
 | x::l,h=>by
  have ih:=Zhv (l:=l) fun y hy=>h y (by simp[hy])
  have h1:=h x (by simp);simp only[Zj,List.length_cons];omega
theorem ZeX {l:List Int}(h:Small31 l)(k:Nat) : 0<=Zj (l.take k)/\Zj (l.take k)<=(l.length:Int)*2147483647:=by
 have h1:=Zhv (l:=l.take k) fun y hy=>h y (List.mem_of_mem_take hy)
 rw[List.length_take] at h1;omega
theorem ZaZ {l:List Int}{k:Nat}{x:Int}(h:l[k]?=some x) : Zj (l.take (k+1))=Zj (l.take k)+x:=by
 rw[List.take_add_one,h,WR];simp[Zj]
theorem ZdK : ∀ (x vs:List Int),Small31 vs->0<=ZE x vs/\ZE x vs<=(vs.length:Int)*2147483647
 | [],vs,_=>by
  simp only[ZE,List.zipWith_nil_left,Zj];omega
 | _::_,[],_=>by simp[ZE,Zj]
 | a::x,v::vs,h=>by
  have ih:=ZdK x vs fun y hy=>h y (by simp[hy])
  have h1:=h v (by simp);simp only[ZE,List.zipWith_cons_cons,Zj,List.length_cons] at *;split<;>omega
def ofG (i:InstP)(c:Int) : Int:=if i.kind=1 then Zj i.value-c else c
theorem ZeY (i:InstP)(us:List Value)(w:World)(H:RInst w us i)(hc:Zh i=0)(hk:i.kind=1) :
  Calls Tryz.prog 59 #[.agg (List.toArray us)] w fun e w'=>e=.returned (.int .i64 (Zj i.value))/\Ext w w':=by
 have ok:=ZR hc hk;have CH:=fun(W:World) (x:Ext w W)=>YW i us W (H.ext x)
 rw[hc] at CH;have k2:=ok.n2;have k3:=ok.v;have k1:=ok.n1;have T1:Hid (∀ k v,i.value[k]?=some v->Zj (i.value.take (k+1))=Zj (i.value.take k)+v):=fun k v h=>ZaZ h
 have TB:=Hd (ZeX ok.sv);have hs:=Hd ok.sv;clear ok hc;obtain⟨kind,nn,cap,xw,xv,co⟩:=i;obtain⟨A,a,B,b,D,d,rfl,-,⟨rB,-⟩,-⟩:=H;simp only at *;subst hk;obtain⟨n,rfl⟩:∃ n:Nat,nn=(n:Int):=⟨nn.toNat,by omega⟩;have lv:xv.length=n:=by omega
 have B1:Hid (Blk (w.alloc (.cells #[.int .i64 1,.int .i64 n,.int .i64 cap,.slice A xw.length a,.slice B xv.length b,.slice D co.length d] 25)) w.heap.size 25 #[.int .i64 1,.int .i64 n,.int .i64 cap,.slice A xw.length a,.slice B xv.length b,.slice D co.length d]):=.new rfl;have hn2:n<=64:=by omega
 replace lv:=Hd lv;replace CH:=Hd CH;replace rB:=Hd rB;clear k3 k1 k2;go_enter Tryz.func59,Tryz.ntmps59;go_wp2_with (fail);refine(CH.out _ (by(repeat (first | assumption | exact Ext.rf _ | apply Ext.drew | apply Ext.drewN | apply Ext.alloc)))).mono ?_;rintro e w1 ⟨rfl,x1⟩;have X1:=Hd (Ext.tr (a:=w) (by(repeat (first | assumption | exact Ext.rf _ | apply Ext.drew | apply Ext.drewN | apply Ext.alloc))) x1);have BB:=Hd (B1.out.ext x1);clear x1 B1;go_wp2_with (fail);go_loopw [3,4] (fun a i wr=>∃ k:Nat,i=.int .i64 k/\a=.int .i64 (Zj (xv.take k))/\k<=n/\Hid (Ext w1 wr)) (fun _ i _=>n-(intOf i).toNat)
 case atStart=>exact⟨0,rfl,rfl,by omega,Ext.rf _⟩
 case round =>
  obtain⟨wo,rfl⟩:∃ wo:World,wo=wr:=⟨_,rfl⟩;obtain⟨k,rfl,rfl,hk,Y⟩:=hrel;have b9:=BB.out.ext Y.out;have d0:=b9.c0;have d1:=b9.c1;have d4:=b9.c4;clear b9
  by_cases hlt:k<n
  ·obtain⟨pb,po,y,rfl,zy,cy,ey,_⟩:=(rB.out.ext (X1.out.tr Y.out)).at (k:=k) (by rw[lv.out];exact hlt)
   have S:=Hd (T1.out k y ey.out);have b1:=TB.out k;have b2:=hs.out.get ey.out;have q2:(k:Int)<(xv.length:Int):=by rw[lv.out];omega
   have b3:(xv.length:Int)<=64:=by rw[lv.out];omega
   generalize Zj (xv.take k)=tk at *;have w1':IntKind.i64.wrap (tk+y)=tk+y:=IntWalk.i64_in _ (by omega);have q1:(k:Int)<(n:Int):=by omega
   clear ey b1 b2 b3;go_wp2_with (go_quiet (fail));go_roundw
   case rel=>exact⟨k+1,by go_num,by rw[S.out],by omega,by have Y':=Y.out;repeat (first | exact Y' | apply Ext.drewN)⟩
   case measure=>simp[intOf];omega
  ·obtain rfl:k=n:=by omega
   have lz:xv.take k=xv:=List.take_of_length_le (by rw[lv.out];omega);rw[lz];clear lz;go_wp2_with (fail);go_ret;exact⟨rfl,X1.out.tr Y.out⟩
theorem Zio (i:InstP)(us:List Value)(w:World)(c:Int)(H:RInst w us i)(hc:Zh i=0)(hb:i.kind=1->0<=c/\c<=(i.value.length:Int)*2147483647) :
  Calls Tryz.prog 26 #[.agg (List.toArray us),.int .i64 c] w fun e w'=>e=.returned (.int .i64 (ofG i c))/\Ext w w':=by
 by_cases hk:i.kind=1
 ·have ok:=ZR hc hk
  have k1:=ok.v;have k2:=ok.n2;have TT:∀ (W:World),Ext w W->Calls Tryz.prog 59 #[.agg (List.toArray us)] W fun e w'=>e=.returned (.int .i64 (Zj i.value))/\Ext W w':=fun W h=>ZeY i us W (H.ext h) hc hk
  have b1:=Zhv ok.sv;have b2:=hb hk;unfold ofG;rw[if_pos hk];clear ok hc hb;obtain⟨kind,nn,cap,xw,xv,co⟩:=i;obtain⟨A,a,B,b,D,d,rfl,-,-,-⟩:=H;simp only at *;subst hk;generalize Zj xv=sv at *;have w1:IntKind.i64.wrap (sv-c)=sv-c:=IntWalk.i64_in _ (by omega);replace TT:=Hd TT;clear b1 b2 k1;go_enter Tryz.func26,Tryz.ntmps26;go_wp2_with (fail);refine(TT.out _ (by(repeat (first | assumption | exact Ext.rf _ | apply Ext.drew | apply Ext.drewN | apply Ext.alloc)))).mono ?_;rintro e w1 ⟨rfl,x1⟩;have X1:=Hd (Ext.tr (a:=w) (by(repeat (first | assumption | exact Ext.rf _ | apply Ext.drew | apply Ext.drewN | apply Ext.alloc))) x1);clear x1;go_wp2_with (fail);go_ret;exact⟨rfl,X1.out⟩
 ·unfold ofG
  rw[if_neg hk];obtain⟨kind,nn,cap,xw,xv,co⟩:=i;obtain⟨A,a,B,b,D,d,rfl,-,-,-⟩:=H;simp only at *;have e1:(kind==1)=false:=by simpa using hk
  clear hc hb hk;go_enter Tryz.func26,Tryz.ntmps26;go_wp2_with (fail);go_ret;exact⟨rfl,by(repeat (first | assumption | exact Ext.rf _ | apply Ext.drew | apply Ext.drewN | apply Ext.alloc))⟩
theorem ZbX {x:List Int}{n:Nat}(hl:x.length=n) : Xa x n=true↔∀ (k:Nat) (v:Int),x[k]?=some v->(0<=v/\v<(n:Int))/\(x.take k).contains v=false:=by
 rw[Wf]
 constructor
 ·rintro ⟨l,rfl,hp⟩ k v hv
  have nd:=hp.nodup_iff.2 List.nodup_range;unfold Zd at hv;rw[List.getElem?_map] at hv;obtain⟨a,ha,rfl⟩:=Option.map_eq_some_iff.1 hv;have hk:=(List.getElem?_eq_some_iff.1 ha).1;have ham:=List.mem_range.1 (hp.mem_iff.1 (List.mem_of_getElem? ha));refine⟨by omega,?_⟩;have e:(Zd l).take k=Zd (l.take k):=by unfold Zd;rw[List.map_take]
  rw[e]
  cases hc:(Zd (l.take k)).contains (a:Int) with
  | false=>rfl
  | true =>
   have hm:=Qo.1 hc;obtain⟨j,hj,ej⟩:=List.getElem_of_mem hm;rw[List.length_take] at hj;rw[List.getElem_take] at ej;have:=(List.nodup_iff_pairwise_ne.1 nd);have h2:=List.pairwise_iff_getElem.1 this j k (by omega) hk (by omega);rw[ej] at h2;have h3:=(List.getElem?_eq_some_iff.1 ha).2;exact absurd h3.symm h2
 ·intro h
  have hn:∀ v∈x,0<=v/\v<(n:Int):=fun v hv=>by
   obtain⟨k,hk,rfl⟩:=List.getElem_of_mem hv;exact(h k _ (List.getElem?_eq_getElem hk)).1
  have nd:x.Pairwise (· ≠ ·):=by
   rw[List.pairwise_iff_getElem];intro a b ha hb hab e;have:=(h b _ (List.getElem?_eq_getElem hb)).2;have hm:x[b]∈x.take b:=by
    rw[<-e,List.mem_take_iff_getElem];exact⟨a,by omega,rfl⟩
   rw[<-List.contains_iff_mem] at hm;rw[hm] at this
   cases this
  have ex:x=Zd (x.map Int.toNat):=by
   unfold Zd;rw[List.map_map];refine(List.map_id x).symm.trans (List.map_congr_left fun v hv=>?_);have:=hn v hv;simp only[id,Function.comp];omega
  refine⟨x.map Int.toNat,ex,?_⟩;have sub:∀ v∈x,v∈Zd (List.range n):=fun v hv=>by
   have:=hn v hv;exact List.mem_map.2 ⟨v.toNat,List.mem_range.2 (by omega),by omega⟩
  have P:=(U2 (List.nodup_iff_pairwise_ne.2 nd) sub (by rw[Zg,List.length_range,hl])).map Int.toNat
  rwa [Z8] at P
theorem Za0 : ∀ (x vs:List Int),x.length=vs.length->Zr x vs=Zj vs-ZE x vs
 | [],[],_=>by simp[Zr,ZE,Zj]
 | [],_::_,h=>by simp at h
 | _::_,[],h=>by simp at h
 | a::x,v::vs,h=>by
  have ih:=Za0 x vs (by simpa using h);unfold Zr ZE at *;simp only[List.zipWith_cons_cons,Zj];split<;>omega
theorem Ut (A:Option Addr)(c:Nat)(xs:List Int)(n:Int)(w:World)(hA:RdI w A xs)(hl:xs.length<=1000000000) :
  Calls Tryz.prog 103 #[.slice A xs.length c,.int .i64 n] w fun e w'=>e=.returned (.bool (!xs.contains n))/\Ext w w':=by
 have Z0:Hid ((xs.take 0).contains n=false):=rfl;replace hA:=Hd hA;go_enter Tryz.func103,Tryz.ntmps103;go_wp2_with (fail);go_loopw [9] (fun v9 wr=>∃ k:Nat,v9=.int .i64 k/\k<=xs.length/\Hid ((xs.take k).contains n=false)/\Hid (Ext w wr)) (fun v _=>xs.length-(intOf v).toNat)
 case atStart=>exact⟨0,rfl,by omega,Z0,by(repeat (first | assumption | exact Ext.rf _ | apply Ext.drew | apply Ext.drewN | apply Ext.alloc))⟩
 case round =>
  obtain⟨wo,rfl⟩:∃ wo:World,wo=wr:=⟨_,rfl⟩;clear Z0;obtain⟨k,rfl,hk,hc,Y⟩:=hrel
  by_cases hlt:k<xs.length
  ·obtain⟨pb,po,y,rfl,zy,cy,ey,_⟩:=(hA.out.ext Y.out).at (k:=k) hlt
   have q1:(k:Int)<(xs.length:Int):=by omega
   by_cases hy:y=n
   ·subst hy
    have R:Hid ((!xs.contains y)=false):=Hd (by
     rw[List.contains_iff_mem.2 (List.mem_of_getElem? ey.out)];rfl)
    go_wp2_with (fail);go_ret;exact⟨Wh R.out.symm,Y.out.tr (by(repeat (first | assumption | exact Ext.rf _ | apply Ext.drew | apply Ext.drewN | apply Ext.alloc)))⟩
   ·have hy1:(y==n)=false:=by simpa using hy
    have C1:Hid ((xs.take (k+1)).contains n=false):=Hd (by
     rw[List.take_add_one,ey.out];have h1:=hc.out
     cases h2:(xs.take k++(some y).toList).contains n with
     | false=>rfl
     | true =>
      rw[List.contains_iff_mem,List.mem_append] at h2;rcases h2 with h2 | h2
      ·rw[<-List.contains_iff_mem,h1] at h2;cases h2
      ·simp at h2;exact absurd h2.symm hy)
    clear ey hc;go_wp2_with (fail);go_roundw
    case rel=>exact⟨k+1,by go_num,by omega,C1,Y.out.tr (by(repeat (first | assumption | exact Ext.rf _ | apply Ext.drew | apply Ext.drewN | apply Ext.alloc)))⟩
    case measure=>simp[intOf];omega
  ·have R:Hid ((!xs.contains n)=true):=by
    have h:(!xs.contains n)=true:=by
     have h1:=hc.out;rw[List.take_of_length_le (by omega)] at h1;rw[h1];rfl
    exact h
   go_wp2_with (fail);go_ret;exact⟨Wh R.out.symm,Y.out⟩
def KnB (w:World)(g:Nat)(cap:Int)(ws vs:List Int) : Prop:=∃ (A:Option Addr) (a:Nat) (B:Option Addr) (b:Nat),Blk w g 210 #[.int .i64 cap,.slice A ws.length a,.slice B vs.length b]/\RdI w A ws/\RdI w B vs
theorem KnB.ext {w w':World}{g:Nat}{cap:Int}{ws vs:List Int}(h:KnB w g cap ws vs)(x:Ext w w') : KnB w' g cap ws vs:=by
 obtain⟨A,a,B,b,h1,h2,h3⟩:=h;exact⟨A,a,B,b,h1.ext x,h2.ext x,h3.ext x⟩
theorem J6 (w:World)(g:Nat)(cap:Int)(ws vs:List Int)(H:KnB w g cap ws vs) :
  Calls Tryz.prog 288 #[.pointer (some ⟨g,0,none⟩)] w fun e w'=>e=.returned (.int .i64 ws.length)/\Ext w w':=by
 obtain⟨A,a,B,b,h1,-,-⟩:=H;have t1:=h1.c1;go_enter Tryz.func288,Tryz.ntmps288;go_wp2_with (fail);go_ret;exact⟨rfl,by(repeat (first | assumption | exact Ext.rf _ | apply Ext.drew | apply Ext.drewN | apply Ext.alloc))⟩
theorem ZdL {w v x room out R O:Int}{ws vs p:List Int}(h:stP room out (w::ws) (v::vs) (x::p)=some (R,O)) : (x=1/\0<=room-w/\stP (room-w) out ws vs p=some (R,O))\/(x=0/\0<=room/\stP room (out+v) ws vs p=some (R,O)):=by
 unfold stP at h;split at h
 ·rename_i hx
  split at h
  ·cases h
  ·exact .inl ⟨hx,by omega,h⟩
 ·split at h
  ·rename_i hx
   split at h
   ·cases h
   ·exact .inr ⟨hx,by omega,h⟩
  ·cases h
theorem ZfD {room out R O:Int}{ws vs:List Int}(h:stP room out ws vs []=some (R,O)) : room=R/\out=O:=by
 have h':some (room,out)=some (R,O):=by cases ws<;>cases vs<;>exact h
 injection h' with h'
 injection h' with h1 h2
 exact⟨h1,h2⟩
theorem ZbY (w:World)(g:Nat)(cap:Int)(ws vs:List Int)(H:KnB w g cap ws vs)(sw:Small31 ws)(hl:ws.length=vs.length)(hcap:0<=cap/\cap<=2147483647)(P:Option Addr)(c:Nat)(p:List Int)(hP:RdI w P p)(R O:Int)(hst:stP cap 0 ws vs p=some (R,O))(hlp:p.length<=ws.length)(h64:ws.length<=64) :
  Calls Tryz.prog 290 #[.pointer (some ⟨g,0,none⟩),.slice P p.length c] w fun e w'=>e=.returned (.int .i64 R)/\Ext w w':=by
 obtain⟨A,a,B,b,h1,rA,-⟩:=H;have t0:=h1.c0;have S0:Hid (∃ o,stP cap o (ws.drop 0) (vs.drop 0) (p.drop 0)=some (R,O)):=⟨0,hst⟩;have c1:=h1.cell 1;have z1:=h1.lt;replace h1:=Hd h1;replace rA:=Hd rA;replace hP:=Hd hP;replace sw:=Hd sw;clear hst;go_enter Tryz.func290,Tryz.ntmps290;go_wp2_with (fail);go_loopw [5,14] (fun v5 v14 wr=>∃ (k:Nat) (r:Int),v14=.int .i64 k/\v5=.int .i64 r/\k<=p.length/\0<=r/\r<=2147483647/\Hid (∃ o,stP r o (ws.drop k) (vs.drop k) (p.drop k)=some (R,O))/\Hid (Ext w wr)) (fun _ v _=>p.length-(intOf v).toNat)
 case atStart=>exact⟨0,cap,rfl,rfl,by omega,by omega,by omega,S0,by(repeat (first | assumption | exact Ext.rf _ | apply Ext.drew | apply Ext.drewN | apply Ext.alloc))⟩
 case round =>
  obtain⟨wo,rfl⟩:∃ wo:World,wo=wr:=⟨_,rfl⟩;clear S0;obtain⟨k,r,rfl,rfl,hk,r0,r1,hS,Y⟩:=hrel
  by_cases hlt:k<p.length
  ·obtain⟨pb,po,x,rfl,zx,cx,ex,dx⟩:=(hP.out.ext Y.out).at (k:=k) hlt
   obtain⟨qb,qo,u,rfl,zu,cu,eu,du⟩:=(rA.out.ext Y.out).at (k:=k) (by omega);have q1:(k:Int)<(p.length:Int):=by omega
   have q2:(k:Int)<(ws.length:Int):=by omega
   have bu:=sw.out u (List.mem_of_getElem? eu.out);have t1:wo.cell? ⟨g,1,none⟩=some (.slice (some ⟨qb,qo,none⟩) ws.length a):=Zc Y.out z1 c1;have hv:k<vs.length:=by omega
   have ST:(x=1/\0<=r-u/\Hid (∃ o,stP (r-u) o (ws.drop (k+1)) (vs.drop (k+1)) (p.drop (k+1))=some (R,O)))\/(x=0/\Hid (∃ o,stP r o (ws.drop (k+1)) (vs.drop (k+1)) (p.drop (k+1))=some (R,O))):=by
    obtain⟨o,h⟩:=hS.out;rw[dx.out,du.out,List.drop_eq_getElem_cons hv] at h;rcases ZdL h with⟨g1,g2,g3⟩ | ⟨g1,_,g3⟩
    ·exact .inl ⟨g1,g2,o,g3⟩
    ·exact .inr ⟨g1,_,g3⟩
   clear ex dx eu du hS;rcases ST with⟨rfl,g2,g3⟩ | ⟨rfl,g3⟩
   ·go_wp2_with (fail)
    go_roundw
    case rel=>exact⟨k+1,r-u,by go_num,by go_num,by omega,by omega,by omega,g3,Y.out.tr (by(repeat (first | assumption | exact Ext.rf _ | apply Ext.drew | apply Ext.drewN | apply Ext.alloc)))⟩
    case measure=>simp[intOf];omega
   ·go_wp2_with (fail)
    go_roundw
    case rel=>exact⟨k+1,r,by go_num,by go_num,by omega,by omega,by omega,g3,Y.out.tr (by(repeat (first | assumption | exact Ext.rf _ | apply Ext.drew | apply Ext.drewN | apply Ext.alloc)))⟩
    case measure=>simp[intOf];omega
  ·have E:Hid (r=R):=by
    have h:r=R:=by
     obtain⟨o,h⟩:=hS.out;rw[List.drop_of_length_le (l:=p) (i:=k) (by omega)] at h;exact(ZfD h).1
    exact h
   go_wp2_with (fail);go_ret;exact⟨ZM E.out,Y.out⟩
def Zcz (l:List Int)(w:World)(e:Ending)(w':World) : Prop:=∃ (A:Option Addr) (c:Nat),e=.returned (.slice A l.length c)/\OwI w' w.heap.size A c l/\Ext w w'
theorem ZdM {w:World}(x:Int) : OwI (w.alloc (.cells #[.int .i64 x] 3)) w.heap.size (some ⟨w.heap.size,0,none⟩) 1 [x] :=
 OwI.mk (cur:=#[.int .i64 x]) (Nat.le_refl _) (Blk.new (t:=3) (cs:=#[.int .i64 x]) rfl) (by simp) (by simp[maxLen]) rfl rfl
theorem ZdN {w:World}(x y:Int) : OwI (w.alloc (.cells #[.int .i64 x,.int .i64 y] 3)) w.heap.size (some ⟨w.heap.size,0,none⟩) 2 [x,y] :=
 OwI.mk (cur:=#[.int .i64 x,.int .i64 y]) (Nat.le_refl _) (Blk.new (t:=3) (cs:=#[.int .i64 x,.int .i64 y]) rfl) (by simp) (by simp[maxLen]) rfl rfl
theorem ZeZ (w:World)(g:Nat)(cap:Int)(ws vs:List Int)(H:KnB w g cap ws vs)(sw:Small31 ws)(hl:ws.length=vs.length)(hcap:0<=cap/\cap<=2147483647)(P:Option Addr)(c:Nat)(p:List Int)(hP:RdI w P p)(R O:Int)(hst:stP cap 0 ws vs p=some (R,O))(hlp:p.length<ws.length)(h64:ws.length<=64) :
  Calls Tryz.prog 289 #[.pointer (some ⟨g,0,none⟩),.slice P p.length c] w (Zcz (U1 cap ws p) w):=by
 have LE:=fun(W:World) (x:Ext w W)=>ZbY W g cap ws vs (H.ext x) sw hl hcap P c p (hP.ext x) R O hst (by omega) h64
 obtain⟨A,a,B,b,h1,rA,-⟩:=H;have c1:=h1.cell 1;have z1:=h1.lt;obtain⟨qb,qo,u,rfl,zu,cu,eu,du⟩:=rA.at (k:=p.length) hlp;have K:Hid (U1 cap ws p=if u<=R then [0,1] else [0]):=Hd (by
  unfold U1;rw[du.out,(W5 hst).1])
 have q1:(p.length:Int)<(ws.length:Int):=by omega
 have t1:w.cell? ⟨g,1,none⟩=some (.slice (some ⟨qb,qo,none⟩) ws.length a):=c1;obtain⟨ks,hks⟩:∃ ks:List Int,Hid ((if u<=R then [0,1] else [0])=ks):=⟨_,rfl⟩;rw[K.out,hks.out];replace LE:=Hd LE;replace hl:=Hd hl;have q0:(0:Int)<=(p.length:Int):=by omega
 clear hst h1 rA hP du eu K c1
 by_cases hu:u<=R
 ·have e1:¬R<u:=by omega
  obtain rfl:ks=[0,1]:=by have h:=hks.out;rw[if_pos hu] at h;exact h.symm
  go_enter Tryz.func289,Tryz.ntmps289;go_wp2_with (fail);go_region_held3 (fun w'=>w'.cell? ⟨g,1,none⟩=some (.slice (some ⟨qb,qo,none⟩) ws.length a)/\w'.cell? ⟨qb,qo+p.length,none⟩=some (.int .i64 u)) (go_keep)
   (first | (go_at_call 290;refine(LE.out _ (by(repeat (first | assumption | exact Ext.rf _ | apply Ext.drew | apply Ext.drewN | apply Ext.alloc)))).mono ?_;rintro e w2 ⟨rfl,x2⟩;have y2:=Ext.tr (a:=w) (by(repeat (first | assumption | exact Ext.rf _ | apply Ext.drew | apply Ext.drewN | apply Ext.alloc))) x2;have s1:=Zc y2 z1 t1;have s2:=Zc y2 zu cu))
  go_wp2_with (fail);go_ret;exact⟨some ⟨w2.heap.size,0,none⟩,2,rfl,(ZdN 0 1).more y2.size,y2.alloc _⟩
 ·have e1:R<u:=by omega
  obtain rfl:ks=[0]:=by have h:=hks.out;rw[if_neg hu] at h;exact h.symm
  go_enter Tryz.func289,Tryz.ntmps289;go_wp2_with (fail);go_region_held3 (fun w'=>w'.cell? ⟨g,1,none⟩=some (.slice (some ⟨qb,qo,none⟩) ws.length a)/\w'.cell? ⟨qb,qo+p.length,none⟩=some (.int .i64 u)) (go_keep)
   (first | (go_at_call 290;refine(LE.out _ (by(repeat (first | assumption | exact Ext.rf _ | apply Ext.drew | apply Ext.drewN | apply Ext.alloc)))).mono ?_;rintro e w2 ⟨rfl,x2⟩;have y2:=Ext.tr (a:=w) (by(repeat (first | assumption | exact Ext.rf _ | apply Ext.drew | apply Ext.drewN | apply Ext.alloc))) x2;have s1:=Zc y2 z1 t1;have s2:=Zc y2 zu cu))
  go_wp2_with (fail);go_ret;exact⟨some ⟨w2.heap.size,0,none⟩,1,rfl,(ZdM 0).more y2.size,y2.alloc _⟩
theorem ZdO (w:World)(g:Nat)(cap:Int)(ws vs:List Int)(H:KnB w g cap ws vs)(sw:Small31 ws)(sv:Small31 vs)(hl:ws.length=vs.length)(hcap:0<=cap/\cap<=2147483647)(P:Option Addr)(c:Nat)(p:List Int)(hP:RdI w P p)(R O:Int)(hst:stP cap 0 ws vs p=some (R,O))(hlp:p.length<=ws.length)(h64:ws.length<=64) :
  Calls Tryz.prog 287 #[.pointer (some ⟨g,0,none⟩),.slice P p.length c] w fun e w'=>e=.returned (.int .i64 (YO cap ws vs p).1)/\Ext w w':=by
 have LE:=fun(W:World) (x:Ext w W)=>ZbY W g cap ws vs (H.ext x) sw hl hcap P c p (hP.ext x) R O hst hlp h64
 have DE:=fun(W:World) (x:Ext w W)=>J6 W g cap ws vs (H.ext x)
 have BE:(YO cap ws vs p).1=O+UA R (ws.drop p.length) (vs.drop p.length):=by
  rw[ZdA hl hst,(W5 hst).1,(W5 hst).2]
 rw[BE];have OB:=Zak (ws:=ws) (p:=p) (room:=cap) (out:=0) (fun x hx=>sv x hx) hst;have RB:=UN (vs:=vs) (p:=p) (out:=0) (fun x hx=>(sw x hx).1) hcap.1 hst;have O1:0<=O/\O<=140000000000:=by
  have:(p.length:Int)<=64:=by omega
  have h2:2147483647*(p.length:Int)<=2147483647*64:=Int.mul_le_mul_of_nonneg_left this (by omega);omega
 have S0:Hid (∃ r,stP r 0 (ws.drop 0) (vs.drop 0) (p.drop 0)=some (R,O)):=⟨cap,hst⟩;obtain⟨TT,T0⟩:∃ TT,Hid (TT=UA R (ws.drop p.length) (vs.drop p.length)):=⟨_,rfl⟩;rw[<-T0.out];obtain⟨A,a,B,b,h1,rA,rB⟩:=H;have c1:=h1.cell 1;have c2:=h1.cell 2;have z1:=h1.lt;replace h1:=Hd h1;replace rA:=Hd rA;replace rB:=Hd rB;replace hP:=Hd hP;replace sw:=Hd sw;replace sv:=Hd sv;replace LE:=Hd LE;replace DE:=Hd DE;replace hl:=Hd hl;clear hst BE OB;go_enter Tryz.func287,Tryz.ntmps287;go_wp2_with (fail);go_loopw [5,15] (fun v5 v15 wr=>∃ (k:Nat) (o:Int),v15=.int .i64 k/\v5=.int .i64 o/\k<=p.length/\0<=o/\o<=2147483647*k/\Hid (∃ r,stP r o (ws.drop k) (vs.drop k) (p.drop k)=some (R,O))/\Hid (Ext w wr)) (fun _ v _=>p.length-(intOf v).toNat)
 case atStart=>exact⟨0,0,rfl,rfl,by omega,by omega,by omega,S0,by(repeat (first | assumption | exact Ext.rf _ | apply Ext.drew | apply Ext.drewN | apply Ext.alloc))⟩
 case round =>
  obtain⟨wo,rfl⟩:∃ wo:World,wo=wr:=⟨_,rfl⟩;clear S0;obtain⟨k,o,rfl,rfl,hk,o0,o1,hS,Y⟩:=hrel
  by_cases hlt:k<p.length
  ·obtain⟨pb,po,x,rfl,zx,cx,ex,dx⟩:=(hP.out.ext Y.out).at (k:=k) hlt
   obtain⟨qb,qo,u,rfl,zu,cu,eu,du⟩:=(rB.out.ext Y.out).at (k:=k) (by have:=hl.out;omega);have q1:(k:Int)<(p.length:Int):=by omega
   have q2:(k:Int)<(vs.length:Int):=by have:=hl.out;omega
   have bu:=sv.out u (List.mem_of_getElem? eu.out);have t1:wo.cell? ⟨g,2,none⟩=some (.slice (some ⟨qb,qo,none⟩) vs.length b):=Zc Y.out z1 c2;have hv:k<ws.length:=by omega
   have ST:(x=1/\Hid (∃ r,stP r o (ws.drop (k+1)) (vs.drop (k+1)) (p.drop (k+1))=some (R,O)))\/(x=0/\Hid (∃ r,stP r (o+u) (ws.drop (k+1)) (vs.drop (k+1)) (p.drop (k+1))=some (R,O))):=by
    obtain⟨r,h⟩:=hS.out;rw[dx.out,du.out,List.drop_eq_getElem_cons hv] at h;rcases ZdL h with⟨g1,g2,g3⟩ | ⟨g1,_,g3⟩
    ·exact .inl ⟨g1,_,g3⟩
    ·exact .inr ⟨g1,_,g3⟩
   have k64:(k:Int)<=64:=by omega
   clear ex dx eu du hS;rcases ST with⟨rfl,g3⟩ | ⟨rfl,g3⟩
   ·go_wp2_with (fail)
    go_roundw
    case rel=>exact⟨k+1,o,by go_num,by go_num,by omega,by omega,by omega,g3,Y.out.tr (by(repeat (first | assumption | exact Ext.rf _ | apply Ext.drew | apply Ext.drewN | apply Ext.alloc)))⟩
    case measure=>simp[intOf];omega
   ·go_wp2_with (fail)
    go_roundw
    case rel=>exact⟨k+1,o+u,by go_num,by go_num,by omega,by omega,by omega,g3,Y.out.tr (by(repeat (first | assumption | exact Ext.rf _ | apply Ext.drew | apply Ext.drewN | apply Ext.alloc)))⟩
    case measure=>simp[intOf];omega
  ·have E:o=O:=by
    obtain⟨r,h⟩:=hS.out;rw[List.drop_of_length_le (l:=p) (i:=k) (by omega)] at h;exact(ZfD h).2
   subst E;clear hS;go_wp2_with (fail);refine(LE.out _ (Y.out.tr (by(repeat (first | assumption | exact Ext.rf _ | apply Ext.drew | apply Ext.drewN | apply Ext.alloc))))).mono ?_;rintro e w2 ⟨rfl,x2⟩;have Y2:=Hd (Y.out.tr (Ext.tr (by(repeat (first | assumption | exact Ext.rf _ | apply Ext.drew | apply Ext.drewN | apply Ext.alloc))) x2));clear x2 LE Y;go_wp2_with (fail);go_loopw [5,8,9] (fun v5 v8 v9 wr=>∃ (n:Nat) (r:Int),v5=.int .i64 o/\v9=.int .i64 n/\v8=.int .i64 r/\n<=ws.length/\0<=r/\r<=2147483647/\Hid (TT=UA r (ws.drop n) (vs.drop n))/\Hid (Ext w wr)) (fun _ _ v _=>ws.length-(intOf v).toNat)
   case atStart=>exact⟨p.length,R,rfl,rfl,rfl,by omega,by omega,by omega,T0,Y2⟩
   case round =>
    obtain⟨wi,rfl⟩:∃ wi:World,wi=wr:=⟨_,rfl⟩;clear T0 Y2;obtain⟨n,r,rfl,rfl,rfl,hn,r0,r1,hT,Y⟩:=hrel;go_wp2_with (fail);refine(DE.out _ (Y.out.tr (by(repeat (first | assumption | exact Ext.rf _ | apply Ext.drew | apply Ext.drewN | apply Ext.alloc))))).mono ?_;rintro e w3 ⟨rfl,x3⟩;have Y3:=Hd (Y.out.tr (Ext.tr (by(repeat (first | assumption | exact Ext.rf _ | apply Ext.drew | apply Ext.drewN | apply Ext.alloc))) x3));clear x3 Y
    by_cases hlt:n<ws.length
    ·obtain⟨qb,qo,u,rfl,zu,cu,eu,du⟩:=(rA.out.ext Y3.out).at (k:=n) hlt
     obtain⟨pb,po,v,rfl,zv,cv,ev,dv⟩:=(rB.out.ext Y3.out).at (k:=n) (by have:=hl.out;omega);have q1:(n:Int)<(ws.length:Int):=by omega
     have q2:(n:Int)<(vs.length:Int):=by have:=hl.out;omega
     have bu:=sw.out u (List.mem_of_getElem? eu.out);have bv:=sv.out v (List.mem_of_getElem? ev.out);have zg:g<w3.heap.size:=by have:=Y3.out.size;omega
     have t1:w3.cell? ⟨g,1,none⟩=some (.slice (some ⟨qb,qo,none⟩) ws.length a):=Zc Y3.out z1 c1;have t2:w3.cell? ⟨g,2,none⟩=some (.slice (some ⟨pb,po,none⟩) vs.length b):=Zc Y3.out z1 c2
     by_cases hu:u<=r
     ·have HT:Hid (TT=UA (r-u) (ws.drop (n+1)) (vs.drop (n+1))):=by
       have h:TT=UA (r-u) (ws.drop (n+1)) (vs.drop (n+1)):=by
        rw[hT.out,du.out,dv.out,UA,if_pos hu]
       exact h
      clear eu du ev dv hT;go_wp2_with (fail);go_roundw
      case rel=>exact⟨n+1,r-u,rfl,by go_num,by go_num,by omega,by omega,by omega,HT,Y3.out.tr (by(repeat (first | assumption | exact Ext.rf _ | apply Ext.drew | apply Ext.drewN | apply Ext.alloc)))⟩
      case measure=>simp[intOf];omega
     ·have HT:Hid (TT=Zj (vs.drop n)-v*r / u):=by
       have h:TT=Zj (vs.drop n)-v*r / u:=by
        rw[hT.out,du.out,dv.out,UA,if_neg hu]
        rfl
       exact h
      have PA:=Hd (fun W=>Zhj v r u W bv ⟨r0,r1⟩ ⟨by omega,bu.2⟩);have hm:=Un bv.1 bv.2 r0 r1;have hq:0<=v*r / u/\v*r / u<=v:=by
       refine⟨Int.ediv_nonneg hm.1 (by omega),?_⟩;have h1:v*r<=v*u:=Int.mul_le_mul_of_nonneg_left (by omega) bv.1;have h2:=Int.ediv_le_ediv (show 0<u by omega) h1
       rwa [Int.mul_ediv_cancel _ (by omega)] at h2
      generalize v*r / u=q at *;obtain⟨MV,M0⟩:∃ MV,Hid (MV=o-q+Zj (vs.drop n)):=⟨_,rfl⟩;have MH:=M0;clear hm eu du ev dv hT;go_wp2_with (fail);go_region_held3 (fun w'=>w'.cell? ⟨g,1,none⟩=some (.slice (some ⟨qb,qo,none⟩) ws.length a)/\w'.cell? ⟨g,2,none⟩=some (.slice (some ⟨pb,po,none⟩) vs.length b)/\w'.cell? ⟨qb,qo+n,none⟩=some (.int .i64 u)/\w'.cell? ⟨pb,po+n,none⟩=some (.int .i64 v)) (go_keep)
       (first | (go_at_call 255;refine(PA.out _).mono ?_;rintro e w4 ⟨rfl,x4⟩;have y4:=Ext.tr (a:=w3) (by(repeat (first | assumption | exact Ext.rf _ | apply Ext.drew | apply Ext.drewN | apply Ext.alloc))) x4;have s1:=Zc y4 zg t1;have s2:=Zc y4 zg t2;have s3:=Zc y4 zu cu;have s4:=Zc y4 zv cv))
      all_goals
       have Y4:=Hd (Y3.out.tr y4);clear s1 s2 s3 s4 t1 t2 cu cv y4 x4 Y3 PA zu zv zg;go_wp2_with (fail);go_loopw [5,12] (fun v5 v12 wr=>∃ (m:Nat) (d:Int),v12=.int .i64 m/\v5=.int .i64 d/\n<=m/\m<=ws.length/\-2147483647<=d/\d<=140000000000+2147483647*m/\Hid (MV=d+Zj (vs.drop m))/\Hid (Ext w wr)) (fun _ v _=>ws.length-(intOf v).toNat)
       case atStart=>exact⟨n,o-q,rfl,rfl,by omega,by omega,by omega,by omega,M0,Y4⟩
       case round =>
        obtain⟨wj,rfl⟩:∃ wj:World,wj=wr:=⟨_,rfl⟩;clear M0 Y4;obtain⟨m,d,rfl,rfl,hm0,hm1,d0,d1,hM,Y⟩:=hrel;go_wp2_with (fail);refine(DE.out _ (Y.out.tr (by(repeat (first | assumption | exact Ext.rf _ | apply Ext.drew | apply Ext.drewN | apply Ext.alloc))))).mono ?_;rintro e w5 ⟨rfl,x5⟩;have Y5:=Hd (Y.out.tr (Ext.tr (by(repeat (first | assumption | exact Ext.rf _ | apply Ext.drew | apply Ext.drewN | apply Ext.alloc))) x5));clear x5 Y
        by_cases hmt:m<ws.length
        ·obtain⟨pb2,po2,v2,hpp,zv2,cv2,ev2,dv2⟩:=(rB.out.ext Y5.out).at (k:=m) (by have:=hl.out;omega)
         have hpp':pb=pb2/\po=po2:=by simpa using hpp
         obtain⟨rfl,rfl⟩:=hpp';have r1:(m:Int)<(ws.length:Int):=by omega
         have r2:(m:Int)<(vs.length:Int):=by have:=hl.out;omega
         have bv2:=sv.out v2 (List.mem_of_getElem? ev2.out);have t2:w5.cell? ⟨g,2,none⟩=some (.slice (some ⟨pb,po,none⟩) vs.length b):=Zc Y5.out z1 c2;have HM:Hid (MV=d+v2+Zj (vs.drop (m+1))):=Hd (by
          rw[hM.out,dv2.out];simp only[Zj];omega)
         have m64:(m:Int)<=64:=by omega
         clear ev2 dv2 hM hpp;go_wp2_with (fail);go_roundw
         case rel=>exact⟨m+1,d+v2,by go_num,by go_num,by omega,by omega,by omega,by omega,HM,Y5.out.tr (by(repeat (first | assumption | exact Ext.rf _ | apply Ext.drew | apply Ext.drewN | apply Ext.alloc)))⟩
         case measure=>simp[intOf];omega
        ·have r1:¬(m:Int)<(ws.length:Int):=by omega
         have E:Hid (d=o+(Zj (vs.drop n)-q)):=Hd (by
          have h:=hM.out;have h2:=MH.out;rw[List.drop_of_length_le (l:=vs) (i:=m) (by have:=hl.out;omega)] at h;simp only[Zj] at h;omega)
         clear hM;go_wp2_with (fail);go_ret;exact⟨ZM (by rw[HT.out];exact E.out),Y5.out.tr (by(repeat (first | assumption | exact Ext.rf _ | apply Ext.drew | apply Ext.drewN | apply Ext.alloc)))⟩
    ·have HE:Hid (TT=0):=by
      have h:TT=0:=by
       rw[hT.out,List.drop_of_length_le (by omega)]
       rfl
      exact h
     have q1:¬(n:Int)<(ws.length:Int):=by omega
     clear hT;go_wp2_with (fail);go_ret;exact⟨ZM (by rw[HE.out,Int.add_zero]),Y3.out.tr (by(repeat (first | assumption | exact Ext.rf _ | apply Ext.drew | apply Ext.drewN | apply Ext.alloc)))⟩
def Uu (i:InstP)(x:List Int) : Int×Int×Int:=if ∀ v∈x,v=0\/v=1 then(if i.cap<Zr x i.weight then(0,0,9) else(ZE x i.value,Zr x i.value,0)) else(0,0,1)
theorem Ze0 (i:InstP)(us:List Value)(P:Option Addr)(c:Nat)(x:List Int)(w:World)(H:RInst w us i)(ok:KnapOk i)(hP:RdI w P x)(lx:(x.length:Int)=i.n) :
  Calls Tryz.prog 102 #[.agg (List.toArray us),.slice P x.length c] w fun e w'=>e=.returned (.tuple #[.int .i64 (Uu i x).1,.int .i64 (Uu i x).2.1,.int .i64 (Uu i x).2.2])/\Ext w w':=by
 have k1:=ok.n1;have k2:=ok.n2;have k3:=ok.w;have k4:=ok.v;have k6:=Hd ok.sw;have k7:=Hd ok.sv;have k8:=ok.cap;clear ok;obtain⟨RES,hR⟩:∃ RES,Hid (Uu i x=RES):=⟨_,rfl⟩;rw[hR.out];obtain⟨kind,nn,cap,xw,xv,co⟩:=i;unfold Uu at hR;obtain⟨A,a,B,b,D,d,rfl,⟨rA,iA,lA,mA⟩,⟨rB,iB,lB,mB⟩,-⟩:=H;simp only at *;obtain⟨n,rfl⟩:∃ n:Nat,nn=(n:Int):=⟨nn.toNat,by omega⟩;have lxn:x.length=n:=by omega
 have lwn:xw.length=n:=by omega
 have lvn:xv.length=n:=by omega
 have hn2:n<=64:=by omega
 replace lwn:=Hd lwn;replace lvn:=Hd lvn;replace lxn:=Hd lxn;clear lx k3 k4;have W1:∀ k v u,x[k]?=some v->xw[k]?=some u->Zr (x.take (k+1)) xw=Zr (x.take k) xw+if v=1 then u else 0:=fun k v u h1 h2=>YV _ k x xw h1 h2
 have T1:∀ k v u,x[k]?=some v->xv[k]?=some u->Zr (x.take (k+1)) xv=Zr (x.take k) xv+if v=1 then u else 0:=fun k v u h1 h2=>YV _ k x xv h1 h2
 have V1:∀ k v u,x[k]?=some v->xv[k]?=some u->ZE (x.take (k+1)) xv=ZE (x.take k) xv+if v=1 then 0 else u:=fun k v u h1 h2=>YV _ k x xv h1 h2
 replace W1:=Hd W1;replace T1:=Hd T1;replace V1:=Hd V1;replace rA:=Hd rA;replace rB:=Hd rB;replace hP:=Hd hP;replace iA:=Hd iA;replace iB:=Hd iB;have B1:Hid (Blk (w.alloc (.cells #[.int .i64 kind,.int .i64 n,.int .i64 cap,.slice A xw.length a,.slice B xv.length b,.slice D co.length d] 25)) w.heap.size 25 #[.int .i64 kind,.int .i64 n,.int .i64 cap,.slice A xw.length a,.slice B xv.length b,.slice D co.length d]):=.new rfl;have bW:∀ k,k<=n->0<=Zr (x.take k) xw/\Zr (x.take k) xw<=2147483647*(k:Int):=by
  intro k
  induction k with
  | zero=>intro _;simp[Zr,Zj]
  | succ k ih =>
   intro hk;have h0:=ih (by omega);have h8:k<x.length:=by rw[lxn.out];omega
   have e1:x[k]?=some x[k]:=List.getElem?_eq_getElem h8;have h9:k<xw.length:=by rw[lwn.out];omega
   have e2:xw[k]?=some xw[k]:=List.getElem?_eq_getElem h9;have h1:=W1.out k _ _ e1 e2;have h2:=k6.out.get e2;rw[h1];split<;>omega
 have bT:∀ k,k<=n->0<=Zr (x.take k) xv/\Zr (x.take k) xv<=2147483647*(k:Int):=by
  intro k
  induction k with
  | zero=>intro _;simp[Zr,Zj]
  | succ k ih =>
   intro hk;have h0:=ih (by omega);have h8:k<x.length:=by rw[lxn.out];omega
   have e1:x[k]?=some x[k]:=List.getElem?_eq_getElem h8;have h9:k<xv.length:=by rw[lvn.out];omega
   have e2:xv[k]?=some xv[k]:=List.getElem?_eq_getElem h9;have h1:=T1.out k _ _ e1 e2;have h2:=k7.out.get e2;rw[h1];split<;>omega
 have bV:∀ k,k<=n->0<=ZE (x.take k) xv/\ZE (x.take k) xv<=2147483647*(k:Int):=by
  intro k
  induction k with
  | zero=>intro _;simp[ZE,Zj]
  | succ k ih =>
   intro hk;have h0:=ih (by omega);have h8:k<x.length:=by rw[lxn.out];omega
   have e1:x[k]?=some x[k]:=List.getElem?_eq_getElem h8;have h9:k<xv.length:=by rw[lvn.out];omega
   have e2:xv[k]?=some xv[k]:=List.getElem?_eq_getElem h9;have h1:=V1.out k _ _ e1 e2;have h2:=k7.out.get e2;rw[h1];split<;>omega
 replace bW:=Hd bW;replace bV:=Hd bV;replace bT:=Hd bT;have exn:(x.length:Int)=(n:Int):=by rw[lxn.out]
 replace exn:=Hd exn;rw[lxn.out];go_enter Tryz.func102,Tryz.ntmps102;go_wp2_with (fail);go_loopw [4,5,6,7,12] (fun s4 s5 s6 s7 v wr=>∃ (k:Nat) (cc vv ww:Int),v=.int .i64 k/\s4=.int .i64 cc/\s5=.int .i64 vv/\s6=.int .i64 0/\s7=.int .i64 ww/\k<=n/\Hid (cc=ZE (x.take k) xv/\vv=Zr (x.take k) xv/\ww=Zr (x.take k) xw)/\Hid (∀ j y,j<k->x[j]?=some y->y=0\/y=1)/\Hid (Ext (w.alloc (.cells #[.int .i64 kind,.int .i64 n,.int .i64 cap,.slice A xw.length a,.slice B xv.length b,.slice D co.length d] 25)) wr)) (fun _ _ _ _ v _=>n-(intOf v).toNat)
 case atStart=>exact⟨0,0,0,0,rfl,rfl,rfl,rfl,rfl,by omega,(by exact(show (0:Int)=ZE (x.take 0) xv/\(0:Int)=Zr (x.take 0) xv/\(0:Int)=Zr (x.take 0) xw from⟨rfl,rfl,rfl⟩)),(fun j y h=>by omega),by(repeat (first | assumption | exact Ext.rf _ | apply Ext.drew | apply Ext.drewN | apply Ext.alloc))⟩
 case round =>
  obtain⟨wo,rfl⟩:∃ wo:World,wo=wr:=⟨_,rfl⟩;obtain⟨k,cc,vv,ww,rfl,rfl,rfl,rfl,rfl,hk,HV,HG,Y⟩:=hrel;have BB:=Hd (B1.out.ext Y.out);have d2:=BB.out.c2;have d3:=BB.out.c3;have d4:=BB.out.c4;have X:=Hd (Ext.tr (a:=w) (by(repeat (first | assumption | exact Ext.rf _ | apply Ext.drew | apply Ext.drewN | apply Ext.alloc))) Y.out);have tw:=bW.out k hk;have tv:=bV.out k hk;have tt:=bT.out k hk;rw[<-HV.out.2.2] at tw;rw[<-HV.out.1] at tv;rw[<-HV.out.2.1] at tt
  by_cases hlt:k<n
  ·obtain⟨pb,po,y,rfl,zy,cy,ey,_⟩:=(hP.out.ext X.out).at (k:=k) (by rw[lxn.out];exact hlt)
   obtain⟨ab,ao,u,rfl,zu,cu,eu,_⟩:=(rA.out.ext X.out).at (k:=k) (by rw[lwn.out];exact hlt);obtain⟨vb,vo,v,rfl,zv,cv,ev,_⟩:=(rB.out.ext X.out).at (k:=k) (by rw[lvn.out];exact hlt);have sW:=W1.out k y u ey.out eu.out;have sV:=V1.out k y v ey.out ev.out;have sT:=T1.out k y v ey.out ev.out;rw[<-HV.out.2.2] at sW;rw[<-HV.out.1] at sV;rw[<-HV.out.2.1] at sT;have bu:=k6.out.get eu.out;have bv:=k7.out.get ev.out;have q1:(k:Int)<(n:Int):=by omega
   have q2:(k:Int)<(xw.length:Int):=by rw[lwn.out];exact q1
   have q3:(k:Int)<(xv.length:Int):=by rw[lvn.out];exact q1
   have hkn:(k:Int)<=64:=by omega
   by_cases h0:y=0
   ·subst h0
    have NV:Hid (cc+v=ZE (x.take (k+1)) xv/\vv=Zr (x.take (k+1)) xv/\ww=Zr (x.take (k+1)) xw):=Hd (by
     rw[sW,sV,sT];simp)
    have NG:Hid (∀ j y,j<k+1->x[j]?=some y->y=0\/y=1):=fun j y h1 h2=>by
     by_cases hj:j=k
     ·subst hj
      rw[ey.out] at h2;exact .inl (Option.some.inj h2).symm
     ·exact HG.out j y (by omega) h2
    clear ey eu ev sW sV sT HV HG;go_wp2_with (fail);go_roundw
    case rel=>exact⟨k+1,cc+v,vv,ww,by go_num,by go_num,rfl,rfl,rfl,by omega,NV,NG,Y.out.tr (by(repeat (first | assumption | exact Ext.rf _ | apply Ext.drew | apply Ext.drewN | apply Ext.alloc)))⟩
    case measure=>simp[intOf];omega
   ·by_cases h1:y=1
    ·subst h1
     have NV:Hid (cc=ZE (x.take (k+1)) xv/\vv+v=Zr (x.take (k+1)) xv/\ww+u=Zr (x.take (k+1)) xw):=Hd (by
      rw[sW,sV,sT];simp)
     have NG:Hid (∀ j y,j<k+1->x[j]?=some y->y=0\/y=1):=fun j y h1 h2=>by
      by_cases hj:j=k
      ·subst hj
       rw[ey.out] at h2;exact .inr (Option.some.inj h2).symm
      ·exact HG.out j y (by omega) h2
     clear ey eu ev sW sV sT HV HG h0;go_wp2_with (fail);go_roundw
     case rel=>exact⟨k+1,cc,vv+v,ww+u,by go_num,rfl,by go_num,rfl,by go_num,by omega,NV,NG,Y.out.tr (by(repeat (first | assumption | exact Ext.rf _ | apply Ext.drew | apply Ext.drewN | apply Ext.alloc)))⟩
     case measure=>simp[intOf];omega
    ·have E:RES=(0,0,1):=by
      have h:=hR.out;rw[if_neg (fun h=>by
       have:=h y (List.mem_of_getElem? ey.out);omega)] at h
      exact h.symm
     subst E;clear ey eu ev sW sV sT HV HG;go_wp2_with (fail);go_ret3;exact⟨rfl,X.out.tr (by(repeat (first | assumption | exact Ext.rf _ | apply Ext.drew | apply Ext.drewN | apply Ext.alloc)))⟩
  ·obtain rfl:k=n:=by omega
   have hall:∀ v∈x,v=0\/v=1:=fun v hv=>by
    obtain⟨j,hj,e⟩:=List.getElem_of_mem hv;exact HG.out j v (by rw[<-lxn.out];exact hj) (by rw[List.getElem?_eq_getElem hj,e])
   have HV2:=HV.out;have h:=hR.out;rw[if_pos hall] at h;rw[<-lxn.out,List.take_length] at HV2;rw[<-HV2.1,<-HV2.2.1,<-HV2.2.2] at h
   by_cases hf:cap<ww
   ·rw[if_pos hf] at h
    subst h;clear HV HV2 HG hall;go_wp2_with (fail);go_ret3;exact⟨rfl,X.out.tr (by(repeat (first | assumption | exact Ext.rf _ | apply Ext.drew | apply Ext.drewN | apply Ext.alloc)))⟩
   ·rw[if_neg hf] at h
    subst h;clear HV HV2 HG hall;go_wp2_with (fail);go_ret3;exact⟨rfl,X.out.tr (by(repeat (first | assumption | exact Ext.rf _ | apply Ext.drew | apply Ext.drewN | apply Ext.alloc)))⟩
def ZV (i:InstP)(x:List Int) : Int×Int×Int:=if (ZJ i x).2=0 then((ZJ i x).1,ofG i (ZJ i x).1,0) else(0,0,(ZJ i x).2)
theorem Ze1 {i:InstP}{x:List Int}(hc:Zh i=0)(hk:i.kind=1)(hl:(x.length:Int)=i.n) : ZV i x=Uu i x:=by
 have ok:=ZR hc hk;have k4:=ok.v
 by_cases h:∀ v∈x,v=0\/v=1
 ·have e:ZJ i x=QV i.cap i.weight i.value x:=by
   unfold ZJ;rw[if_neg (fun h=>h hc),if_pos hk,if_pos ⟨hl,h⟩]
  unfold ZV Uu ofG;rw[e,if_pos h];unfold QV
  by_cases h2:i.cap<Zr x i.weight
  ·simp[h2]
  ·simp only[h2,if_false,if_true,hk]
   rw[Za0 x i.value (by omega)]
 ·have e:ZJ i x=(0,1):=by
   unfold ZJ;rw[if_neg (fun h=>h hc),if_pos hk,if_neg (fun q=>h q.2)]
  unfold ZV Uu;rw[e,if_neg h]
  rfl
theorem Zhw {i:InstP}{x:List Int}(hc:Zh i=0)(hl:¬(x.length:Int)=i.n) : ZV i x=(0,0,1):=by
 have e:ZJ i x=(0,1):=by
  unfold ZJ;rw[if_neg (fun h=>h hc)]
  by_cases hk:i.kind=1
  ·rw[if_pos hk,if_neg (fun h=>hl h.1)]
  ·have sq:=Zp hc hk
   rw[if_neg hk,if_neg];rintro ⟨h,_⟩;obtain⟨l,rfl,hp⟩:=Wf.1 h;have:=hp.length_eq;rw[List.length_range] at this;rw[Zg] at hl;have:=sq.len;omega
 unfold ZV;rw[e];rfl
theorem ZbZ {i:InstP}{x:List Int}(hc:Zh i=0)(hk:i.kind≠1)(hp:Xa x i.cost.length=false) : ZV i x=(0,0,1):=by
 have e:ZJ i x=(0,1):=by
  unfold ZJ;rw[if_neg (fun h=>h hc),if_neg hk,if_neg (fun h=>by rw[hp] at h;cases h.1)]
 unfold ZV;rw[e];rfl
theorem Zhx {i:InstP}{x:List Int}(hc:Zh i=0)(hk:i.kind=2)(hp:Xa x i.cost.length=true) : ZV i x=(Zv i.cost x,Zv i.cost x,0):=by
 have e:ZJ i x=(Zv i.cost x,0):=by
  unfold ZJ;rw[if_neg (fun h=>h hc),if_neg (by omega),if_pos ⟨hp,fun h=>by omega⟩,if_pos hk]
 unfold ZV ofG;rw[e,if_pos rfl,if_neg (by omega)]
theorem Ze2 {i:InstP}{x:List Int}(hc:Zh i=0)(hk:i.kind=3)(hx:¬x[0]?=some 0) : ZV i x=(0,0,1):=by
 have e:ZJ i x=(0,1):=by
  unfold ZJ;rw[if_neg (fun h=>h hc),if_neg (by omega),if_neg (fun h=>hx (h.2 hk))]
 unfold ZV;rw[e];rfl
theorem Ze3 {i:InstP}{x:List Int}(hc:Zh i=0)(hk:i.kind=3)(hp:Xa x i.cost.length=true)(hx:x[0]?=some 0) : ZV i x=(ZC i.cost 0 (x.tail.map Int.toNat),ZC i.cost 0 (x.tail.map Int.toNat),0):=by
 have e:ZJ i x=(ZC i.cost 0 (x.tail.map Int.toNat),0):=by
  unfold ZJ;rw[if_neg (fun h=>h hc),if_neg (by omega),if_pos ⟨hp,fun _=>hx⟩,if_neg (by omega)]
 unfold ZV ofG;rw[e,if_pos rfl,if_neg (by omega)]
theorem ZcA (i:InstP)(us:List Value)(P:Option Addr)(c:Nat)(x:List Int)(w:World)(H:RInst w us i)(hc:Zh i=0)(hk:i.kind=2)(hP:RdI w P x)(lx:(x.length:Int)=i.n)(lc:x.length<=c)(mc:c<=maxLen) :
  Calls Tryz.prog 56 #[.agg (List.toArray us),.slice P x.length c] w fun e w'=>e=.returned (.tuple #[.int .i64 (ZV i x).1,.int .i64 (ZV i x).2.1,.int .i64 (ZV i x).2.2])/\Ext w w':=by
 have sq:=Zp hc (by omega);have rok:=ZF sq;have l1:=rok.n1;have l2:=rok.n2;have PW:=Hd (ZbX (x:=x) (n:=i.cost.length) (by have:=sq.len;omega));have NP:=Hd (fun h:Xa x i.cost.length=false=>ZbZ (x:=x) hc (by omega) h);have YES:=Hd (fun h:Xa x i.cost.length=true=>Zhx (x:=x) hc (by omega) h);have hnn:i.n=(i.cost.length:Int):=sq.len.symm;obtain⟨RES,hR⟩:∃ RES,Hid (ZV i x=RES):=⟨_,rfl⟩;rw[hR.out] at NP YES ⊢;clear hc sq hR;obtain⟨kind,nn,cap,xw,xv,co⟩:=i;obtain⟨A,a,B,b,D,d,rfl,-,-,hC,hC1,hC2⟩:=H;simp only at *;subst hk hnn;have lxn:x.length=co.length:=by omega
 replace lxn:=Hd lxn;rw[lxn.out] at lc ⊢;unfold maxLen at mc hC2;clear lx;have AB:=fun(W:World) (y:Ext w W) (k:Nat) (v:Int) (hk:k<=co.length)=>by
  have h:=Ut P c (x.take k) v W ((hP.ext y).take k) (by rw[List.length_take];omega);rw[List.length_take,lxn.out,Nat.min_eq_left hk] at h;exact h
 obtain⟨pb,po,x0,rfl,zp0,cp0,ep0,_⟩:=hP.at (k:=0) (by rw[lxn.out];omega);rw[Nat.add_zero] at cp0;obtain⟨cb,cof,_,_,_,rfl,_,_⟩:=XQ rok hC (r:=0) (c:=0) (by omega) (by omega);have num:=Yl rok;have CA:=Hd (fun(W:World) (x:Ext w W) (r c:Nat) (hr:r<co.length) (hc:c<co.length)=>Qj rok (hC.ext x fun _ _ h=>h.ext x) hr hc);replace AB:=Hd AB;replace hP:=Hd hP;replace hC:=Hd hC;replace rok:=Hd rok;replace num:=Hd num;replace hC1:=Hd hC1;obtain⟨wb,hwb⟩:∃ wb,Hid (wb=w.alloc (.cells #[.int .i64 2,.int .i64 co.length,.int .i64 cap,.slice A xw.length a,.slice B xv.length b,.slice (some ⟨cb,cof,none⟩) co.length d] 25)):=⟨_,rfl⟩;have XB:Hid (Ext w wb):=Hd (by rw[hwb.out];exact(Ext.rf w).alloc _);have B1:Hid (Blk wb w.heap.size 25 #[.int .i64 2,.int .i64 co.length,.int .i64 cap,.slice A xw.length a,.slice B xv.length b,.slice (some ⟨cb,cof,none⟩) co.length d]):=Hd (by rw[hwb.out];exact .new rfl);have q00:(0:Int)<(co.length:Int):=by omega
 have i0:0<co.length:=by omega
 go_enter Tryz.func56,Tryz.ntmps56;go_wp2_with (fail);rw[<-hwb.out];go_loopw [4,5,6,27] (fun s4 s5 s6 v wr=>∃ k:Nat,v=.int .i64 k/\s4=.int .i64 0/\s5=.int .i64 0/\s6=.int .i64 0/\k<=co.length/\Hid (∀ j y,j<k->x[j]?=some y->(0<=y/\y<(co.length:Int))/\(x.take j).contains y=false)/\Hid (Ext wb wr)) (fun _ _ _ v _=>co.length-(intOf v).toNat)
 case atStart=>exact⟨0,rfl,rfl,rfl,rfl,by omega,(fun j y h=>by omega),by(repeat (first | assumption | exact Ext.rf _ | apply Ext.drew | apply Ext.drewN | apply Ext.alloc))⟩
 case round =>
  obtain⟨wo,rfl⟩:∃ wo:World,wo=wr:=⟨_,rfl⟩;obtain⟨k,rfl,rfl,rfl,rfl,hk,HG,Y⟩:=hrel;have X:=Hd (XB.out.tr Y.out);have BB:=Hd (B1.out.ext Y.out);have d0:=BB.out.c0;have d1:=BB.out.c1
  by_cases hlt:k<co.length
  ·obtain⟨pb',po',y,hPq,zpk,cpk,epk,_⟩:=(hP.out.ext X.out).at (k:=k) (by rw[lxn.out];exact hlt)
   obtain⟨rfl,rfl⟩:pb=pb'/\po=po':=by simpa using hPq
   have q1:(k:Int)<(co.length:Int):=by omega
   have FAIL:Hid (¬((0<=y/\y<(co.length:Int))/\(x.take k).contains y=false)->RES=(0,0,1)):=fun h=>by
    refine NP.out ?_
    cases hb:Xa x co.length with
    | false=>rfl
    | true=>exact absurd (PW.out.1 hb k y epk.out) h
   clear hPq
   by_cases hy0:y<0
   ·obtain rfl:=FAIL.out (fun h=>by omega)
    have e1:decide (y<0)=true:=decide_eq_true hy0;clear epk FAIL;go_wp2_with (fail);go_ret3;exact⟨rfl,X.out.tr (by(repeat (first | assumption | exact Ext.rf _ | apply Ext.drew | apply Ext.drewN | apply Ext.alloc)))⟩
   ·have e1:decide (y<0)=false:=decide_eq_false hy0
    by_cases hyn:(co.length:Int)<=y
    ·obtain rfl:=FAIL.out (fun h=>by omega)
     have e2:decide ((co.length:Int)<=y)=true:=decide_eq_true hyn;clear epk FAIL;go_wp2_with (fail);go_ret3;exact⟨rfl,X.out.tr (by(repeat (first | assumption | exact Ext.rf _ | apply Ext.drew | apply Ext.drewN | apply Ext.alloc)))⟩
    ·have e2:decide ((co.length:Int)<=y)=false:=decide_eq_false hyn
     have ABk:=Hd (fun(W:World) (yy:Ext wo W)=>AB.out W (X.out.tr yy) k y (by omega));have lck:(k:Int)<=(c:Int):=by omega
     obtain⟨bb,hbb⟩:∃ bb,Hid ((x.take k).contains y=bb):=⟨_,rfl⟩;rw[hbb.out] at ABk FAIL
     cases bb with
     | true =>
      obtain rfl:=FAIL.out (fun h=>by cases h.2);clear epk FAIL;go_wp2_with (fail);refine(ABk.out _ (by(repeat (first | assumption | exact Ext.rf _ | apply Ext.drew | apply Ext.drewN | apply Ext.alloc)))).mono ?_;rintro e w2 ⟨rfl,x2⟩;have X2:=Hd (Ext.tr (a:=wo) (by(repeat (first | assumption | exact Ext.rf _ | apply Ext.drew | apply Ext.drewN | apply Ext.alloc))) x2);clear x2;go_wp2_with (fail);go_ret3;exact⟨rfl,X.out.tr (X2.out.tr (by(repeat (first | assumption | exact Ext.rf _ | apply Ext.drew | apply Ext.drewN | apply Ext.alloc))))⟩
     | false =>
      have NG:Hid (∀ j z,j<k+1->x[j]?=some z->(0<=z/\z<(co.length:Int))/\(x.take j).contains z=false):=fun j z h1 h2=>by
       by_cases hj:j=k
       ·subst hj
        rw[epk.out] at h2;obtain rfl:=Option.some.inj h2;exact⟨by omega,hbb.out⟩
       ·exact HG.out j z (by omega) h2
      clear epk FAIL;go_wp2_with (fail);refine(ABk.out _ (by(repeat (first | assumption | exact Ext.rf _ | apply Ext.drew | apply Ext.drewN | apply Ext.alloc)))).mono ?_;rintro e w2 ⟨rfl,x2⟩;have X2:=Hd (Ext.tr (a:=wo) (by(repeat (first | assumption | exact Ext.rf _ | apply Ext.drew | apply Ext.drewN | apply Ext.alloc))) x2);clear x2;go_wp2_with (fail);go_roundw
      case rel=>exact⟨k+1,by go_num,rfl,rfl,rfl,by omega,NG,Y.out.tr (X2.out.tr (by(repeat (first | assumption | exact Ext.rf _ | apply Ext.drew | apply Ext.drewN | apply Ext.alloc))))⟩
      case measure=>simp[intOf];omega
  ·obtain rfl:k=co.length:=by omega
   have PT:Xa x co.length=true:=PW.out.2 fun j v hj=>HG.out j v (by rw[<-lxn.out];exact(List.getElem?_eq_some_iff.1 hj).1) hj
   have p0:wo.cell? ⟨pb,po,none⟩=some (.int .i64 x0):=Zc X.out zp0 cp0;obtain rfl:=YES.out PT;have hin:Hid (∀ c∈x,0<=c/\c<(co.length:Int)):=fun c hc=>by
    obtain⟨j,hj,e⟩:=List.getElem_of_mem hc;exact(HG.out j c (by rw[<-lxn.out];exact hj) (by rw[List.getElem?_eq_getElem hj,e])).1
   clear HG PT NP YES PW;go_wp2_with (fail);go_loopw [4,60] (fun s v wr=>∃ (k:Nat) (su:Int),v=.int .i64 k/\s=.int .i64 su/\k<=co.length/\Hid (Zv co (x.take k)=su)/\Hid (Ext wo wr)) (fun _ v _=>co.length-(intOf v).toNat)
   case atStart=>exact⟨0,0,rfl,rfl,by omega,(by cases co<;>rfl:Zv co (x.take 0)=0),by(repeat (first | assumption | exact Ext.rf _ | apply Ext.drew | apply Ext.drewN | apply Ext.alloc))⟩
   case round =>
    obtain⟨wi,rfl⟩:∃ wi:World,wi=wr:=⟨_,rfl⟩;obtain⟨k,su,rfl,rfl,hk,HS,YI⟩:=hrel;clear d0 d1;have X2:=Hd (X.out.tr YI.out);have d0:wi.cell? ⟨w.heap.size,0,none⟩=some (.int .i64 2):=(BB.out.ext YI.out).cell 0;have d5:wi.cell? ⟨w.heap.size,5,none⟩=some (.slice (some ⟨cb,cof,none⟩) co.length d):=(BB.out.ext YI.out).cell 5;have bdS:0<=su/\su<=2147483647*24:=by
     have h1:=VY (B:=2147483647) (rows:=co) (p:=x.take k) (by omega) fun row hr c hc=>by
      have:=hin.out c (List.mem_of_mem_take hc);exact rok.out.get hr (by omega)
     have h2:(x.take k).length<=24:=by rw[List.length_take,lxn.out];omega
     rw[<-HS.out];omega
    by_cases hlt:k<co.length
    ·obtain⟨pb',po',y,hPq,zpk,cpk,epk,_⟩:=(hP.out.ext X2.out).at (k:=k) (by rw[lxn.out];exact hlt)
     obtain⟨rfl,rfl⟩:pb=pb'/\po=po':=by simpa using hPq
     have hy:=hin.out y (List.mem_of_getElem? epk.out);obtain⟨u,rfl⟩:∃ u:Nat,y=(u:Int):=⟨y.toNat,by omega⟩;have hun:u<co.length:=by omega
     obtain⟨rb,ro,d',c1,c2⟩:=CA.out _ X2.out k u hlt hun;have nu:=num.out k u hlt hun;obtain⟨z,hz⟩:∃ z,Hid (Za co k u=z):=⟨_,rfl⟩;rw[hz.out] at c2 nu;have HS2:Hid (Zv co (x.take (k+1))=su+z):=Hd (by
      rw[Vp (List.getElem?_eq_getElem hlt) epk.out,HS.out,Int.toNat_natCast,<-hz.out];unfold Za;simp[List.getD,List.getElem?_eq_getElem hlt])
     have q1:(k:Int)<(co.length:Int):=by omega
     have q2:(u:Int)<(co.length:Int):=by omega
     clear epk hPq HS hy;go_wp2_with (fail);go_roundw
     case rel=>exact⟨k+1,su+z,by go_num,by go_num,by omega,HS2,YI.out.tr (by(repeat (first | assumption | exact Ext.rf _ | apply Ext.drew | apply Ext.drewN | apply Ext.alloc)))⟩
     case measure=>simp[intOf];omega
    ·obtain rfl:k=co.length:=by omega
     have HS2:Hid (su=Zv co x):=by
      have h:=HS.out;rw[<-lxn.out,List.take_length] at h;exact h.symm
     clear HS;go_wp2_with (fail);go_ret3;rw[<-HS2.out];exact⟨rfl,X2.out.tr (by(repeat (first | assumption | exact Ext.rf _ | apply Ext.drew | apply Ext.drewN | apply Ext.alloc)))⟩
theorem ZcB (i:InstP)(us:List Value)(P:Option Addr)(c:Nat)(x:List Int)(w:World)(H:RInst w us i)(hc:Zh i=0)(hk:i.kind=3)(hP:RdI w P x)(lx:(x.length:Int)=i.n)(lc:x.length<=c)(mc:c<=maxLen) :
  Calls Tryz.prog 56 #[.agg (List.toArray us),.slice P x.length c] w fun e w'=>e=.returned (.tuple #[.int .i64 (ZV i x).1,.int .i64 (ZV i x).2.1,.int .i64 (ZV i x).2.2])/\Ext w w':=by
 have sq:=Zp hc (by omega);have rok:=ZF sq;have l1:=rok.n1;have l2:=rok.n2;have PW:=Hd (ZbX (x:=x) (n:=i.cost.length) (by have:=sq.len;omega));have NP:=Hd (fun h:Xa x i.cost.length=false=>ZbZ (x:=x) hc (by omega) h);have YES:=Hd (fun(h:Xa x i.cost.length=true) (h2:x[0]?=some 0)=>Ze3 (x:=x) hc (by omega) h h2);have NF:=Hd (fun h:¬x[0]?=some 0=>Ze2 (x:=x) hc (by omega) h);have hnn:i.n=(i.cost.length:Int):=sq.len.symm;obtain⟨RES,hR⟩:∃ RES,Hid (ZV i x=RES):=⟨_,rfl⟩;rw[hR.out] at NP YES NF ⊢;clear hc sq hR;obtain⟨kind,nn,cap,xw,xv,co⟩:=i;obtain⟨A,a,B,b,D,d,rfl,-,-,hC,hC1,hC2⟩:=H;simp only at *;subst hk hnn;have lxn:x.length=co.length:=by omega
 replace lxn:=Hd lxn;rw[lxn.out] at lc ⊢;unfold maxLen at mc hC2;clear lx;have AB:=fun(W:World) (y:Ext w W) (k:Nat) (v:Int) (hk:k<=co.length)=>by
  have h:=Ut P c (x.take k) v W ((hP.ext y).take k) (by rw[List.length_take];omega);rw[List.length_take,lxn.out,Nat.min_eq_left hk] at h;exact h
 obtain⟨pb,po,x0,rfl,zp0,cp0,ep0,_⟩:=hP.at (k:=0) (by rw[lxn.out];omega);rw[Nat.add_zero] at cp0;obtain⟨cb,cof,_,_,_,rfl,_,_⟩:=XQ rok hC (r:=0) (c:=0) (by omega) (by omega);have num:=Yl rok;have CA:=Hd (fun(W:World) (x:Ext w W) (r c:Nat) (hr:r<co.length) (hc:c<co.length)=>Qj rok (hC.ext x fun _ _ h=>h.ext x) hr hc);replace AB:=Hd AB;replace hP:=Hd hP;replace hC:=Hd hC;replace rok:=Hd rok;replace num:=Hd num;replace hC1:=Hd hC1;obtain⟨wb,hwb⟩:∃ wb,Hid (wb=w.alloc (.cells #[.int .i64 3,.int .i64 co.length,.int .i64 cap,.slice A xw.length a,.slice B xv.length b,.slice (some ⟨cb,cof,none⟩) co.length d] 25)):=⟨_,rfl⟩;have XB:Hid (Ext w wb):=Hd (by rw[hwb.out];exact(Ext.rf w).alloc _);have B1:Hid (Blk wb w.heap.size 25 #[.int .i64 3,.int .i64 co.length,.int .i64 cap,.slice A xw.length a,.slice B xv.length b,.slice (some ⟨cb,cof,none⟩) co.length d]):=Hd (by rw[hwb.out];exact .new rfl);have q00:(0:Int)<(co.length:Int):=by omega
 have i0:0<co.length:=by omega
 go_enter Tryz.func56,Tryz.ntmps56;go_wp2_with (fail);rw[<-hwb.out];go_loopw [4,5,6,27] (fun s4 s5 s6 v wr=>∃ k:Nat,v=.int .i64 k/\s4=.int .i64 0/\s5=.int .i64 0/\s6=.int .i64 0/\k<=co.length/\Hid (∀ j y,j<k->x[j]?=some y->(0<=y/\y<(co.length:Int))/\(x.take j).contains y=false)/\Hid (Ext wb wr)) (fun _ _ _ v _=>co.length-(intOf v).toNat)
 case atStart=>exact⟨0,rfl,rfl,rfl,rfl,by omega,(fun j y h=>by omega),by(repeat (first | assumption | exact Ext.rf _ | apply Ext.drew | apply Ext.drewN | apply Ext.alloc))⟩
 case round =>
  obtain⟨wo,rfl⟩:∃ wo:World,wo=wr:=⟨_,rfl⟩;obtain⟨k,rfl,rfl,rfl,rfl,hk,HG,Y⟩:=hrel;have X:=Hd (XB.out.tr Y.out);have BB:=Hd (B1.out.ext Y.out);have d0:=BB.out.c0;have d1:=BB.out.c1
  by_cases hlt:k<co.length
  ·obtain⟨pb',po',y,hPq,zpk,cpk,epk,_⟩:=(hP.out.ext X.out).at (k:=k) (by rw[lxn.out];exact hlt)
   obtain⟨rfl,rfl⟩:pb=pb'/\po=po':=by simpa using hPq
   have q1:(k:Int)<(co.length:Int):=by omega
   have FAIL:Hid (¬((0<=y/\y<(co.length:Int))/\(x.take k).contains y=false)->RES=(0,0,1)):=fun h=>by
    refine NP.out ?_
    cases hb:Xa x co.length with
    | false=>rfl
    | true=>exact absurd (PW.out.1 hb k y epk.out) h
   clear hPq
   by_cases hy0:y<0
   ·obtain rfl:=FAIL.out (fun h=>by omega)
    have e1:decide (y<0)=true:=decide_eq_true hy0;clear epk FAIL;go_wp2_with (fail);go_ret3;exact⟨rfl,X.out.tr (by(repeat (first | assumption | exact Ext.rf _ | apply Ext.drew | apply Ext.drewN | apply Ext.alloc)))⟩
   ·have e1:decide (y<0)=false:=decide_eq_false hy0
    by_cases hyn:(co.length:Int)<=y
    ·obtain rfl:=FAIL.out (fun h=>by omega)
     have e2:decide ((co.length:Int)<=y)=true:=decide_eq_true hyn;clear epk FAIL;go_wp2_with (fail);go_ret3;exact⟨rfl,X.out.tr (by(repeat (first | assumption | exact Ext.rf _ | apply Ext.drew | apply Ext.drewN | apply Ext.alloc)))⟩
    ·have e2:decide ((co.length:Int)<=y)=false:=decide_eq_false hyn
     have ABk:=Hd (fun(W:World) (yy:Ext wo W)=>AB.out W (X.out.tr yy) k y (by omega));have lck:(k:Int)<=(c:Int):=by omega
     obtain⟨bb,hbb⟩:∃ bb,Hid ((x.take k).contains y=bb):=⟨_,rfl⟩;rw[hbb.out] at ABk FAIL
     cases bb with
     | true =>
      obtain rfl:=FAIL.out (fun h=>by cases h.2);clear epk FAIL;go_wp2_with (fail);refine(ABk.out _ (by(repeat (first | assumption | exact Ext.rf _ | apply Ext.drew | apply Ext.drewN | apply Ext.alloc)))).mono ?_;rintro e w2 ⟨rfl,x2⟩;have X2:=Hd (Ext.tr (a:=wo) (by(repeat (first | assumption | exact Ext.rf _ | apply Ext.drew | apply Ext.drewN | apply Ext.alloc))) x2);clear x2;go_wp2_with (fail);go_ret3;exact⟨rfl,X.out.tr (X2.out.tr (by(repeat (first | assumption | exact Ext.rf _ | apply Ext.drew | apply Ext.drewN | apply Ext.alloc))))⟩
     | false =>
      have NG:Hid (∀ j z,j<k+1->x[j]?=some z->(0<=z/\z<(co.length:Int))/\(x.take j).contains z=false):=fun j z h1 h2=>by
       by_cases hj:j=k
       ·subst hj
        rw[epk.out] at h2;obtain rfl:=Option.some.inj h2;exact⟨by omega,hbb.out⟩
       ·exact HG.out j z (by omega) h2
      clear epk FAIL;go_wp2_with (fail);refine(ABk.out _ (by(repeat (first | assumption | exact Ext.rf _ | apply Ext.drew | apply Ext.drewN | apply Ext.alloc)))).mono ?_;rintro e w2 ⟨rfl,x2⟩;have X2:=Hd (Ext.tr (a:=wo) (by(repeat (first | assumption | exact Ext.rf _ | apply Ext.drew | apply Ext.drewN | apply Ext.alloc))) x2);clear x2;go_wp2_with (fail);go_roundw
      case rel=>exact⟨k+1,by go_num,rfl,rfl,rfl,by omega,NG,Y.out.tr (X2.out.tr (by(repeat (first | assumption | exact Ext.rf _ | apply Ext.drew | apply Ext.drewN | apply Ext.alloc))))⟩
      case measure=>simp[intOf];omega
  ·obtain rfl:k=co.length:=by omega
   have PT:Xa x co.length=true:=PW.out.2 fun j v hj=>HG.out j v (by rw[<-lxn.out];exact(List.getElem?_eq_some_iff.1 hj).1) hj
   have p0:wo.cell? ⟨pb,po,none⟩=some (.int .i64 x0):=Zc X.out zp0 cp0
   by_cases hx0:x0=0
   ·subst hx0
    have YE:=YES.out PT ep0.out;obtain⟨l,hl,hlp⟩:=Wf.1 PT;obtain⟨q,rfl⟩:∃ q,l=0::q:=by
     cases l with
     | nil=>rw[hl] at ep0;have h:=ep0.out;simp[Zd] at h
     | cons u q =>
      have h:=ep0.out;rw[hl] at h;simp[Zd] at h;exact⟨q,by rw[h]⟩
    have et:x.tail.map Int.toNat=q:=by rw[hl];exact Z8 q
    rw[et] at YE;obtain⟨tot,htot⟩:∃ tot,Hid (ZC co 0 q=tot):=⟨_,rfl⟩;rw[htot.out] at YE;subst YE;have hlt:Hid (∀ x∈0::q,x<co.length):=fun x hx=>List.mem_range.1 (hlp.mem_iff.1 hx)
    have hlen:Hid ((0::q).length=co.length):=Hd (by rw[hlp.length_eq,List.length_range]);have bt:0<=tot/\tot<=2147483647*24:=by
     have h1:=Vv num.out q 0 (by omega) fun x hx=>hlt.out x (by simp[hx])
     have h2:=hlen.out;rw[List.length_cons] at h2;rw[htot.out] at h1;omega
    have START:Hid ((0:Int)+Z9 co ((0::q).drop 0)=tot):=Hd (by rw[<-htot.out];simp[Z9]);rw[hl] at hP;obtain⟨l,hll⟩:∃ l,Hid (0::q=l):=⟨_,rfl⟩;rw[hll.out] at hP hlt hlen START;have DR:Hid (∀ k,k<co.length->∃ u,l[k]?=some u/\u<co.length/\l.drop k=u::l.drop (k+1)):=fun k hk=>by
     have h:k<l.length:=by rw[hlen.out];exact hk
     exact⟨l[k],List.getElem?_eq_getElem h,hlt.out _ (List.getElem_mem h),List.drop_eq_getElem_cons h⟩
    clear HG PT NP YES PW NF ep0 hl hlp et;go_wp2_with (fail);go_loopw [4,60] (fun s v wr=>∃ (k:Nat) (su:Int),v=.int .i64 k/\s=.int .i64 su/\k<=co.length/\Hid (0<=su/\su+Z9 co (l.drop k)=tot)/\Hid (Ext wo wr)) (fun _ v _=>co.length-(intOf v).toNat)
    case atStart=>exact⟨0,0,rfl,rfl,by omega,by exact(show (0:Int)<=0/\(0:Int)+Z9 co (l.drop 0)=tot from⟨by omega,START.out⟩),by(repeat (first | assumption | exact Ext.rf _ | apply Ext.drew | apply Ext.drewN | apply Ext.alloc))⟩
    case round =>
     obtain⟨wi,rfl⟩:∃ wi:World,wi=wr:=⟨_,rfl⟩;obtain⟨k,su,rfl,rfl,hk,HS,YI⟩:=hrel;clear d0 d1 START p0;have XW:=Hd (X.out.tr YI.out);have d0:wi.cell? ⟨w.heap.size,0,none⟩=some (.int .i64 3):=(BB.out.ext YI.out).cell 0;have d1:wi.cell? ⟨w.heap.size,1,none⟩=some (.int .i64 co.length):=(BB.out.ext YI.out).cell 1;have d5:wi.cell? ⟨w.heap.size,5,none⟩=some (.slice (some ⟨cb,cof,none⟩) co.length d):=(BB.out.ext YI.out).cell 5
     by_cases hkl:k<co.length
     ·obtain⟨u,ek,hun,edr⟩:=DR.out k hkl
      obtain⟨pb',po',xu,hPq,zpk,cpk,epk,_⟩:=(hP.out.ext XW.out).at (k:=k) (by rw[Zg,hlen.out];exact hkl);obtain⟨rfl,rfl⟩:pb=pb'/\po=po':=by simpa using hPq
      obtain rfl:xu=(u:Int):=by
       have h:=epk.out;rw[UW ek] at h;exact(Option.some.inj h).symm
      have HS1:=HS.out;rw[edr] at HS1;have q1:(k:Int)<(co.length:Int):=by omega
      have q2:(u:Int)<(co.length:Int):=by omega
      have hw0:IntKind.i64.wrap ((k:Int)+1)=(k:Int)+1:=IntWalk.i64_in _ (by omega);clear ek edr hPq epk HS
      by_cases hlast:k+1=co.length
      ·have e1:l.drop (k+1)=[]:=List.drop_of_length_le (by rw[hlen.out];omega)
       rw[e1] at HS1;obtain⟨rb,ro,d',c1,c2⟩:=CA.out _ XW.out u 0 hun (by omega);have nu:=num.out u 0 hun (by omega);obtain⟨y,hy⟩:∃ y,Hid (Za co u 0=y):=⟨_,rfl⟩;simp only[Z9,ZC] at HS1;rw[hy.out] at c2 nu HS1;replace c2:wi.cell? ⟨rb,ro,none⟩=some (.int .i64 y):=c2;have hrem:((k:Int)+1).tmod (co.length:Int)=0:=by
        have h:(k:Int)+1=(co.length:Int):=by omega
        rw[h,Int.tmod_self]
       have hw1:IntKind.i64.wrap 0=0:=IntWalk.i64_in _ (by omega);have hw:IntKind.i64.wrap (su+y)=su+y:=IntWalk.i64_in _ (by omega);have p0:wi.cell? ⟨pb,po,none⟩=some (.int .i64 0):=Zc XW.out zp0 cp0;have NEW:Hid (0<=su+y/\su+y+Z9 co (l.drop (k+1))=tot):=Hd (by
        rw[e1];simp only[Z9];omega)
       have hnz:((co.length:Int)==0)=false:=by rw[beq_eq_false_iff_ne];omega
       clear HS1 e1;replace hlast:=Hd hlast;go_wp2_with (fail);go_quiet (fail);go_wp2_with (fail);go_roundw
       case rel=>exact⟨k+1,su+y,by go_num,rfl,by omega,NEW,YI.out.drewN _⟩
       case measure=>simp[intOf];omega
      ·have hk1:k+1<co.length:=by omega
       obtain⟨v,ek1,hvn,edr1⟩:=DR.out (k+1) hk1;obtain⟨pb',po',xu,hPq,zpk1,cpk1,epk1,_⟩:=(hP.out.ext XW.out).at (k:=k+1) (by rw[Zg,hlen.out];exact hk1);obtain⟨rfl,rfl⟩:pb=pb'/\po=po':=by simpa using hPq
       obtain rfl:xu=(v:Int):=by
        have h:=epk1.out;rw[UW ek1] at h;exact(Option.some.inj h).symm
       rw[edr1] at HS1;obtain⟨rb,ro,d',c1,c2⟩:=CA.out _ XW.out u v hun hvn;have nu:=num.out u v hun hvn;obtain⟨y,hy⟩:∃ y,Hid (Za co u v=y):=⟨_,rfl⟩;simp only[Z9,ZC] at HS1;rw[hy.out] at c2 nu HS1;have hpp:=(Vv num.out (l.drop (k+1+1)) v hvn fun x hx=>hlt.out x (List.mem_of_mem_drop hx)).1;have hrem:((k:Int)+1).tmod (co.length:Int)=((k+1:Nat):Int):=by
        rw[Int.tmod_eq_emod_of_nonneg (by omega),Int.emod_eq_of_lt (by omega) (by omega)];omega
       have hw1:IntKind.i64.wrap ((k+1:Nat):Int)=((k+1:Nat):Int):=IntWalk.i64_in _ (by omega);have hw:IntKind.i64.wrap (su+y)=su+y:=IntWalk.i64_in _ (by omega);have NEW:Hid (0<=su+y/\su+y+Z9 co (l.drop (k+1))=tot):=Hd (by
        rw[edr1];simp only[Z9];omega)
       have q3:(v:Int)<(co.length:Int):=by omega
       have q4:((k+1:Nat):Int)<(co.length:Int):=by omega
       have hnz:((co.length:Int)==0)=false:=by rw[beq_eq_false_iff_ne];omega
       clear HS1 edr1 ek1 hPq epk1 hpp;replace hlast:=Hd hlast;go_wp2_with (fail);go_quiet (fail);go_wp2_with (fail);go_roundw
       case rel=>exact⟨k+1,su+y,by go_num,rfl,by omega,NEW,YI.out.drewN _⟩
       case measure=>simp[intOf];omega
     ·have q1:¬(k:Int)<(co.length:Int):=by omega
      have HS2:Hid (su=tot):=by
       have h:=HS.out.2;rw[List.drop_of_length_le (by rw[hlen.out];omega)] at h;simp only[Z9] at h;have h2:su=tot:=by omega
       exact h2
      clear HS;go_wp2_with (fail);go_ret3;rw[HS2.out];exact⟨rfl,XW.out.tr (by(repeat (first | assumption | exact Ext.rf _ | apply Ext.drew | apply Ext.drewN | apply Ext.alloc)))⟩
   ·have hx1:(x0==0)=false:=by simpa using hx0
    obtain rfl:=NF.out (fun h=>by
     rw[ep0.out] at h;exact hx0 (Option.some.inj h))
    clear HG PT NP YES PW NF ep0;go_wp2_with (fail);go_ret3;exact⟨rfl,X.out.tr (by(repeat (first | assumption | exact Ext.rf _ | apply Ext.drew | apply Ext.drewN | apply Ext.alloc)))⟩
theorem Zbf {a b c d:Int}(ha:0<=a)(hb:0<=b)(hc:0<=c)(hd:0<=d) : 0<=QG a b c d↔c*d<=a*b:=by
 have hp:=Int.mul_nonneg ha hb;have hq:=Int.mul_nonneg hc hd;have z1:WF a b=0↔a*b=0:=by unfold WF;rw[Int.mul_eq_zero];split<;>simp_all
 have z2:WF c d=0↔c*d=0:=by unfold WF;rw[Int.mul_eq_zero];split<;>simp_all
 have s1:=Uo a b;have s2:=Uo c d;unfold QG;generalize WF a b=s at *;generalize WF c d=t at *;generalize a*b=p at *;generalize c*d=q at *;rcases s1 with rfl | rfl<;>rcases s2 with rfl | rfl<;>simp at * <;> (try unfold Zct)<;>(try (split<;>(try split)))<;>omega
theorem Ze4 (i:InstP)(us:List Value)(a b:Nat)(w:World)(H:RInst w us i)(sv:Small31 i.value)(sw:Small31 i.weight)(ha:a<i.value.length)(hb:b<i.value.length)(ha':a<i.weight.length)(hb':b<i.weight.length) :
  Calls Tryz.prog 156 #[.agg (List.toArray us),.int .i64 a,.int .i64 b] w fun e w'=>e=.returned (.bool (!Z7 i.value i.weight b a))/\Ext w w':=by
 obtain⟨k,nn,cap,ws,vs,l⟩:=i;obtain⟨B,d,A,c,C,cc,rfl,⟨rw',_,_,_⟩,⟨rv,_,_,_⟩,_⟩:=H;simp only at *;obtain⟨g1,o1,va,rfl,z1,c1,e1,_⟩:=rv.at ha;obtain⟨g1',o1',vb,h1',z1',c2,e2,_⟩:=rv.at hb;obtain⟨rfl,rfl⟩:g1=g1'/\o1=o1':=by injection h1' with h;injection h with h3 h4;exact⟨h3,h4⟩
 obtain⟨g2,o2,wa,rfl,z2,c3,e3,_⟩:=rw'.at ha';obtain⟨g2',o2',wb,h2',z2',c4,e4,_⟩:=rw'.at hb';obtain⟨rfl,rfl⟩:g2=g2'/\o2=o2':=by injection h2' with h;injection h with h3 h4;exact⟨h3,h4⟩
 have bva:=sv.get e1.out;have bvb:=sv.get e2.out;have bwa:=sw.get e3.out;have bwb:=sw.get e4.out;have HA:Hid (Z7 vs ws b a=if wa=0 then false else if wb=0 then true else decide (va*wb<vb*wa)):=Hd (by
  unfold Z7;rw[getD_some e1.out,getD_some e2.out,getD_some e3.out,getD_some e4.out])
 have qa:(a:Int)<(vs.length:Int):=by omega
 have qb:(b:Int)<(vs.length:Int):=by omega
 have qa':(a:Int)<(ws.length:Int):=by omega
 have qb':(b:Int)<(ws.length:Int):=by omega
 clear h1' h2' rv rw' sv sw
 by_cases hwa:wa=0
 ·subst hwa
  have HR:Hid ((!Z7 vs ws b a)=true):=by
   have h:=HA.out;rw[if_pos rfl] at h;have h2:(!Z7 vs ws b a)=true:=by rw[h];rfl
   exact h2
  go_enter Tryz.func156,Tryz.ntmps156;go_wp2_with (fail);go_ret;exact⟨Wh HR.out.symm,by(repeat (first | assumption | exact Ext.rf _ | apply Ext.drew | apply Ext.drewN | apply Ext.alloc))⟩
 ·have hwa':(wa==0)=false:=by simpa using hwa
  by_cases hwb:wb=0
  ·subst hwb
   have HR:Hid ((!Z7 vs ws b a)=false):=by
    have h:=HA.out;rw[if_neg hwa,if_pos rfl] at h;have h2:(!Z7 vs ws b a)=false:=by rw[h];rfl
    exact h2
   clear hwa;go_enter Tryz.func156,Tryz.ntmps156;go_wp2_with (fail);go_ret;exact⟨Wh HR.out.symm,by(repeat (first | assumption | exact Ext.rf _ | apply Ext.drew | apply Ext.drewN | apply Ext.alloc))⟩
  ·have hwb':(wb==0)=false:=by simpa using hwb
   have HR:Hid ((!Z7 vs ws b a)=decide (0<=QG va wb vb wa)):=by
    have h:=HA.out;rw[if_neg hwa,if_neg hwb] at h;have h2:(!Z7 vs ws b a)=decide (0<=QG va wb vb wa):=by
     have cn:=Zbf bva.1 bwb.1 bvb.1 bwa.1;rw[h]
     cases hd:decide (va*wb<vb*wa) with
     | true =>
      have h3:=of_decide_eq_true hd;exact(decide_eq_false (fun h4=>by have:=cn.1 h4;omega)).symm
     | false =>
      have h3:=of_decide_eq_false hd;exact(decide_eq_true (cn.2 (by omega))).symm
    exact h2
   have bx:Blk (w.alloc (.cells #[.int .i64 k,.int .i64 nn,.int .i64 cap,.slice (some ⟨g2,o2,none⟩) ws.length d,.slice (some ⟨g1,o1,none⟩) vs.length c,.slice C l.length cc] 25)) w.heap.size 25 #[.int .i64 k,.int .i64 nn,.int .i64 cap,.slice (some ⟨g2,o2,none⟩) ws.length d,.slice (some ⟨g1,o1,none⟩) vs.length c,.slice C l.length cc]:=.new rfl;replace bx:=Hd bx;clear hwa hwb;go_enter Tryz.func156,Tryz.ntmps156;go_wp2_with (fail);go_region_held3 (fun w'=>w'.cell? ⟨w.heap.size,4,none⟩=some (.slice (some ⟨g1,o1,none⟩) vs.length c)/\w'.cell? ⟨w.heap.size,3,none⟩=some (.slice (some ⟨g2,o2,none⟩) ws.length d)/\w'.cell? ⟨g1,o1+a,none⟩=some (.int .i64 va)/\w'.cell? ⟨g1,o1+b,none⟩=some (.int .i64 vb)/\w'.cell? ⟨g2,o2+a,none⟩=some (.int .i64 wa)/\w'.cell? ⟨g2,o2+b,none⟩=some (.int .i64 wb)) (go_keep)
    (first
     | (go_at_call 128;refine(Zf5 va wb vb wa _ bva bwb bvb bwa).mono ?_;rintro e w2 ⟨rfl,x2⟩;have X2:=Ext.tr (a:=w) (by(repeat (first | assumption | exact Ext.rf _ | apply Ext.drew | apply Ext.drewN | apply Ext.alloc))) x2;have b2:=bx.out.ext (Ext.tr (by(repeat (first | assumption | exact Ext.rf _ | apply Ext.drew | apply Ext.drewN | apply Ext.alloc))) x2);have k1:=b2.cell 4;have k2:=b2.cell 3;have k3:=Zc X2 z1 c1;have k4:=Zc X2 z1 c2;have k5:=Zc X2 z2 c3;have k6:=Zc X2 z2 c4))
   all_goals go_wp2_with (fail)
   all_goals go_ret
   all_goals exact⟨Wh HR.out.symm,by(repeat (first | assumption | exact Ext.rf _ | apply Ext.drew | apply Ext.drewN | apply Ext.alloc))⟩
theorem ZdP (w:World)(base:Nat)(ty:TypeId)(g c k:Nat)(xs:List Int)(z:Int)(dp sp:Option Addr)(dL dC sL sC:Nat)(hown:OwI w base (some ⟨g,0,none⟩) c (xs++[z]))(hk:k<=xs.length)(hdL:dL=xs.length-k)(hsL:sL=xs.length+1-k)(hpos:k<xs.length->dp=some ⟨g,k+1,none⟩/\sp=some ⟨g,k,none⟩) :
  ∃ w',(Builtin.copy_ #[22,22] ty #[.slice dp dL dC,.slice sp sL sC]).run Tryz.prog w=.ok (goInt ((xs.length-k:Nat):Int)) w'/\OwI w' base (some ⟨g,0,none⟩) c (xs.take k++(xs++[z]).getD k 0::xs.drop k)/\Mod (fun i=>i=g) w w':=by
 subst hdL hsL;have hs:(Tryz.prog.info? 3).map (·.size)=some 1:=by kernel_rfl
 by_cases h0:k<xs.length
 ·obtain⟨rfl,rfl⟩:=hpos h0
  have RD:=hown.read;rcases hown.cases with⟨h,_⟩ | ⟨g',cur,h,hb,hg,hn,hm,hsz,ht⟩
  ·cases h
  ·obtain rfl:g=g':=by simpa using h
   simp only[Nat.mul_one] at hsz ht;have hcs:((xs.drop k).map (Value.int .i64)).length=xs.length-k:=by simp
   have R:=run_copy_row (P:=Tryz.prog) w 22 22 ty 3 g (k+1) (xs.length-k) dC ⟨g,k,none⟩ (xs.length+1-k) sC cur _ ((xs.drop k).map (Value.int .i64)) Tryz.underlying22 hs hg (by rw[hcs];simp only[Nat.min_def];split<;>omega) (fun j v hj=>by
    rw[List.getElem?_map,List.getElem?_drop] at hj;obtain⟨x,hx,rfl⟩:=Option.map_eq_some_iff.1 hj;rw[add_plain];rcases RD with h | ⟨b,off,h,_,hc⟩
    ·simp at h
    ·obtain⟨rfl,rfl⟩:g=b/\0=off:=by simpa using h
     have:=hc (k+j) x (by rw[List.getElem?_append_left (List.getElem?_eq_some_iff.1 hx).1];exact hx);rw[Nat.zero_add] at this;exact this) (by rw[hcs];simp at hn;omega) (fun v hv=>by
     obtain⟨x,_,rfl⟩:=List.mem_map.1 hv
     rfl)
   rw[hcs] at R;refine⟨_,R,.mk (cur:=_) hb (setRow_heap w g cur _ _ _ hg) (by simp at hn ⊢;omega) hm ?_ ?_,?_⟩
   ·simp at hn ⊢;omega
   ·have e1:cur.toList.take (k+1)=((xs++[z]).map (Value.int .i64)).take (k+1):=by
     rw[<-ht,List.take_take]
     congr 1
     simp;omega
    have e2:((xs++[z]).map (Value.int .i64)).take (k+1)=(xs.take k++[(xs++[z]).getD k 0]).map (Value.int .i64):=by
     have e3:(xs++[z]).take (k+1)=xs.take (k+1):=List.take_append_of_le_length (by omega);rw[<-List.map_take,e3,List.take_add_one,List.getElem?_eq_getElem h0,List.getD,List.getElem?_append_left h0,List.getElem?_eq_getElem h0]
     rfl
    simp only[Nat.mul_one];rw[e1,e2];rw[List.take_append_of_le_length (by simp;try omega)];rw[List.take_of_length_le (by simp;try omega)];simp
   ·exact⟨rfl,rfl,rfl,by simp[World.setRow],fun i hi hs=>setRow_other w g i _ (fun e=>hs e)⟩
 ·obtain rfl:k=xs.length:=by omega
  have R:=run_copy_none (P:=Tryz.prog) w 22 22 ty 3 dp sp (xs.length-xs.length) dC (xs.length+1-xs.length) sC Tryz.underlying22 hs (by simp only[Nat.min_def];split<;>omega);rw[show ((xs.length-xs.length:Nat):Int)=0 by omega];refine⟨w,R,?_,Mod.rf w⟩
  simpa [List.getD] using hown
theorem Jd {w:World}{ops:Array Oper}{o:Oper}{a:Act}{K:Act->World->Prop}{Q:Exit->Act->World->Prop}{E:Prop}(hgd:o.guard=none)(s x:Operand)
  (ho:o.op=.call { callee:=.builtin .copy,args:=#[s,x],argTypes:=#[22,22] })
  (base:Nat) (g c k:Nat) (xs:List Int) (z:Int) (dp sp:Option Addr) (dL dC sL sC:Nat) (hs:a.eval s=.slice dp dL dC) (hx:a.eval x=.slice sp sL sC)
  (hown:OwI w base (some ⟨g,0,none⟩) c (xs++[z])) (hk:k<=xs.length) (hdL:dL=xs.length-k) (hsL:sL=xs.length+1-k) (hpos:k<xs.length->dp=some ⟨g,k+1,none⟩/\sp=some ⟨g,k,none⟩)
  (h:∀ w',OwI w' base (some ⟨g,0,none⟩) c (xs.take k++(xs++[z]).getD k 0::xs.drop k)->Mod (fun i=>i=g) w w'->K (a.put o.dst (goInt ((xs.length-k:Nat):Int))) w') :
  if Region.wanted o (yielded ops a.tmps)=true then Oper.wp Tryz.prog o a w K Q else E:=by
 have hw:Region.wanted o (yielded ops a.tmps)=true:=by simp[Region.wanted,hgd]
 rw[if_pos hw];obtain⟨w',hrun,h2,h3⟩:=ZdP w base o.type g c k xs z dp sp dL dC sL sC hown hk hdL hsL hpos;unfold Oper.wp execOp;simp only[ho,resolve,invoke,builtin,Sem.run_bind,Sem.run_pure,Result.andThen_ok,List.map_toArray,List.map_cons,List.map_nil,hs,hx,hrun];exact h w' h2 h3
theorem ZdQ {lt:Nat->Nat->Bool}{k x:Nat}(h:x∈UG lt k) : x<k:=List.mem_range.1 ((V8 lt k).mem_iff.1 h)
theorem Zb0 (n:Nat)(l:List Nat)(a:Nat)(q:Int)(h:a<=l.length) : ((Zd l).take a++q::(Zd l).drop a).set a (n:Int)=Zd (Zdv n l a):=by
 have e:((Zd l).take a).length=a:=by rw[List.length_take,Zg];omega
 rw[List.set_append_right _ _ (by omega),e,Nat.sub_self,List.set_cons_zero];unfold Zdv Zd;rw[List.map_append,List.map_take,List.map_cons,List.map_drop]
theorem J7 {w3 w4:World}{base G c1 c2 c4:Nat}{t:TypeId}{cs:Array Value}{A1 A2 A4:Option Addr}{xs ys zs:List Int}(hB:Blk w3 G t cs)(ht:t≠3)(o1:OwI w3 base A1 c1 xs)(o2:OwI w3 base A2 c2 ys)(hd:∀ b,bl A1=some b->bl A2≠some b)(g4:w3.grownBy w4 (bl A1))(o4:OwI w4 base A4 c4 zs)(h5:bl A4=bl A1\/∃ g,bl A4=some g/\w3.heap.size<=g)(i:Nat)(v:Value) :
  Blk w4 G t cs/\Blk (w4.setCell ⟨G,i,none⟩ v) G t (cs.setIfInBounds i v)/\OwI (w4.setCell ⟨G,i,none⟩ v) base A4 c4 zs/\OwI (w4.setCell ⟨G,i,none⟩ v) base A2 c2 ys/\(∀ b,bl A4=some b->bl A2≠some b)/\∀ wa,Ext wa w3->wa.heap.size<=base->wa.heap.size<=G->Ext wa (w4.setCell ⟨G,i,none⟩ v):=by
 have n1:=o1.ne hB ht;have hB4:Blk w4 G t cs:=hB.grown g4 (fun h=>n1 G h rfl);have o24:OwI w4 base A2 c2 ys:=o2.mod (Mod.grown (S:=fun b=>bl A1=some b) g4 fun g h=>h) fun b hb h=>hd b h hb
 refine⟨hB4,hB4.set i v,o4.far hB4 ht i v,o24.far hB4 ht i v,fun b hb h=>?_,fun wa x h1 h2=>?_⟩
 ·rcases h5 with e | ⟨g,e,hg⟩
  ·exact hd b (by rw[<-e];exact hb) h
  ·have:=(o2.lt b h).2
   rw[e] at hb
   injection hb with hb
   omega
 ·exact(x.grow g4 fun k hk=>Nat.le_trans h1 (o1.lt k hk).1).mod (Mod.set (S:=fun k=>k=G) (p:=⟨G,i,none⟩) (Mod.rf w4) (.inl rfl) v) fun k hk e=>by omega
def ZcC (i:InstP)(w:World)(e:Ending)(w':World) : Prop:=∃ g,e=.returned (.pointer (some ⟨g,0,none⟩))/\KnB w' g i.cap (wsP i) (vsP i)/\Ext w w'
theorem ZcD (i:InstP)(us:List Value)(w:World)(H:RInst w us i)(hc:Zh i=0)(hk:i.kind=1) :
  Calls Tryz.prog 104 #[.agg (List.toArray us)] w (ZcC i w):=by
 have ok:=ZR hc hk;have k1:=ok.n1;have k2:=ok.n2;have k3:=ok.w;have k4:=ok.v;have sv:=ok.sv;have sw:=ok.sw;have AH:=fun(W:World) (x:Ext w W) (p k:Nat) (hp:p<i.value.length) (hk:k<i.value.length)=>Ze4 i us p k W (H.ext x) sv sw hp hk (by omega) (by omega)
 have hOR:Hid (UG (Z7 i.value i.weight) i.value.length=ZS i):=ZeN fun x hx=>(sw x hx).1
 have hW:Hid (wsP i=Zx (ZS i) i.weight):=rfl;have hV:Hid (vsP i=Zx (ZS i) i.value):=rfl;have hlo:=WG ok;obtain⟨O,hO⟩:∃ O,Hid (ZS i=O):=⟨_,rfl⟩;obtain⟨WS,hWS⟩:∃ WS,Hid (wsP i=WS):=⟨_,rfl⟩;obtain⟨VS,hVS⟩:∃ VS,Hid (vsP i=VS):=⟨_,rfl⟩;unfold ZcC;rw[hWS.out,hVS.out];rw[hO.out] at hOR hW hV hlo;rw[hWS.out] at hW;rw[hVS.out] at hV;clear ok hc hk hO hWS hVS;obtain⟨k0,nn,cap,ws,vs,l⟩:=i;obtain⟨A,ca,B,cb,C,cc,rfl,⟨rA,iA,lA,mA⟩,⟨rB,iB,lB,mB⟩,-⟩:=H;simp only at *;obtain⟨n,rfl⟩:∃ n:Nat,nn=(n:Int):=⟨nn.toNat,by omega⟩;have lwn:ws.length=n:=by omega
 have lvn:vs.length=n:=by omega
 have lon:O.length=n:=by omega
 have hn2:n<=64:=by omega
 rw[lvn] at hOR;replace AH:=Hd fun(W:World) (x:Ext w W) (p k:Nat) (hp:p<n) (hk:k<n)=>AH W x p k (by rw[lvn];exact hp) (by rw[lvn];exact hk)
 obtain⟨lt,hlt⟩:∃ lt,Hid (Z7 vs ws=lt):=⟨_,rfl⟩;rw[hlt.out] at AH hOR;have OL:=Hd (fun k=>Zdw lt k);have OM:Hid (∀ k x,x∈UG lt k->x<k):=fun k x h=>ZdQ h
 have OS:Hid (∀ k,UG lt (k+1)=Zdv k (UG lt k) (W7 lt k (UG lt k) k)):=fun k=>by
  show Zf8 lt k (UG lt k)=_;unfold Zf8;rw[Zdw]
 clear hlt k3 k4;replace lwn:=Hd lwn;replace lvn:=Hd lvn;replace lon:=Hd lon;replace rA:=Hd rA;replace rB:=Hd rB;replace iA:=Hd iA;replace iB:=Hd iB;replace mA:=Hd mA;replace mB:=Hd mB;replace sv:=Hd sv;replace sw:=Hd sw;replace hlo:=Hd hlo;obtain⟨wb,hwb⟩:∃ wb,Hid (wb=w.alloc (.cells #[.int .i64 k0,.int .i64 n,.int .i64 cap,.slice A ws.length ca,.slice B vs.length cb,.slice C l.length cc] 25)):=⟨_,rfl⟩;have XB:Hid (Ext w wb):=Hd (by rw[hwb.out];exact(Ext.rf w).alloc _);have B1:Hid (Blk wb w.heap.size 25 #[.int .i64 k0,.int .i64 n,.int .i64 cap,.slice A ws.length ca,.slice B vs.length cb,.slice C l.length cc]):=Hd (by rw[hwb.out];exact .new rfl);have START:Hid (OwI wb wb.heap.size none 0 (Zd (UG lt 0))):=OwI.nil _ _;go_enter Tryz.func104,Tryz.ntmps104;go_wp2_with (fail);rw[<-hwb.out];have b0:=B1.out.c1;go_wp2_with (fail);go_loopw [3,11] (fun v3 v11 wr=>∃ (k:Nat) (A':Option Addr) (c:Nat),v11=.int .i64 k/\v3=.slice A' k c/\k<=n/\Hid (OwI wr wb.heap.size A' c (Zd (UG lt k)))/\Hid (Ext wb wr)) (fun _ v _=>n-(intOf v).toNat)
 case atStart=>exact⟨0,none,0,rfl,rfl,by omega,START,by(repeat (first | assumption | exact Ext.rf _ | apply Ext.drew | apply Ext.drewN | apply Ext.alloc))⟩
 case round =>
  obtain⟨wo,rfl⟩:∃ wo:World,wo=wr:=⟨_,rfl⟩;clear START b0;obtain⟨k,A',c,rfl,rfl,hk,oP,Y⟩:=hrel;have X:=Hd (XB.out.tr Y.out)
  by_cases hlt:k<n
  ·have q1:(k:Int)<(n:Int):=by omega
   have olk:=OL.out k;obtain⟨L,hL⟩:∃ L,Hid (UG lt k=L):=⟨_,rfl⟩;have OSk:Hid (Zd (UG lt (k+1))=Zd (Zdv k L (W7 lt k L k))):=Hd (by rw[OS.out k,hL.out]);have OMk:Hid (∀ x∈L,x<k):=fun x hx=>OM.out k x (by rw[hL.out];exact hx)
   rw[hL.out] at oP olk;have ol2:(Zd L).length=k:=by rw[Zg];exact olk
   have ol3:=oP.out.le;rw[ol2] at ol3;replace ol2:=Hd ol2;replace olk:=Hd olk;obtain⟨pos,hpos⟩:∃ pos,Hid (W7 lt k L k=pos):=⟨_,rfl⟩;have S1:Hid (W7 lt k L k=pos):=hpos;rw[hpos.out] at OSk;clear hpos;go_wp2_with (fail);go_loopw [5] (fun v5 wr=>∃ a:Nat,v5=.int .i64 a/\a<=k/\Hid (W7 lt k L a=pos)/\Hid (Ext wo wr)) (fun v _=>(intOf v).toNat)
   case atStart=>exact⟨k,rfl,by omega,S1,by(repeat (first | assumption | exact Ext.rf _ | apply Ext.drew | apply Ext.drewN | apply Ext.alloc))⟩
   case round =>
    obtain⟨wi,rfl⟩:∃ wi:World,wi=wr:=⟨_,rfl⟩;clear S1;obtain⟨a,rfl,ha,hS,YI⟩:=hrel;have XI:=Hd (Y.out.tr YI.out);have BB:=Hd (B1.out.ext XI.out);have d0:=BB.out.c0;have d1:=BB.out.c1;have d2:=BB.out.c2;have d3:=BB.out.c3;have d4:=BB.out.c4;have d5:=BB.out.c5;have oPi:=Hd (oP.out.ext YI.out)
    by_cases ha0:a=0
    ·obtain rfl:pos=a:=by
      have h:=hS.out;rw[ha0] at h;rw[ha0];exact h.symm
     have hg0:decide ((0:Int)<(pos:Int))=false:=decide_eq_false (by omega);have hg1:decide (0<pos)=false:=decide_eq_false (by omega);replace ha0:=Hd ha0;clear hS d0 d1 d2 d3 d4 d5;go_wp2_with (fail);go_quiet (fail);have ol4:=ol2.out;go_wp2_with (at_builtin;(refine ZG _ rfl _ _ rfl wb.heap.size A' k c (Zd L) [0] (some ⟨wi.heap.size,0,none⟩) 1 rfl rfl ol2.out.symm ?_ ?_ ?_ ?_ ?_;(refine OwI.ext oPi.out ?_;(repeat (first | assumption | exact Ext.rf _ | apply Ext.drew | apply Ext.drewN | apply Ext.alloc)));(exact .blk (.new (by simp)) rfl);(rw[ol2.out];simp;omega);(have:=(Y.out.tr YI.out).size;simp;omega);rintro A7 c7 w7 o7 g7 _;have Y7:Ext wb w7:=Ext.grow (a:=wb) (Ext.tr (Y.out.tr YI.out) (by(repeat (first | assumption | exact Ext.rf _ | apply Ext.drew | apply Ext.drewN | apply Ext.alloc)))) g7 (fun kk hkk=>(oP.out.lt kk hkk).1);obtain⟨gA,_,rfl,zgA,_⟩:=o7.at (k:=0) (by simp)));have l7:=o7.le;rw[List.length_append,ol2.out] at l7;simp only[List.length_cons,List.length_nil] at l7;have t7:w7.cell? ⟨w.heap.size,1,none⟩=some (.int .i64 n):=(B1.out.ext Y7).cell 1;have zw7:w.heap.size<w7.heap.size:=(B1.out.ext Y7).lt;have O7:=Hd o7;replace Y7:=Hd Y7;clear o7 g7;have hk1:((pos:Nat):Int)<=(k:Int):=by omega
     have hk2:(k:Int)+1<=(c7:Int):=by omega
     have hk3:IntKind.i64.wrap ((pos:Int)+1)=(pos:Int)+1:=IntWalk.i64_in _ (by omega);have hk4:(0:Int)<=(pos:Int):=by omega
     have hk5:(pos:Int)+1<=(k:Int)+1:=by omega
     have hk6:(0:Int)<=(pos:Int)+1:=by omega
     have hk7:(pos:Int)<=(k:Int)+1:=by omega
     have hk8:¬c7=pos:=by omega
     have hk9:pos<=k+1:=by omega
     have hk10:pos<=c7:=by omega
     have hk11:pos+1<=c7:=by omega
     have hk12:(pos:Int)<=(c7:Int):=by omega
     have hk13:(pos:Int)+1<=(c7:Int):=by omega
     by_cases hcz:c7=pos+1
     all_goals
      go_wp2_with (fail);go_region_held3 (fun w'=>w'.cell? ⟨w.heap.size,1,none⟩=some (.int .i64 n)) (go_keep)
       (first | (refine Jd (by rfl) _ _ (by rfl) wb.heap.size gA c7 pos (Zd L) 0 _ _ _ _ _ _ (by rfl) (by rfl) ?_ ?_ ?_ ?_ ?_ ?_;(refine OwI.ext O7.out ?_;(repeat (first | assumption | exact Ext.rf _ | apply Ext.drew | apply Ext.drewN | apply Ext.alloc)));omega;omega;omega;(intro hh;first | exact⟨rfl,rfl⟩ | (exfalso;omega));rintro w8 o8 m8;have Y8:Ext wb w8:=Ext.mod (Y7.out.tr (by(repeat (first | assumption | exact Ext.rf _ | apply Ext.drew | apply Ext.drewN | apply Ext.alloc)))) m8 (fun kk hkk e=>by omega);have s1:w8.cell? ⟨w.heap.size,1,none⟩=some (.int .i64 n):=(B1.out.ext Y8).cell 1))
      all_goals
       obtain⟨x8,c8,f8,hb8,_,hs8⟩:=OwI.cell o8 (k:=pos) (by rw[List.length_append,List.length_take,List.length_cons,List.length_drop,ol4];omega);have FIN:Hid (OwI (w8.setCell ⟨gA,pos,none⟩ (.int .i64 k)) wb.heap.size (some ⟨gA,0,none⟩) c7 (Zd (UG lt (k+1)))):=by
        have h:=hs8.out (k:Int);rw[Zb0 _ _ _ _ (by rw[olk.out];omega),<-OSk.out] at h;exact h
       have YF:Hid (Ext wb (w8.setCell ⟨gA,pos,none⟩ (.int .i64 k))):=Ext.mod Y8 (Mod.set (S:=fun i=>i=gA) (p:=⟨gA,pos,none⟩) (Mod.rf w8) (.inl rfl) _) (fun kk hkk e=>by omega);replace Y8:=Hd Y8;have hka:pos<k+1:=by omega
       have hkb:((pos:Nat):Int)<((k+1:Nat):Int):=by omega
       clear o8 m8 hs8 s1;go_wp2_with (fail);go_roundw
       case rel=>exact⟨k+1,some ⟨gA,0,none⟩,c7,by go_num,by first | rfl | (simp;done),by omega,OwI.ext FIN.out (by(repeat (first | assumption | exact Ext.rf _ | apply Ext.drew | apply Ext.drewN | apply Ext.alloc))),YF.out.tr (by(repeat (first | assumption | exact Ext.rf _ | apply Ext.drew | apply Ext.drewN | apply Ext.alloc)))⟩
       case measure=>simp[intOf];omega
    ·obtain⟨b,hab⟩:∃ b,Hid (a=b+1):=⟨a-1,(by omega:a=a-1+1)⟩
     have hbk:b<k:=by have:=hab.out;omega
     obtain⟨gP,pv,rfl,zgb,zgP,cP,_,eP,_⟩:=oPi.out.at (k:=b) (by rw[ol2.out];omega);obtain⟨p,hp⟩:∃ p,Hid (L[b]?=some p):=⟨L[b]'(by rw[olk.out];omega),List.getElem?_eq_getElem _⟩;obtain rfl:pv=(p:Int):=by
      have h:=eP.out;rw[ZD hp.out] at h;exact(Option.some.inj h).symm
     have hpk:=OMk.out p (List.mem_of_getElem? hp.out);have ACp:=Hd (fun(W:World) (x:Ext wi W)=>AH.out W (X.out.tr (YI.out.tr x)) p k (by omega) (by omega));have zw:w.heap.size<wi.heap.size:=BB.out.lt;have hq0:decide ((0:Int)<(a:Int))=true:=decide_eq_true (by omega);have hq9:decide (0<a)=true:=decide_eq_true (by omega);have hq1:(a:Int)-1=(b:Int):=by have:=hab.out;omega
     have hw1:IntKind.i64.wrap (b:Int)=(b:Int):=IntWalk.i64_in _ (by omega);have hw2:IntKind.i64.wrap ((a:Int)-1)=(b:Int):=by rw[hq1,hw1]
     have hq2:(b:Int)<(k:Int):=by omega
     have hq4:(0:Int)<=(b:Int):=by omega
     have hgd:L.getD b 0=p:=by rw[List.getD,hp.out];rfl
     have hS2:=hS.out;rw[hab.out,W7,hgd] at hS2;replace hq1:=Hd hq1;replace ha0:=Hd ha0
     cases hb:lt k p with
     | true =>
      rw[hb,if_pos rfl] at hS2;rw[hb] at ACp;replace hS2:=Hd hS2;clear hS eP hgd;go_wp2_with (fail);go_region_held3 (fun w'=>w'.cell? ⟨w.heap.size,0,none⟩=some (.int .i64 k0)/\w'.cell? ⟨w.heap.size,1,none⟩=some (.int .i64 n)/\w'.cell? ⟨w.heap.size,2,none⟩=some (.int .i64 cap)/\w'.cell? ⟨w.heap.size,3,none⟩=some (.slice A ws.length ca)/\w'.cell? ⟨w.heap.size,4,none⟩=some (.slice B vs.length cb)/\w'.cell? ⟨w.heap.size,5,none⟩=some (.slice C l.length cc)/\w'.cell? ⟨gP,b,none⟩=some (.int .i64 p)) (go_keep)
       (first | (go_at_call 156;refine(ACp.out _ (by(repeat (first | assumption | exact Ext.rf _ | apply Ext.drew | apply Ext.drewN | apply Ext.alloc)))).mono ?_;rintro e w2 ⟨rfl,x2⟩;have Y2:=Ext.tr (a:=wi) (by(repeat (first | assumption | exact Ext.rf _ | apply Ext.drew | apply Ext.drewN | apply Ext.alloc))) x2;have s1:=Zc Y2 zw d0;have s2:=Zc Y2 zw d1;have s3:=Zc Y2 zw d2;have s4:=Zc Y2 zw d3;have s5:=Zc Y2 zw d4;have s6:=Zc Y2 zw d5;have s7:=Zc Y2 zgP cP))
      all_goals
       have YJ:=Hd (YI.out.tr Y2);clear s1 s2 s3 s4 s5 s6 s7 x2 Y2;go_wp2_with (fail);go_roundw
       case rel=>exact⟨b,by go_num,by omega,hS2,YJ.out.tr (by(repeat (first | assumption | exact Ext.rf _ | apply Ext.drew | apply Ext.drewN | apply Ext.alloc)))⟩
       case measure=>simp[intOf];(try (have:=hab.out;omega))
     | false =>
      rw[hb,if_neg (by simp)] at hS2;rw[hb] at ACp;obtain rfl:pos=a:=by rw[hab.out];exact hS2.symm
      clear hS eP hgd hS2;go_wp2_with (fail);go_region_held3 (fun w'=>w'.cell? ⟨w.heap.size,0,none⟩=some (.int .i64 k0)/\w'.cell? ⟨w.heap.size,1,none⟩=some (.int .i64 n)/\w'.cell? ⟨w.heap.size,2,none⟩=some (.int .i64 cap)/\w'.cell? ⟨w.heap.size,3,none⟩=some (.slice A ws.length ca)/\w'.cell? ⟨w.heap.size,4,none⟩=some (.slice B vs.length cb)/\w'.cell? ⟨w.heap.size,5,none⟩=some (.slice C l.length cc)/\w'.cell? ⟨gP,b,none⟩=some (.int .i64 p)) (go_keep)
       (first | (go_at_call 156;refine(ACp.out _ (by(repeat (first | assumption | exact Ext.rf _ | apply Ext.drew | apply Ext.drewN | apply Ext.alloc)))).mono ?_;rintro e w2 ⟨rfl,x2⟩;have Y2:=Ext.tr (a:=wi) (by(repeat (first | assumption | exact Ext.rf _ | apply Ext.drew | apply Ext.drewN | apply Ext.alloc))) x2;have s1:=Zc Y2 zw d0;have s2:=Zc Y2 zw d1;have s3:=Zc Y2 zw d2;have s4:=Zc Y2 zw d3;have s5:=Zc Y2 zw d4;have s6:=Zc Y2 zw d5;have s7:=Zc Y2 zgP cP))
      all_goals
       have YJ:=Hd (YI.out.tr Y2);have oPj:=Hd (oPi.out.ext Y2);clear s1 s2 s3 s4 s5 s6 s7 x2 Y2;have ol4:=ol2.out;go_wp2_with (at_builtin;(refine ZG _ rfl _ _ rfl wb.heap.size (some ⟨gP,0,none⟩) k c (Zd L) [0] (some ⟨w2.heap.size,0,none⟩) 1 rfl rfl ol2.out.symm ?_ ?_ ?_ ?_ ?_;(refine OwI.ext oPj.out ?_;(repeat (first | assumption | exact Ext.rf _ | apply Ext.drew | apply Ext.drewN | apply Ext.alloc)));(exact .blk (.new (by simp)) rfl);(rw[ol2.out];simp;omega);(have:=(Y.out.tr YJ.out).size;simp;omega);rintro A7 c7 w7 o7 g7 _;have Y7:Ext wb w7:=Ext.grow (a:=wb) (Ext.tr (Y.out.tr YJ.out) (by(repeat (first | assumption | exact Ext.rf _ | apply Ext.drew | apply Ext.drewN | apply Ext.alloc)))) g7 (fun kk hkk=>(oP.out.lt kk hkk).1);obtain⟨gA,_,rfl,zgA,_⟩:=o7.at (k:=0) (by simp)));have l7:=o7.le;rw[List.length_append,ol2.out] at l7;simp only[List.length_cons,List.length_nil] at l7;have t7:w7.cell? ⟨w.heap.size,1,none⟩=some (.int .i64 n):=(B1.out.ext Y7).cell 1;have zw7:w.heap.size<w7.heap.size:=(B1.out.ext Y7).lt;have O7:=Hd o7;replace Y7:=Hd Y7;clear o7 g7;have hk1:((pos:Nat):Int)<=(k:Int):=by omega
       have hk2:(k:Int)+1<=(c7:Int):=by omega
       have hk3:IntKind.i64.wrap ((pos:Int)+1)=(pos:Int)+1:=IntWalk.i64_in _ (by omega);have hk4:(0:Int)<=(pos:Int):=by omega
       have hk5:(pos:Int)+1<=(k:Int)+1:=by omega
       have hk6:(0:Int)<=(pos:Int)+1:=by omega
       have hk7:(pos:Int)<=(k:Int)+1:=by omega
       have hk8:¬c7=pos:=by omega
       have hk9:pos<=k+1:=by omega
       have hk10:pos<=c7:=by omega
       have hk11:pos+1<=c7:=by omega
       have hk12:(pos:Int)<=(c7:Int):=by omega
       have hk13:(pos:Int)+1<=(c7:Int):=by omega
       by_cases hcz:c7=pos+1
       all_goals
        go_wp2_with (fail);go_region_held3 (fun w'=>w'.cell? ⟨w.heap.size,1,none⟩=some (.int .i64 n)) (go_keep)
         (first | (refine Jd (by rfl) _ _ (by rfl) wb.heap.size gA c7 pos (Zd L) 0 _ _ _ _ _ _ (by rfl) (by rfl) ?_ ?_ ?_ ?_ ?_ ?_;(refine OwI.ext O7.out ?_;(repeat (first | assumption | exact Ext.rf _ | apply Ext.drew | apply Ext.drewN | apply Ext.alloc)));omega;omega;omega;(intro hh;first | exact⟨rfl,rfl⟩ | (exfalso;omega));rintro w8 o8 m8;have Y8:Ext wb w8:=Ext.mod (Y7.out.tr (by(repeat (first | assumption | exact Ext.rf _ | apply Ext.drew | apply Ext.drewN | apply Ext.alloc)))) m8 (fun kk hkk e=>by omega);have s1:w8.cell? ⟨w.heap.size,1,none⟩=some (.int .i64 n):=(B1.out.ext Y8).cell 1))
        all_goals
         obtain⟨x8,c8,f8,hb8,_,hs8⟩:=OwI.cell o8 (k:=pos) (by rw[List.length_append,List.length_take,List.length_cons,List.length_drop,ol4];omega);have FIN:Hid (OwI (w8.setCell ⟨gA,pos,none⟩ (.int .i64 k)) wb.heap.size (some ⟨gA,0,none⟩) c7 (Zd (UG lt (k+1)))):=by
          have h:=hs8.out (k:Int);rw[Zb0 _ _ _ _ (by rw[olk.out];omega),<-OSk.out] at h;exact h
         have YF:Hid (Ext wb (w8.setCell ⟨gA,pos,none⟩ (.int .i64 k))):=Ext.mod Y8 (Mod.set (S:=fun i=>i=gA) (p:=⟨gA,pos,none⟩) (Mod.rf w8) (.inl rfl) _) (fun kk hkk e=>by omega);replace Y8:=Hd Y8;have hka:pos<k+1:=by omega
         have hkb:((pos:Nat):Int)<((k+1:Nat):Int):=by omega
         clear o8 m8 hs8 s1;go_wp2_with (fail);go_roundw
         case rel=>exact⟨k+1,some ⟨gA,0,none⟩,c7,by go_num,by first | rfl | (simp;done),by omega,OwI.ext FIN.out (by(repeat (first | assumption | exact Ext.rf _ | apply Ext.drew | apply Ext.drewN | apply Ext.alloc))),YF.out.tr (by(repeat (first | assumption | exact Ext.rf _ | apply Ext.drew | apply Ext.drewN | apply Ext.alloc)))⟩
         case measure=>simp[intOf];omega
  ·obtain rfl:k=n:=by omega
   rw[hOR.out] at oP;have BB:=Hd (B1.out.ext Y.out);have d2:=BB.out.c2;have hle:ws.length<=ca:=lA;have hle2:vs.length<=cb:=lB;have S1:Hid (OwI wo wo.heap.size none 0 (Zx (O.take 0) ws)):=OwI.nil _ _;have S2:Hid (OwI wo wo.heap.size none 0 (Zx (O.take 0) vs)):=OwI.nil _ _;have S3:Hid (∀ b,bl none=some b->bl none≠some b):=fun b h=>by simp[bl] at h
   have S4:Hid (Blk (wo.alloc (.cells #[.int .i64 cap,.slice none 0 0,.slice none 0 0] 210)) wo.heap.size 210 #[.int .i64 cap,.slice none 0 0,.slice none 0 0]):=.new rfl;obtain⟨i0,hi,hz0,hz1,hz2⟩:=info_parts UI;have hbs:∀ (u:World) (x:Int),(Instr.buildSlice 22 1 #[(0,.int .i64 x)]).run Tryz.prog u=.ok (.slice (some ⟨u.heap.size,0,none⟩) 1 1) (u.alloc (.cells #[.int .i64 x] 3)):=fun u x=>by go_simp
   replace hbs:=Hd hbs;replace hi:=Hd hi;clear OS OM AH hz0 hz1 hz2;go_wp2_with (fail);go_loopw [53] (fun v wr=>∃ (m:Nat) (A1:Option Addr) (c1:Nat) (A2:Option Addr) (c2:Nat),v=.int .i64 m/\m<=k/\Hid (Blk wr wo.heap.size 210 #[.int .i64 cap,.slice A1 m c1,.slice A2 m c2])/\Hid (OwI wr wo.heap.size A1 c1 (Zx (O.take m) ws))/\Hid (OwI wr wo.heap.size A2 c2 (Zx (O.take m) vs))/\Hid (∀ b,bl A1=some b->bl A2≠some b)/\Hid (Ext wo wr)) (fun v _=>k-(intOf v).toNat)
   case atStart=>exact⟨0,none,0,none,0,rfl,by omega,S4.out.ext (by(repeat (first | assumption | exact Ext.rf _ | apply Ext.drew | apply Ext.drewN | apply Ext.alloc))),S1.out.ext (by(repeat (first | assumption | exact Ext.rf _ | apply Ext.drew | apply Ext.drewN | apply Ext.alloc))),S2.out.ext (by(repeat (first | assumption | exact Ext.rf _ | apply Ext.drew | apply Ext.drewN | apply Ext.alloc))),S3,by(repeat (first | assumption | exact Ext.rf _ | apply Ext.drew | apply Ext.drewN | apply Ext.alloc))⟩
   case round =>
    obtain⟨wi,rfl⟩:∃ wi:World,wi=wr:=⟨_,rfl⟩;clear S1 S2 S3 S4 d2;obtain⟨m,A1,c1,A2,c2,rfl,hm,BK,o1,o2,dis,YI⟩:=hrel;have XI:=Hd (X.out.tr YI.out)
    by_cases hmk:m<k
    ·have hmo:m<O.length:=by rw[lon.out];exact hmk
     obtain⟨q,hq⟩:∃ q,Hid (O[m]?=some q):=⟨_,List.getElem?_eq_getElem hmo⟩;have hqk:q<k:=ZdQ (lt:=lt) (by rw[hOR.out];exact List.mem_of_getElem? hq.out);obtain⟨pb,po,pv,rfl,zp,cp,ep,_⟩:=(oP.out.read.ext YI.out).at (k:=m) (by rw[Zg];exact hmo);obtain rfl:pv=(q:Int):=by
      have h:=ep.out;rw[ZD hq.out] at h;exact(Option.some.inj h).symm
     obtain⟨ab,ao,x,rfl,zx,cx,ex,_⟩:=(rA.out.ext XI.out).at (k:=q) (by rw[lwn.out];exact hqk);have NW:Hid (Zx (O.take m) ws++[x]=Zx (O.take (m+1)) ws):=(Q6 hq.out ex.out).symm;have LW:Hid (m=(Zx (O.take m) ws).length):=Hd (by rw[Yb,List.length_take];omega);have LV:Hid (m=(Zx (O.take m) vs).length):=Hd (by rw[Yb,List.length_take];omega);have q1:(m:Int)<(k:Int):=by omega
     have q2:(q:Int)<(ws.length:Int):=by rw[lwn.out];omega
     have q3:(q:Int)<(vs.length:Int):=by rw[lvn.out];omega
     have q4:q<ws.length:=by omega
     have q5:q<vs.length:=by omega
     have BBi:=Hd (BB.out.ext YI.out);have zB:=BBi.out.lt;have zG:=BK.out.lt;have d3:=BBi.out.c3;have e1:=BK.out.c1;clear ep ex;go_wp2_with (fail);refine wp_region_any (by kernel_rfl) ?_
     change wpAny _ _ _ _ _ _ _ (World.drew _)
     refine Zb (i:=0) (op:=Op.move (Operand.tmp 6)) (t:=156) (d:=some 57) (v:=?_) rfl (by decide +kernel) (by decide +kernel) (by decide +kernel) (fun _ _ _ h=>h) ?_ ?_
     case refine_2=>(intro _;unfold Ze;go_simp;try with_reducible rfl)
     try simp only[lay]
     refine Zb (i:=1) (op:=Op.move (Operand.tmp 6)) (t:=156) (d:=some 58) (v:=?_) rfl (by decide +kernel) (by decide +kernel) (by decide +kernel) (fun _ _ _ h=>h) ?_ ?_
     case refine_2=>(intro _;unfold Ze;go_simp;try with_reducible rfl)
     try simp only[lay]
     refine Zb (i:=2) (op:=Op.nilCheck (Operand.tmp 58)) (t:=0) (d:=some 59) (v:=?_) rfl (by decide +kernel) (by decide +kernel) (by decide +kernel) (fun _ _ _ h=>h) ?_ ?_
     case refine_2=>(intro _;unfold Ze;go_simp;try with_reducible rfl)
     try simp only[lay]
     refine Zb (i:=3) (op:=Op.fieldAddr 210 (Operand.tmp 59) 1) (t:=0) (d:=some 60) (v:=?_) rfl (by decide +kernel) (by decide +kernel) (by decide +kernel) (fun _ _ _ h=>h) ?_ ?_
     case refine_2=>(intro _;unfold Ze;go_simp;try with_reducible rfl)
     try simp only[lay]
     refine Zb (i:=5) (op:=Op.fieldAddr 25 (Operand.tmp 1) 3) (t:=0) (d:=some 62) (v:=?_) rfl (by decide +kernel) (by decide +kernel) (by decide +kernel) (fun _ _ _ h=>h) ?_ ?_
     case refine_2=>(intro _;unfold Ze;go_simp;try with_reducible rfl)
     try simp only[lay]
     refine Zb (i:=7) (op:=Op.move (Operand.tmp 8)) (t:=3) (d:=some 64) (v:=?_) rfl (by decide +kernel) (by decide +kernel) (by decide +kernel) (fun _ _ _ h=>h) ?_ ?_
     case refine_2=>(intro _;unfold Ze;go_simp;try with_reducible rfl)
     try simp only[lay]
     refine Yu (n:=4) [(4,some 61),(6,some 63),(8,some 65),(9,some 66),(10,some 67)] (Ext wi)
      (VF (fun | 4=>some (.slice A1 m c1) | 6=>some (.slice (some ⟨ab,ao,none⟩) ws.length ca) | 8=>some (.pointer (some ⟨ab,ao+q,none⟩)) | 9=>some (.int .i64 x) | _=>none)
       (fun i v W=>i=10->∃ z,v=.slice (some ⟨z,0,none⟩) 1 1/\Blk W z 3 #[.int .i64 x]))
      Ext #[true,true,true,true,true,true,true,true,true,true,true,false,false,false,false] (by decide +kernel) (VF.stab ?_) ?_ ?_ ((Ext.rf _).drew)
     ·intro j v W W' _ gz hx h
      obtain⟨z,z1,z2⟩:=gz h;exact⟨z,z1,z2.ext hx⟩
     ·intro pq hpm u w2 hRW hD K hK
      have r1:=Zc hRW zG e1;have r3:=Zc hRW zB d3;have rx:=Zc hRW zx cx;simp only[List.mem_cons,List.not_mem_nil,or_false] at hpm;rcases hpm with rfl | rfl | rfl | rfl | rfl
      ·exact Zy (T:=22) rfl (.pointer (some ⟨wo.heap.size,1,none⟩)) (by kernel_rfl) (.slice A1 m c1) (by go_simp) (hK _ _ (VF.mk rfl) hRW (Ext.rf _))
      ·exact Zy (T:=22) rfl (.pointer (some ⟨w.heap.size,3,none⟩)) (by kernel_rfl) (.slice (some ⟨ab,ao,none⟩) ws.length ca) (by go_simp) (hK _ _ (VF.mk rfl) hRW (Ext.rf _))
      ·have h6:=(hD 6 (Zq (by kernel_rfl))).k rfl
       exact YG (T:=22) rfl (.slice (some ⟨ab,ao,none⟩) ws.length ca) (.int .i64 q) (Eq.trans (b:=u 6) (by kernel_rfl) h6) (by kernel_rfl) (.pointer (some ⟨ab,ao+q,none⟩)) (by go_simp) (hK _ _ (VF.mk rfl) hRW (Ext.rf _))
      ·have h8:=(hD 8 (Zq (by kernel_rfl))).k rfl
       exact Zy (T:=3) rfl (.pointer (some ⟨ab,ao+q,none⟩)) (Eq.trans (b:=u 8) (by kernel_rfl) h8) (.int .i64 x) (by go_simp) (hK _ _ (VF.mk rfl) hRW (Ext.rf _))
      ·have h9:=(hD 9 (Zq (by kernel_rfl))).k rfl
       exact Wj rfl (.int .i64 x) (Eq.trans (b:=u 9) (by kernel_rfl) h9) _ (hbs.out _ _) (hK _ _ (VF.mg rfl (fun _=>⟨_,rfl,.new rfl⟩)) (hRW.alloc _) ((Ext.rf _).alloc _))
     ·intro u w3 hRW hV
      have h4:=(hV (4,some 61) (by simp)).k rfl;have h6:=(hV (6,some 63) (by simp)).k rfl;have h8:=(hV (8,some 65) (by simp)).k rfl;have h9:=(hV (9,some 66) (by simp)).k rfl;obtain⟨z,h10,bz⟩:=(hV (10,some 67) (by simp)).g rfl rfl;simp only[Zn,h4,h6,h8,h9,h10];have o13:=o1.out.ext hRW;obtain⟨A4,c4,w4,hrun,o4,g4,h5⟩:=Yc w3 wo.heap.size 22 A1 m c1 (Zx (O.take m) ws) [x] (some ⟨z,0,none⟩) 1 LW.out o13 (.blk bz rfl) (by rw[<-LW.out];simp;omega) (YI.out.tr hRW).size;have hl:(Zx (O.take m) ws++[x]).length=m+1:=by rw[List.length_append,<-LW.out];rfl
      rw[hl] at hrun;rw[NW.out] at o4;obtain⟨bk4,bk5,o45,o25,dis5,xt5⟩:=J7 (BK.out.ext hRW) (by decide) o13 (o2.out.ext hRW) dis.out g4 o4 h5 1 (.slice A4 (m+1) c4);have f4:=bk4.free 1;have k4:=bk4.c1;have Y5:=Hd (xt5 wo (YI.out.tr hRW) (Nat.le_refl _) (Nat.le_refl _));have BK5:Hid (Blk (w4.setCell ⟨wo.heap.size,1,none⟩ (.slice A4 (m+1) c4)) wo.heap.size 210 #[.int .i64 cap,.slice A4 (m+1) c4,.slice A2 m c2]):=bk5;replace o45:=Hd o45;replace o25:=Hd o25;replace dis5:=Hd dis5;clear h4 h6 h8 h9 h10 hV o13 g4 h5 o4 xt5 bk5 bz bk4;refine Zm 11 (by kernel_rfl) (Yr rfl (.slice A1 m c1) (.slice (some ⟨z,0,none⟩) 1 1) (by kernel_rfl) (by kernel_rfl) _ hrun ?_)
      try simp only[lay]
      refine Zb (i:=12) (op:=Op.nilCheck (Operand.tmp 57)) (t:=0) (d:=some 69) (v:=?_) rfl (by decide +kernel) (by decide +kernel) (by decide +kernel) (fun _ _ _ h=>h) ?_ ?_
      case refine_2=>(intro _;unfold Ze;go_simp;try with_reducible rfl)
      try simp only[lay]
      refine Zb (i:=13) (op:=Op.fieldAddr 210 (Operand.tmp 69) 1) (t:=0) (d:=some 70) (v:=?_) rfl (by decide +kernel) (by decide +kernel) (by decide +kernel) (fun _ _ _ h=>h) ?_ ?_
      case refine_2=>(intro _;unfold Ze;go_simp;try with_reducible rfl)
      try simp only[lay]
      refine Zm 14 (by kernel_rfl) (Wk rfl (.pointer (some ⟨wo.heap.size,1,none⟩)) (.slice A4 (m+1) c4) (by kernel_rfl) (by kernel_rfl) (by go_simp;rfl) ?_);refine wpAny_done (by kernel_rfl) ?_ _;clear hrun k4 f4;obtain⟨w5,hw5⟩:∃ x5,x5=w4.setCell ⟨wo.heap.size,1,none⟩ (.slice A4 (m+1) c4):=⟨_,rfl⟩;rw[<-hw5] at BK5 o45 o25 Y5 ⊢;clear hw5;go_simp;clear cx zx NW o1 o2 dis BK zG zB d3 e1 LW BBi YI XI;have X5:=Hd (X.out.tr Y5.out);have BB5:=Hd (BB.out.ext Y5.out);have zB:=BB5.out.lt;have zG:=BK5.out.lt;obtain⟨vb,vo,y,rfl,zx,cx,ey,_⟩:=(rB.out.ext X5.out).at (k:=q) (by rw[lvn.out];exact hqk);have NV:Hid (Zx (O.take m) vs++[y]=Zx (O.take (m+1)) vs):=(Q6 hq.out ey.out).symm;have d4:=BB5.out.c4;have e2:=BK5.out.c2;have dis2:∀ b,bl A2=some b->bl A4≠some b:=fun b h1 h2=>dis5.out b h2 h1
      replace dis2:=Hd dis2;have BK0:=BK5;have Y0:=Y5;have o10:=o45;have o20:=o25;clear ey BK5 Y5 o45 o25 dis5;go_wp2_with (fail);refine wp_region_any (by kernel_rfl) ?_
      change wpAny _ _ _ _ _ _ _ (World.drew _)
      refine Zb (i:=0) (op:=Op.move (Operand.tmp 6)) (t:=156) (d:=some 71) (v:=?_) rfl (by decide +kernel) (by decide +kernel) (by decide +kernel) (fun _ _ _ h=>h) ?_ ?_
      case refine_2=>(intro _;unfold Ze;go_simp;try with_reducible rfl)
      try simp only[lay]
      refine Zb (i:=1) (op:=Op.move (Operand.tmp 6)) (t:=156) (d:=some 72) (v:=?_) rfl (by decide +kernel) (by decide +kernel) (by decide +kernel) (fun _ _ _ h=>h) ?_ ?_
      case refine_2=>(intro _;unfold Ze;go_simp;try with_reducible rfl)
      try simp only[lay]
      refine Zb (i:=2) (op:=Op.nilCheck (Operand.tmp 72)) (t:=0) (d:=some 73) (v:=?_) rfl (by decide +kernel) (by decide +kernel) (by decide +kernel) (fun _ _ _ h=>h) ?_ ?_
      case refine_2=>(intro _;unfold Ze;go_simp;try with_reducible rfl)
      try simp only[lay]
      refine Zb (i:=3) (op:=Op.fieldAddr 210 (Operand.tmp 73) 2) (t:=0) (d:=some 74) (v:=?_) rfl (by decide +kernel) (by decide +kernel) (by decide +kernel) (fun _ _ _ h=>h) ?_ ?_
      case refine_2=>(intro _;unfold Ze;go_simp;try with_reducible rfl)
      try simp only[lay]
      refine Zb (i:=5) (op:=Op.fieldAddr 25 (Operand.tmp 1) 4) (t:=0) (d:=some 76) (v:=?_) rfl (by decide +kernel) (by decide +kernel) (by decide +kernel) (fun _ _ _ h=>h) ?_ ?_
      case refine_2=>(intro _;unfold Ze;go_simp;try with_reducible rfl)
      try simp only[lay]
      refine Zb (i:=7) (op:=Op.move (Operand.tmp 8)) (t:=3) (d:=some 78) (v:=?_) rfl (by decide +kernel) (by decide +kernel) (by decide +kernel) (fun _ _ _ h=>h) ?_ ?_
      case refine_2=>(intro _;unfold Ze;go_simp;try with_reducible rfl)
      try simp only[lay]
      refine Yu (n:=4) [(4,some 75),(6,some 77),(8,some 79),(9,some 80),(10,some 81)] (Ext w5)
       (VF (fun | 4=>some (.slice A2 m c2) | 6=>some (.slice (some ⟨vb,vo,none⟩) vs.length cb) | 8=>some (.pointer (some ⟨vb,vo+q,none⟩)) | 9=>some (.int .i64 y) | _=>none)
        (fun i v W=>i=10->∃ z,v=.slice (some ⟨z,0,none⟩) 1 1/\Blk W z 3 #[.int .i64 y]))
       Ext #[true,true,true,true,true,true,true,true,true,true,true,false,false,false,false] (by decide +kernel) (VF.stab ?_) ?_ ?_ ((Ext.rf _).drew)
      ·intro j v W W' _ gz hx h
       obtain⟨z,z1,z2⟩:=gz h;exact⟨z,z1,z2.ext hx⟩
      ·intro pq hpm u w2 hRW hD K hK
       have r1:=Zc hRW zG e2;have r3:=Zc hRW zB d4;have rx:=Zc hRW zx cx;simp only[List.mem_cons,List.not_mem_nil,or_false] at hpm;rcases hpm with rfl | rfl | rfl | rfl | rfl
       ·exact Zy (T:=22) rfl (.pointer (some ⟨wo.heap.size,2,none⟩)) (by kernel_rfl) (.slice A2 m c2) (by go_simp) (hK _ _ (VF.mk rfl) hRW (Ext.rf _))
       ·exact Zy (T:=22) rfl (.pointer (some ⟨w.heap.size,4,none⟩)) (by kernel_rfl) (.slice (some ⟨vb,vo,none⟩) vs.length cb) (by go_simp) (hK _ _ (VF.mk rfl) hRW (Ext.rf _))
       ·have h6:=(hD 6 (Zq (by kernel_rfl))).k rfl
        exact YG (T:=22) rfl (.slice (some ⟨vb,vo,none⟩) vs.length cb) (.int .i64 q) (Eq.trans (b:=u 6) (by kernel_rfl) h6) (by kernel_rfl) (.pointer (some ⟨vb,vo+q,none⟩)) (by go_simp) (hK _ _ (VF.mk rfl) hRW (Ext.rf _))
       ·have h8:=(hD 8 (Zq (by kernel_rfl))).k rfl
        exact Zy (T:=3) rfl (.pointer (some ⟨vb,vo+q,none⟩)) (Eq.trans (b:=u 8) (by kernel_rfl) h8) (.int .i64 y) (by go_simp) (hK _ _ (VF.mk rfl) hRW (Ext.rf _))
       ·have h9:=(hD 9 (Zq (by kernel_rfl))).k rfl
        exact Wj rfl (.int .i64 y) (Eq.trans (b:=u 9) (by kernel_rfl) h9) _ (hbs.out _ _) (hK _ _ (VF.mg rfl (fun _=>⟨_,rfl,.new rfl⟩)) (hRW.alloc _) ((Ext.rf _).alloc _))
      ·intro u w6 hRW hV
       have h4:=(hV (4,some 75) (by simp)).k rfl;have h6:=(hV (6,some 77) (by simp)).k rfl;have h8:=(hV (8,some 79) (by simp)).k rfl;have h9:=(hV (9,some 80) (by simp)).k rfl;obtain⟨z,h10,bz⟩:=(hV (10,some 81) (by simp)).g rfl rfl;simp only[Zn,h4,h6,h8,h9,h10];have o13:=o20.out.ext hRW;obtain⟨A6,c6,w7,hrun,o4,g4,h5⟩:=Yc w6 wo.heap.size 22 A2 m c2 (Zx (O.take m) vs) [y] (some ⟨z,0,none⟩) 1 LV.out o13 (.blk bz rfl) (by rw[<-LV.out];simp;omega) (Y0.out.tr hRW).size;have hl:(Zx (O.take m) vs++[y]).length=m+1:=by rw[List.length_append,<-LV.out];rfl
       rw[hl] at hrun;rw[NV.out] at o4;obtain⟨bk4,bk5,o45,o25,dis5,xt5⟩:=J7 (BK0.out.ext hRW) (by decide) o13 (o10.out.ext hRW) dis2.out g4 o4 h5 2 (.slice A6 (m+1) c6);have f4:=bk4.free 2;have k4:=bk4.c2;have Y5:=Hd (xt5 wo (Y0.out.tr hRW) (Nat.le_refl _) (Nat.le_refl _));have BK5:Hid (Blk (w7.setCell ⟨wo.heap.size,2,none⟩ (.slice A6 (m+1) c6)) wo.heap.size 210 #[.int .i64 cap,.slice A4 (m+1) c4,.slice A6 (m+1) c6]):=bk5;replace o45:=Hd o45;replace o25:=Hd o25;replace dis5:=Hd dis5;clear h4 h6 h8 h9 h10 hV o13 g4 h5 o4 xt5 bk5 bz bk4;refine Zm 11 (by kernel_rfl) (Yr rfl (.slice A2 m c2) (.slice (some ⟨z,0,none⟩) 1 1) (by kernel_rfl) (by kernel_rfl) _ hrun ?_)
       try simp only[lay]
       refine Zb (i:=12) (op:=Op.nilCheck (Operand.tmp 71)) (t:=0) (d:=some 83) (v:=?_) rfl (by decide +kernel) (by decide +kernel) (by decide +kernel) (fun _ _ _ h=>h) ?_ ?_
       case refine_2=>(intro _;unfold Ze;go_simp;try with_reducible rfl)
       try simp only[lay]
       refine Zb (i:=13) (op:=Op.fieldAddr 210 (Operand.tmp 83) 2) (t:=0) (d:=some 84) (v:=?_) rfl (by decide +kernel) (by decide +kernel) (by decide +kernel) (fun _ _ _ h=>h) ?_ ?_
       case refine_2=>(intro _;unfold Ze;go_simp;try with_reducible rfl)
       try simp only[lay]
       refine Zm 14 (by kernel_rfl) (Wk rfl (.pointer (some ⟨wo.heap.size,2,none⟩)) (.slice A6 (m+1) c6) (by kernel_rfl) (by kernel_rfl) (by go_simp;rfl) ?_);refine wpAny_done (by kernel_rfl) ?_ _;clear hrun k4 f4;obtain⟨w8,hw5⟩:∃ x5,x5=w7.setCell ⟨wo.heap.size,2,none⟩ (.slice A6 (m+1) c6):=⟨_,rfl⟩;rw[<-hw5] at BK5 o45 o25 Y5 ⊢;clear hw5;go_simp;have disF:Hid (∀ b,bl A4=some b->bl A6≠some b):=fun b h1 h2=>dis5.out b h2 h1
       go_wp2_with (fail);go_roundw
       case rel=>exact⟨m+1,A4,c4,A6,c6,by go_num,by omega,BK5.out.ext (by(repeat (first | assumption | exact Ext.rf _ | apply Ext.drew | apply Ext.drewN | apply Ext.alloc))),o25.out.ext (by(repeat (first | assumption | exact Ext.rf _ | apply Ext.drew | apply Ext.drewN | apply Ext.alloc))),o45.out.ext (by(repeat (first | assumption | exact Ext.rf _ | apply Ext.drew | apply Ext.drewN | apply Ext.alloc))),disF,Y5.out.tr (by(repeat (first | assumption | exact Ext.rf _ | apply Ext.drew | apply Ext.drewN | apply Ext.alloc)))⟩
       case measure=>simp[intOf];omega
    ·obtain rfl:m=k:=by omega
     have EW:Hid (Zx (O.take m) ws=WS):=Hd (by rw[<-lon.out,List.take_length];exact hW.out.symm);have EV:Hid (Zx (O.take m) vs=VS):=Hd (by rw[<-lon.out,List.take_length];exact hV.out.symm);have LW:Hid (m=WS.length):=Hd (by rw[<-EW.out,Yb,List.length_take,lon.out];omega);have LV:Hid (m=VS.length):=Hd (by rw[<-EV.out,Yb,List.length_take,lon.out];omega);rw[EW.out] at o1;rw[EV.out] at o2;have FIN:Hid (KnB wi wo.heap.size cap WS VS):=⟨A1,c1,A2,c2,by rw[<-LW.out,<-LV.out];exact BK.out,o1.out.read,o2.out.read⟩;clear EW EV LW LV hW hV;go_wp2_with (fail);go_ret;exact⟨_,rfl,FIN.out.ext (by(repeat (first | assumption | exact Ext.rf _ | apply Ext.drew | apply Ext.drewN | apply Ext.alloc))),XI.out.tr (by(repeat (first | assumption | exact Ext.rf _ | apply Ext.drew | apply Ext.drewN | apply Ext.alloc)))⟩
end Go.Proofs.YtmojhhlcocjoaaaGreatDoor
