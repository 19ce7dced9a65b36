/- packed and squeezed by programs (see wip/) -/
import Derived.Test.YtmojhhlcocjoaaaGreatDoorCheckBentP4
set_option maxRecDepth 100000
set_option maxHeartbeats 16000000
set_option linter.unusedVariables false
set_option linter.unusedSimpArgs false
namespace Go.Proofs.YtmojhhlcocjoaaaGreatDoor
open Go.RowKit Go.ChangeShapes Go.WideShapes Go.ChangeAt Go.Deep
def W4 (f:Int->Int) : Int->List Nat->Int
 | b,[]=>b
 | b,k::l=>W4 f (pkB b (f (k:Int))) l
def Uz (k:Nat) : List Nat:=(List.range 2).drop k
theorem ZeJ (i:InstP)(us:List Value)(P:Option Addr)(c:Nat)(x:List Int)(w:World)(H:RInst w us i)(hk2:i.kind=1)(hP:RdI w P x)(lx:x.length<=1000)(n:Nat)(hn:i.n=n)(n1:1<=n)(n64:n<=64)(hlen:x.length<n)(f:Int->Int)
  (IH:∀ (k:Nat) (A:Option Addr) (d:Nat) (q:List Int),k<2->q=x++[(k:Int)]->∀ W,Ext w W->RdI W A q->Calls Tryz.prog 28 #[.agg (List.toArray us),.slice A q.length d] W fun e w'=>e=.returned (.int .i64 (f (k:Int)))/\Ext W w') :
  Calls Tryz.prog 28 #[.agg (List.toArray us),.slice P x.length c] w fun e w'=>e=.returned (.int .i64 (pkB (pkB (-1) (f 0)) (f 1)))/\Ext w w':=by
 have e5:W4 f (-1) (Uz 0)=pkB (pkB (-1) (f 0)) (f 1):=by first | rfl | simp[Uz,W4]
 generalize pkB (pkB (-1) (f 0)) (f 1)=bs at *;have ST:∀ k,k<2->Uz k=k::Uz (k+1):=fun k hk=>by
  unfold Uz;rw[List.drop_eq_getElem_cons (by rw[List.length_range];exact hk),List.getElem_range]
 have EN:∀ k,2<=k->Uz k=[]:=fun k hk=>by
  unfold Uz;exact List.drop_of_length_le (by rw[List.length_range];exact hk)
 obtain⟨kind,nn,cap,xw,xv,co⟩:=i;obtain⟨A,a,B,b,D,d,rfl,-,-,-⟩:=H;simp only at *;subst hk2 hn;have hne:((x.length:Int)==(n:Int))=false:=by rw[beq_eq_false_iff_ne];omega
 replace IH:=Hd IH;replace ST:=Hd ST;replace EN:=Hd EN;replace e5:=Hd e5;replace hP:=Hd hP;have B1:Hid (Blk (w.alloc (.cells #[.int .i64 1,.int .i64 n,.int .i64 cap,.slice A xw.length a,.slice B xv.length b,.slice D co.length d] 25)) w.heap.size 25 #[.int .i64 1,.int .i64 n,.int .i64 cap,.slice A xw.length a,.slice B xv.length b,.slice D co.length d]):=.new rfl;have X0:Hid (Ext w (w.alloc (.cells #[.int .i64 1,.int .i64 n,.int .i64 cap,.slice A xw.length a,.slice B xv.length b,.slice D co.length d] 25))):=(Ext.rf _).alloc _;obtain⟨w1,hw1⟩:∃ w1,w1=(w.alloc (.cells #[.int .i64 1,.int .i64 n,.int .i64 cap,.slice A xw.length a,.slice B xv.length b,.slice D co.length d] 25)):=⟨_,rfl⟩;have B2:Hid (Blk w1 w.heap.size 25 #[.int .i64 1,.int .i64 n,.int .i64 cap,.slice A xw.length a,.slice B xv.length b,.slice D co.length d]):=by rw[hw1];exact B1.out
 have X1:Hid (Ext w w1):=by rw[hw1];exact X0.out
 replace hw1:=Hd hw1;clear B1;go_enter Tryz.func28,Tryz.ntmps28;go_wp2_with (fail);rw[<-hw1.out];clear X0;go_loopw [9,7] (fun v bv wr=>∃ (k:Nat) (bb:Int),v=.int .i64 k/\bv=.int .i64 bb/\k<=2/\Hid (W4 f bb (Uz k)=bs)/\Hid (Ext w1 wr)) (fun v _ _=>2-(intOf v).toNat)
 case atStart=>exact⟨0,-1,rfl,rfl,by omega,e5,Ext.rf _⟩
 case round =>
  obtain⟨wo,rfl⟩:∃ wo:World,wo=wr:=⟨_,rfl⟩;obtain⟨k,bb,rfl,rfl,hk,HS,Y⟩:=hrel
  by_cases hlt:k<2
  ·have HN:Hid (W4 f bb (k::Uz (k+1))=bs):=by
    have h:=HS.out;rw[ST.out k hlt] at h;exact h
   have q1:(k:Int)<2:=by omega
   have B3:=B2.out.ext Y.out;have zb3:=B3.lt;have c0:=B3.c0;replace B3:=Hd B3;clear HS;go_wp2_with (fail);go_loopw [11,10] (fun v uv wr=>v=.int .i64 0/\uv=.bool false/\wr=wo) (fun _ _ _=>0)
   case atStart=>exact⟨rfl,rfl,rfl⟩
   case round =>
    obtain⟨rfl,rfl,hwr⟩:=hrel;have hwr':wo=wr:=(show wr=wo from hwr).symm;clear hwr;subst hwr';have HN2:Hid ((0<=f (k:Int)/\(bb<0\/f (k:Int)<bb)->Hid (W4 f (f (k:Int)) (Uz (k+1))=bs))/\(¬(0<=f (k:Int)/\(bb<0\/f (k:Int)<bb))->Hid (W4 f bb (Uz (k+1))=bs))):=by
     have h:W4 f (pkB bb (f (k:Int))) (Uz (k+1))=bs:=HN.out;unfold pkB at h;exact⟨fun hh=>by rw[if_pos hh] at h;exact h,fun hh=>by rw[if_neg hh] at h;exact h⟩
    by_cases hx0:(0:Int)<(x.length:Int)
    ·have IHk:=Hd (fun(A:Option Addr) (d:Nat) (q:List Int) (hq:q=x++[(k:Int)])=>IH.out k A d q hlt hq)
     generalize f (k:Int)=fv at *;clear HN;have c1':=B3.out.c1;have c2:=B3.out.c2;have c3:=B3.out.c3;have c4:=B3.out.c4;have c5:=B3.out.c5;obtain⟨q,hq⟩:∃ q,Hid (q=x++[(k:Int)]):=⟨_,rfl⟩;have lq:q.length=x.length+1:=by rw[hq.out];simp
     replace lq:=Hd lq;go_upto_region 19 with(fail);refine wp_region_any (by kernel_rfl) ?_
     change wpAny _ _ _ _ _ _ _ (World.drew _)
     refine Zb (i:=2) (op:=Op.move (Operand.tmp 1)) (t:=22) (d:=some 74) (v:=?_) rfl (by decide +kernel) (by decide +kernel) (by decide +kernel) (fun _ _ _ h=>h) ?_ ?_
     case refine_2=>(intro _;unfold Ze;go_simp;try with_reducible rfl)
     try simp only[lay]
     refine Zb (i:=4) (op:=Op.move (Operand.tmp 9)) (t:=3) (d:=some 76) (v:=?_) rfl (by decide +kernel) (by decide +kernel) (by decide +kernel) (fun _ _ _ h=>h) ?_ ?_
     case refine_2=>(intro _;unfold Ze;go_simp;try with_reducible rfl)
     try simp only[lay]
     refine Xl (n:=2) [(0,some 72),(1,some 73),(3,some 75),(5,some 77),(6,some 78)] (fun | 1=>[3] | 3=>[6] | 5=>[6] | _=>[]) (Ext wo)
      (VF (fun | 0=>some (.agg #[.int .i64 1,.int .i64 n,.int .i64 cap,.slice A xw.length a,.slice B xv.length b,.slice D co.length d]) | _=>none)
       (fun j v W=>(j=1->∃ g,v=.slice (some ⟨g,0,none⟩) 0 0/\wo.heap.size<=g/\Blk W g 3 #[])/\(j=3->∃ A c,v=.slice A x.length c/\OwI W wo.heap.size A c x)/\(j=5->∃ h,v=.slice (some ⟨h,0,none⟩) 1 1/\Blk W h 3 #[.int .i64 (k:Int)])/\(j=6->∃ A c,v=.slice A q.length c/\OwI W wo.heap.size A c q)))
      (fun i W W'=>i≠6->Ext W W') #[true,true,true,true,true,true,true,false,false] (by kernel_rfl) (by kernel_rfl) ?_ ?_ ?_ ((Ext.rf _).drew)
     ·intro i j v W W' hkp hv hs
      refine VF.stab1 (fun _ ⟨g1,g3,g8,g9⟩=>?_) hv
      by_cases hi:i=6
      ·subst hi
       refine⟨fun h=>?_,fun h=>?_,fun h=>?_,fun h=>?_⟩
       all_goals (subst h;exact absurd hkp (by decide +kernel))
      ·have hx:=hs hi
       refine⟨fun h=>?_,fun h=>?_,fun h=>?_,fun h=>?_⟩
       ·obtain⟨g,q1,q2,q3⟩:=g1 h
        exact⟨g,q1,q2,q3.ext hx⟩
       ·obtain⟨A',c',q1,q2⟩:=g3 h
        exact⟨A',c',q1,q2.ext hx⟩
       ·obtain⟨h',q1,q2⟩:=g8 h
        exact⟨h',q1,q2.ext hx⟩
       ·obtain⟨A',c',q1,q2⟩:=g9 h
        exact⟨A',c',q1,q2.ext hx⟩
     ·intro pq hpm u W hRW hD K hK
      have z2:=hRW.size;simp only[List.mem_cons,List.not_mem_nil,or_false] at hpm;rcases hpm with rfl | rfl | rfl | rfl | rfl
      ·have r0:=Zc hRW zb3 c0
       have r1:=Zc hRW zb3 c1';have r2:=Zc hRW zb3 c2;have r3:=Zc hRW zb3 c3;have r4:=Zc hRW zb3 c4;have r5:=Zc hRW zb3 c5;exact Zy (T:=25) rfl (.pointer (some ⟨w.heap.size,0,none⟩)) (by kernel_rfl) (.agg #[.int .i64 1,.int .i64 n,.int .i64 cap,.slice A xw.length a,.slice B xv.length b,.slice D co.length d]) (by go_simp) (hK _ _ (VF.mk rfl) hRW (fun _=>Ext.rf _))
      ·exact Qu rfl _ (UX _) (hK _ _ (VF.mg rfl ⟨fun _=>⟨_,rfl,z2,.new rfl⟩,(fun h=>by cases h),(fun h=>by cases h),(fun h=>by cases h)⟩) (hRW.alloc _) (fun _=>(Ext.rf _).alloc _))
      ·obtain⟨g,h1,zg,bg⟩:=((hD 1 (Zq (by kernel_rfl))).g rfl).1 rfl
       obtain⟨A3,c3,w3,hr3,o3,x3⟩:=Xe W wo.heap.size 22 g x P c bg zg (hP.out.ext ((X1.out.tr Y.out).tr hRW)) (by omega);exact Yr rfl (.slice (some ⟨g,0,none⟩) 0 0) (.slice P x.length c) (Eq.trans (b:=u 1) (by kernel_rfl) h1) (by kernel_rfl) _ hr3 (hK _ _ (VF.mg rfl ⟨(fun h=>by cases h),fun _=>⟨A3,c3,rfl,o3⟩,(fun h=>by cases h),(fun h=>by cases h)⟩) (hRW.tr x3) (fun _=>x3))
      ·exact Wj rfl (.int .i64 (k:Int)) (by kernel_rfl) _ (UY _ _) (hK _ _ (VF.mg rfl ⟨(fun h=>by cases h),(fun h=>by cases h),fun _=>⟨_,rfl,.new rfl⟩,(fun h=>by cases h)⟩) (hRW.alloc _) (fun _=>(Ext.rf _).alloc _))
      ·obtain⟨A3,c3',h3,o3⟩:=((hD 3 (Zq (by kernel_rfl))).g rfl).2.1 rfl
       obtain⟨g8,h8,b8⟩:=((hD 5 (Zq (by kernel_rfl))).g rfl).2.2.1 rfl;obtain⟨A7,c7,w7,hrun,o7,g7,-⟩:=Yc W wo.heap.size 22 A3 x.length c3' x [(k:Int)] (some ⟨g8,0,none⟩) 1 rfl o3 (.blk b8 rfl) (by simp;omega) hRW.size;have x7:Ext wo w7:=hRW.grow g7 (fun k hk=>(o3.lt k hk).1);rw[<-hq.out] at hrun o7;exact Yr rfl (.slice A3 x.length c3') (.slice (some ⟨g8,0,none⟩) 1 1) (Eq.trans (b:=u 3) (by kernel_rfl) h3) (Eq.trans (b:=u 5) (by kernel_rfl) h8) _ hrun (hK _ _ (VF.mg rfl ⟨(fun h=>by cases h),(fun h=>by cases h),(fun h=>by cases h),fun _=>⟨A7,c7,rfl,o7⟩⟩) x7 (fun h=>absurd rfl h))
     ·intro u w7 hRW hV
      have h0:=(hV (0,some 72) (by simp) rfl).k rfl;obtain⟨A7,c7,h9,o7⟩:=((hV (6,some 78) (by simp) rfl).g rfl).2.2.2 rfl;simp only[Zn,h0,h9];have rq:=Hd o7.read;have x7:=Hd hRW;clear h0 h9 hV o7 hRW
      try simp only[lay]
      refine Zm 7 (by decide +kernel) (Ym (f:=28) (xs:=#[Operand.tmp 72,Operand.tmp 78]) (ts:=#[25,22]) (t:=3) (d:=some 79) rfl #[.agg #[.int .i64 1,.int .i64 n,.int .i64 cap,.slice A xw.length a,.slice B xv.length b,.slice D co.length d],.slice A7 q.length c7] (by go_simp) (by kernel_rfl) _ (IHk.out A7 c7 q hq.out w7 (X1.out.tr (Y.out.tr x7.out)) rq.out) ?_);rintro e w8 ⟨rfl,x8⟩;refine⟨_,rfl,?_⟩
      try simp only[lay]
      refine Zb (i:=8) (op:=Op.assign (Operand.tmp 79)) (t:=3) (d:=some 12) (v:=?_) rfl (by decide +kernel) (by decide +kernel) (by decide +kernel) (fun _ _ _ h=>h) ?_ ?_
      case refine_2=>(intro _;unfold Ze;go_simp;try with_reducible rfl)
      try simp only[lay]
      refine wpAny_done (by kernel_rfl) ?_ _;have Y8:=Hd (Y.out.tr (x7.out.tr x8));clear x8 x7 rq c0 c1' c2 c3 c4 c5;go_simp
      by_cases hfv:0<=fv
      ·by_cases hbb:bb<0
       ·have HN3:=HN2.out.1 ⟨hfv,.inl hbb⟩
        clear HN2;go_wp2_with (fail);go_roundw
        case rel=>exact⟨k+1,fv,by go_num,rfl,by omega,HN3,Y8⟩
        case measure=>simp[intOf];omega
       ·by_cases hfb:fv<bb
        ·have HN3:=HN2.out.1 ⟨hfv,.inr hfb⟩
         clear HN2;go_wp2_with (fail);go_roundw
         case rel=>exact⟨k+1,fv,by go_num,rfl,by omega,HN3,Y8⟩
         case measure=>simp[intOf];omega
        ·have HN3:=HN2.out.2 (by omega)
         clear HN2;go_wp2_with (fail);go_roundw
         case rel=>exact⟨k+1,bb,by go_num,rfl,by omega,HN3,Y8⟩
         case measure=>simp[intOf];omega
      ·have HN3:=HN2.out.2 (by omega)
       clear HN2;go_wp2_with (fail);go_roundw
       case rel=>exact⟨k+1,bb,by go_num,rfl,by omega,HN3,Y8⟩
       case measure=>simp[intOf];omega
    ·have IHk:=Hd (fun(A:Option Addr) (d:Nat) (q:List Int) (hq:q=x++[(k:Int)])=>IH.out k A d q hlt hq)
     generalize f (k:Int)=fv at *;clear HN;have c1':=B3.out.c1;have c2:=B3.out.c2;have c3:=B3.out.c3;have c4:=B3.out.c4;have c5:=B3.out.c5;obtain⟨q,hq⟩:∃ q,Hid (q=x++[(k:Int)]):=⟨_,rfl⟩;have lq:q.length=x.length+1:=by rw[hq.out];simp
     replace lq:=Hd lq;go_upto_region 19 with(fail);refine wp_region_any (by kernel_rfl) ?_
     change wpAny _ _ _ _ _ _ _ (World.drew _)
     refine Zb (i:=2) (op:=Op.move (Operand.tmp 1)) (t:=22) (d:=some 74) (v:=?_) rfl (by decide +kernel) (by decide +kernel) (by decide +kernel) (fun _ _ _ h=>h) ?_ ?_
     case refine_2=>(intro _;unfold Ze;go_simp;try with_reducible rfl)
     try simp only[lay]
     refine Zb (i:=4) (op:=Op.move (Operand.tmp 9)) (t:=3) (d:=some 76) (v:=?_) rfl (by decide +kernel) (by decide +kernel) (by decide +kernel) (fun _ _ _ h=>h) ?_ ?_
     case refine_2=>(intro _;unfold Ze;go_simp;try with_reducible rfl)
     try simp only[lay]
     refine Xl (n:=2) [(0,some 72),(1,some 73),(3,some 75),(5,some 77),(6,some 78)] (fun | 1=>[3] | 3=>[6] | 5=>[6] | _=>[]) (Ext wo)
      (VF (fun | 0=>some (.agg #[.int .i64 1,.int .i64 n,.int .i64 cap,.slice A xw.length a,.slice B xv.length b,.slice D co.length d]) | _=>none)
       (fun j v W=>(j=1->∃ g,v=.slice (some ⟨g,0,none⟩) 0 0/\wo.heap.size<=g/\Blk W g 3 #[])/\(j=3->∃ A c,v=.slice A x.length c/\OwI W wo.heap.size A c x)/\(j=5->∃ h,v=.slice (some ⟨h,0,none⟩) 1 1/\Blk W h 3 #[.int .i64 (k:Int)])/\(j=6->∃ A c,v=.slice A q.length c/\OwI W wo.heap.size A c q)))
      (fun i W W'=>i≠6->Ext W W') #[true,true,true,true,true,true,true,false,false] (by kernel_rfl) (by kernel_rfl) ?_ ?_ ?_ ((Ext.rf _).drew)
     ·intro i j v W W' hkp hv hs
      refine VF.stab1 (fun _ ⟨g1,g3,g8,g9⟩=>?_) hv
      by_cases hi:i=6
      ·subst hi
       refine⟨fun h=>?_,fun h=>?_,fun h=>?_,fun h=>?_⟩
       all_goals (subst h;exact absurd hkp (by decide +kernel))
      ·have hx:=hs hi
       refine⟨fun h=>?_,fun h=>?_,fun h=>?_,fun h=>?_⟩
       ·obtain⟨g,q1,q2,q3⟩:=g1 h
        exact⟨g,q1,q2,q3.ext hx⟩
       ·obtain⟨A',c',q1,q2⟩:=g3 h
        exact⟨A',c',q1,q2.ext hx⟩
       ·obtain⟨h',q1,q2⟩:=g8 h
        exact⟨h',q1,q2.ext hx⟩
       ·obtain⟨A',c',q1,q2⟩:=g9 h
        exact⟨A',c',q1,q2.ext hx⟩
     ·intro pq hpm u W hRW hD K hK
      have z2:=hRW.size;simp only[List.mem_cons,List.not_mem_nil,or_false] at hpm;rcases hpm with rfl | rfl | rfl | rfl | rfl
      ·have r0:=Zc hRW zb3 c0
       have r1:=Zc hRW zb3 c1';have r2:=Zc hRW zb3 c2;have r3:=Zc hRW zb3 c3;have r4:=Zc hRW zb3 c4;have r5:=Zc hRW zb3 c5;exact Zy (T:=25) rfl (.pointer (some ⟨w.heap.size,0,none⟩)) (by kernel_rfl) (.agg #[.int .i64 1,.int .i64 n,.int .i64 cap,.slice A xw.length a,.slice B xv.length b,.slice D co.length d]) (by go_simp) (hK _ _ (VF.mk rfl) hRW (fun _=>Ext.rf _))
      ·exact Qu rfl _ (UX _) (hK _ _ (VF.mg rfl ⟨fun _=>⟨_,rfl,z2,.new rfl⟩,(fun h=>by cases h),(fun h=>by cases h),(fun h=>by cases h)⟩) (hRW.alloc _) (fun _=>(Ext.rf _).alloc _))
      ·obtain⟨g,h1,zg,bg⟩:=((hD 1 (Zq (by kernel_rfl))).g rfl).1 rfl
       obtain⟨A3,c3,w3,hr3,o3,x3⟩:=Xe W wo.heap.size 22 g x P c bg zg (hP.out.ext ((X1.out.tr Y.out).tr hRW)) (by omega);exact Yr rfl (.slice (some ⟨g,0,none⟩) 0 0) (.slice P x.length c) (Eq.trans (b:=u 1) (by kernel_rfl) h1) (by kernel_rfl) _ hr3 (hK _ _ (VF.mg rfl ⟨(fun h=>by cases h),fun _=>⟨A3,c3,rfl,o3⟩,(fun h=>by cases h),(fun h=>by cases h)⟩) (hRW.tr x3) (fun _=>x3))
      ·exact Wj rfl (.int .i64 (k:Int)) (by kernel_rfl) _ (UY _ _) (hK _ _ (VF.mg rfl ⟨(fun h=>by cases h),(fun h=>by cases h),fun _=>⟨_,rfl,.new rfl⟩,(fun h=>by cases h)⟩) (hRW.alloc _) (fun _=>(Ext.rf _).alloc _))
      ·obtain⟨A3,c3',h3,o3⟩:=((hD 3 (Zq (by kernel_rfl))).g rfl).2.1 rfl
       obtain⟨g8,h8,b8⟩:=((hD 5 (Zq (by kernel_rfl))).g rfl).2.2.1 rfl;obtain⟨A7,c7,w7,hrun,o7,g7,-⟩:=Yc W wo.heap.size 22 A3 x.length c3' x [(k:Int)] (some ⟨g8,0,none⟩) 1 rfl o3 (.blk b8 rfl) (by simp;omega) hRW.size;have x7:Ext wo w7:=hRW.grow g7 (fun k hk=>(o3.lt k hk).1);rw[<-hq.out] at hrun o7;exact Yr rfl (.slice A3 x.length c3') (.slice (some ⟨g8,0,none⟩) 1 1) (Eq.trans (b:=u 3) (by kernel_rfl) h3) (Eq.trans (b:=u 5) (by kernel_rfl) h8) _ hrun (hK _ _ (VF.mg rfl ⟨(fun h=>by cases h),(fun h=>by cases h),(fun h=>by cases h),fun _=>⟨A7,c7,rfl,o7⟩⟩) x7 (fun h=>absurd rfl h))
     ·intro u w7 hRW hV
      have h0:=(hV (0,some 72) (by simp) rfl).k rfl;obtain⟨A7,c7,h9,o7⟩:=((hV (6,some 78) (by simp) rfl).g rfl).2.2.2 rfl;simp only[Zn,h0,h9];have rq:=Hd o7.read;have x7:=Hd hRW;clear h0 h9 hV o7 hRW
      try simp only[lay]
      refine Zm 7 (by decide +kernel) (Ym (f:=28) (xs:=#[Operand.tmp 72,Operand.tmp 78]) (ts:=#[25,22]) (t:=3) (d:=some 79) rfl #[.agg #[.int .i64 1,.int .i64 n,.int .i64 cap,.slice A xw.length a,.slice B xv.length b,.slice D co.length d],.slice A7 q.length c7] (by go_simp) (by kernel_rfl) _ (IHk.out A7 c7 q hq.out w7 (X1.out.tr (Y.out.tr x7.out)) rq.out) ?_);rintro e w8 ⟨rfl,x8⟩;refine⟨_,rfl,?_⟩
      try simp only[lay]
      refine Zb (i:=8) (op:=Op.assign (Operand.tmp 79)) (t:=3) (d:=some 12) (v:=?_) rfl (by decide +kernel) (by decide +kernel) (by decide +kernel) (fun _ _ _ h=>h) ?_ ?_
      case refine_2=>(intro _;unfold Ze;go_simp;try with_reducible rfl)
      try simp only[lay]
      refine wpAny_done (by kernel_rfl) ?_ _;have Y8:=Hd (Y.out.tr (x7.out.tr x8));clear x8 x7 rq c0 c1' c2 c3 c4 c5;go_simp
      by_cases hfv:0<=fv
      ·by_cases hbb:bb<0
       ·have HN3:=HN2.out.1 ⟨hfv,.inl hbb⟩
        clear HN2;go_wp2_with (fail);go_roundw
        case rel=>exact⟨k+1,fv,by go_num,rfl,by omega,HN3,Y8⟩
        case measure=>simp[intOf];omega
       ·by_cases hfb:fv<bb
        ·have HN3:=HN2.out.1 ⟨hfv,.inr hfb⟩
         clear HN2;go_wp2_with (fail);go_roundw
         case rel=>exact⟨k+1,fv,by go_num,rfl,by omega,HN3,Y8⟩
         case measure=>simp[intOf];omega
        ·have HN3:=HN2.out.2 (by omega)
         clear HN2;go_wp2_with (fail);go_roundw
         case rel=>exact⟨k+1,bb,by go_num,rfl,by omega,HN3,Y8⟩
         case measure=>simp[intOf];omega
      ·have HN3:=HN2.out.2 (by omega)
       clear HN2;go_wp2_with (fail);go_roundw
       case rel=>exact⟨k+1,bb,by go_num,rfl,by omega,HN3,Y8⟩
       case measure=>simp[intOf];omega
  ·have hkm:k=2:=by omega
   have q1:¬(k:Int)<2:=by omega
   have HN:Hid (bb=bs):=by
    have h:=HS.out;rw[EN.out k (by omega)] at h;exact h
   obtain rfl:=HN.out;replace hkm:=Hd hkm;go_wp2_with (fail);go_ret;exact⟨rfl,X1.out.tr Y.out⟩
def Va (k:Nat) : List Nat:=if k=0 then [0] else []
theorem ZeK (i:InstP)(us:List Value)(P:Option Addr)(c:Nat)(x:List Int)(w:World)(H:RInst w us i)(hk2:i.kind=3)(hP:RdI w P x)(lx:x.length<=1000)(hx0:x=[])(n:Nat)(hn:i.n=n)(n1:1<=n)(n64:n<=64)(hlen:x.length<n)(f:Int->Int)
  (IH:∀ (k:Nat) (A:Option Addr) (d:Nat) (q:List Int),k=0->q=x++[(k:Int)]->∀ W,Ext w W->RdI W A q->Calls Tryz.prog 28 #[.agg (List.toArray us),.slice A q.length d] W fun e w'=>e=.returned (.int .i64 (f (k:Int)))/\Ext W w') :
  Calls Tryz.prog 28 #[.agg (List.toArray us),.slice P x.length c] w fun e w'=>e=.returned (.int .i64 (pkB (-1) (f 0)))/\Ext w w':=by
 have e5:W4 f (-1) (Va 0)=pkB (-1) (f 0):=by first | rfl | simp[Va,W4]
 generalize pkB (-1) (f 0)=bs at *;have ST:∀ k,k<n->Va k=(if k=0 then 0::Va 1 else Va (k+1)):=fun k hk=>by
  unfold Va;by_cases e:k=0<;>simp[e]
 have EN:∀ k,n<=k->Va k=[]:=fun k hk=>by
  unfold Va;rw[if_neg (by omega)]
 obtain⟨kind,nn,cap,xw,xv,co⟩:=i;obtain⟨A,a,B,b,D,d,rfl,-,-,-⟩:=H;simp only at *;subst hk2 hn;have hne:((x.length:Int)==(n:Int))=false:=by rw[beq_eq_false_iff_ne];omega
 have hx1:x.length=0:=by rw[hx0];rfl
 have hz0:((x.length:Int)==0)=true:=by rw[hx1];rfl
 have hz1:¬(0:Int)<(x.length:Int):=by omega
 replace hx1:=Hd hx1;replace IH:=Hd IH;replace ST:=Hd ST;replace EN:=Hd EN;replace e5:=Hd e5;replace hP:=Hd hP;replace hx0:=Hd hx0;have B1:Hid (Blk (w.alloc (.cells #[.int .i64 3,.int .i64 n,.int .i64 cap,.slice A xw.length a,.slice B xv.length b,.slice D co.length d] 25)) w.heap.size 25 #[.int .i64 3,.int .i64 n,.int .i64 cap,.slice A xw.length a,.slice B xv.length b,.slice D co.length d]):=.new rfl;have X0:Hid (Ext w (w.alloc (.cells #[.int .i64 3,.int .i64 n,.int .i64 cap,.slice A xw.length a,.slice B xv.length b,.slice D co.length d] 25))):=(Ext.rf _).alloc _;obtain⟨w1,hw1⟩:∃ w1,w1=(w.alloc (.cells #[.int .i64 3,.int .i64 n,.int .i64 cap,.slice A xw.length a,.slice B xv.length b,.slice D co.length d] 25)):=⟨_,rfl⟩;have B2:Hid (Blk w1 w.heap.size 25 #[.int .i64 3,.int .i64 n,.int .i64 cap,.slice A xw.length a,.slice B xv.length b,.slice D co.length d]):=by rw[hw1];exact B1.out
 have X1:Hid (Ext w w1):=by rw[hw1];exact X0.out
 replace hw1:=Hd hw1;clear B1;go_enter Tryz.func28,Tryz.ntmps28;go_wp2_with (fail);rw[<-hw1.out];clear X0;go_loopw [9,7] (fun v bv wr=>∃ (k:Nat) (bb:Int),v=.int .i64 k/\bv=.int .i64 bb/\k<=n/\Hid (W4 f bb (Va k)=bs)/\Hid (Ext w1 wr)) (fun v _ _=>n-(intOf v).toNat)
 case atStart=>exact⟨0,-1,rfl,rfl,by omega,e5,Ext.rf _⟩
 case round =>
  obtain⟨wo,rfl⟩:∃ wo:World,wo=wr:=⟨_,rfl⟩;obtain⟨k,bb,rfl,rfl,hk,HS,Y⟩:=hrel
  by_cases hlt:k<n
  ·have HN:Hid (W4 f bb (if k=0 then 0::Va 1 else Va (k+1))=bs):=by
    have h:=HS.out;rw[ST.out k hlt] at h;exact h
   have q1:(k:Int)<(n:Int):=by omega
   have B3:=B2.out.ext Y.out;have zb3:=B3.lt;have c0:=B3.c0;replace B3:=Hd B3;clear HS;go_wp2_with (fail);go_loopw [11,10] (fun v uv wr=>v=.int .i64 0/\uv=.bool false/\wr=wo) (fun _ _ _=>0)
   case atStart=>exact⟨rfl,rfl,rfl⟩
   case round =>
    obtain⟨rfl,rfl,hwr⟩:=hrel;have hwr':wo=wr:=(show wr=wo from hwr).symm;clear hwr;subst hwr'
    by_cases hk0:k=0
    ·have HM:Hid (W4 f bb (0::Va 1)=bs):=by
      have h:=HN.out;rw[if_pos hk0] at h;exact h
     have ek:(k:Int)=0:=by omega
     have k1:k+1=1:=by omega
     have HN2:Hid ((0<=f (k:Int)/\(bb<0\/f (k:Int)<bb)->Hid (W4 f (f (k:Int)) (Va (k+1))=bs))/\(¬(0<=f (k:Int)/\(bb<0\/f (k:Int)<bb))->Hid (W4 f bb (Va (k+1))=bs))):=by
      have h:W4 f (pkB bb (f (k:Int))) (Va (k+1))=bs:=by rw[ek,k1];exact HM.out
      unfold pkB at h;exact⟨fun hh=>by rw[if_pos hh] at h;exact h,fun hh=>by rw[if_neg hh] at h;exact h⟩
     replace k1:=Hd k1;clear HM;have IHk:=Hd (fun(A:Option Addr) (d:Nat) (q:List Int) (hq:q=x++[(k:Int)])=>IH.out k A d q hk0 hq);generalize f (k:Int)=fv at *;clear HN;have c1':=B3.out.c1;have c2:=B3.out.c2;have c3:=B3.out.c3;have c4:=B3.out.c4;have c5:=B3.out.c5;obtain⟨q,hq⟩:∃ q,Hid (q=x++[(k:Int)]):=⟨_,rfl⟩;have lq:q.length=x.length+1:=by rw[hq.out];simp
     replace lq:=Hd lq;have ekn:((k:Int) != 0)=false:=by simp[ek]
     replace ek:=Hd ek;replace hk0:=Hd hk0;go_upto_region 19 with(fail);refine wp_region_any (by kernel_rfl) ?_
     change wpAny _ _ _ _ _ _ _ (World.drew _)
     refine Zb (i:=2) (op:=Op.move (Operand.tmp 1)) (t:=22) (d:=some 74) (v:=?_) rfl (by decide +kernel) (by decide +kernel) (by decide +kernel) (fun _ _ _ h=>h) ?_ ?_
     case refine_2=>(intro _;unfold Ze;go_simp;try with_reducible rfl)
     try simp only[lay]
     refine Zb (i:=4) (op:=Op.move (Operand.tmp 9)) (t:=3) (d:=some 76) (v:=?_) rfl (by decide +kernel) (by decide +kernel) (by decide +kernel) (fun _ _ _ h=>h) ?_ ?_
     case refine_2=>(intro _;unfold Ze;go_simp;try with_reducible rfl)
     try simp only[lay]
     refine Xl (n:=2) [(0,some 72),(1,some 73),(3,some 75),(5,some 77),(6,some 78)] (fun | 1=>[3] | 3=>[6] | 5=>[6] | _=>[]) (Ext wo)
      (VF (fun | 0=>some (.agg #[.int .i64 3,.int .i64 n,.int .i64 cap,.slice A xw.length a,.slice B xv.length b,.slice D co.length d]) | _=>none)
       (fun j v W=>(j=1->∃ g,v=.slice (some ⟨g,0,none⟩) 0 0/\wo.heap.size<=g/\Blk W g 3 #[])/\(j=3->∃ A c,v=.slice A x.length c/\OwI W wo.heap.size A c x)/\(j=5->∃ h,v=.slice (some ⟨h,0,none⟩) 1 1/\Blk W h 3 #[.int .i64 (k:Int)])/\(j=6->∃ A c,v=.slice A q.length c/\OwI W wo.heap.size A c q)))
      (fun i W W'=>i≠6->Ext W W') #[true,true,true,true,true,true,true,false,false] (by kernel_rfl) (by kernel_rfl) ?_ ?_ ?_ ((Ext.rf _).drew)
     ·intro i j v W W' hkp hv hs
      refine VF.stab1 (fun _ ⟨g1,g3,g8,g9⟩=>?_) hv
      by_cases hi:i=6
      ·subst hi
       refine⟨fun h=>?_,fun h=>?_,fun h=>?_,fun h=>?_⟩
       all_goals (subst h;exact absurd hkp (by decide +kernel))
      ·have hx:=hs hi
       refine⟨fun h=>?_,fun h=>?_,fun h=>?_,fun h=>?_⟩
       ·obtain⟨g,q1,q2,q3⟩:=g1 h
        exact⟨g,q1,q2,q3.ext hx⟩
       ·obtain⟨A',c',q1,q2⟩:=g3 h
        exact⟨A',c',q1,q2.ext hx⟩
       ·obtain⟨h',q1,q2⟩:=g8 h
        exact⟨h',q1,q2.ext hx⟩
       ·obtain⟨A',c',q1,q2⟩:=g9 h
        exact⟨A',c',q1,q2.ext hx⟩
     ·intro pq hpm u W hRW hD K hK
      have z2:=hRW.size;simp only[List.mem_cons,List.not_mem_nil,or_false] at hpm;rcases hpm with rfl | rfl | rfl | rfl | rfl
      ·have r0:=Zc hRW zb3 c0
       have r1:=Zc hRW zb3 c1';have r2:=Zc hRW zb3 c2;have r3:=Zc hRW zb3 c3;have r4:=Zc hRW zb3 c4;have r5:=Zc hRW zb3 c5;exact Zy (T:=25) rfl (.pointer (some ⟨w.heap.size,0,none⟩)) (by kernel_rfl) (.agg #[.int .i64 3,.int .i64 n,.int .i64 cap,.slice A xw.length a,.slice B xv.length b,.slice D co.length d]) (by go_simp) (hK _ _ (VF.mk rfl) hRW (fun _=>Ext.rf _))
      ·exact Qu rfl _ (UX _) (hK _ _ (VF.mg rfl ⟨fun _=>⟨_,rfl,z2,.new rfl⟩,(fun h=>by cases h),(fun h=>by cases h),(fun h=>by cases h)⟩) (hRW.alloc _) (fun _=>(Ext.rf _).alloc _))
      ·obtain⟨g,h1,zg,bg⟩:=((hD 1 (Zq (by kernel_rfl))).g rfl).1 rfl
       obtain⟨A3,c3,w3,hr3,o3,x3⟩:=Xe W wo.heap.size 22 g x P c bg zg (hP.out.ext ((X1.out.tr Y.out).tr hRW)) (by omega);exact Yr rfl (.slice (some ⟨g,0,none⟩) 0 0) (.slice P x.length c) (Eq.trans (b:=u 1) (by kernel_rfl) h1) (by kernel_rfl) _ hr3 (hK _ _ (VF.mg rfl ⟨(fun h=>by cases h),fun _=>⟨A3,c3,rfl,o3⟩,(fun h=>by cases h),(fun h=>by cases h)⟩) (hRW.tr x3) (fun _=>x3))
      ·exact Wj rfl (.int .i64 (k:Int)) (by kernel_rfl) _ (UY _ _) (hK _ _ (VF.mg rfl ⟨(fun h=>by cases h),(fun h=>by cases h),fun _=>⟨_,rfl,.new rfl⟩,(fun h=>by cases h)⟩) (hRW.alloc _) (fun _=>(Ext.rf _).alloc _))
      ·obtain⟨A3,c3',h3,o3⟩:=((hD 3 (Zq (by kernel_rfl))).g rfl).2.1 rfl
       obtain⟨g8,h8,b8⟩:=((hD 5 (Zq (by kernel_rfl))).g rfl).2.2.1 rfl;obtain⟨A7,c7,w7,hrun,o7,g7,-⟩:=Yc W wo.heap.size 22 A3 x.length c3' x [(k:Int)] (some ⟨g8,0,none⟩) 1 rfl o3 (.blk b8 rfl) (by simp;omega) hRW.size;have x7:Ext wo w7:=hRW.grow g7 (fun k hk=>(o3.lt k hk).1);rw[<-hq.out] at hrun o7;exact Yr rfl (.slice A3 x.length c3') (.slice (some ⟨g8,0,none⟩) 1 1) (Eq.trans (b:=u 3) (by kernel_rfl) h3) (Eq.trans (b:=u 5) (by kernel_rfl) h8) _ hrun (hK _ _ (VF.mg rfl ⟨(fun h=>by cases h),(fun h=>by cases h),(fun h=>by cases h),fun _=>⟨A7,c7,rfl,o7⟩⟩) x7 (fun h=>absurd rfl h))
     ·intro u w7 hRW hV
      have h0:=(hV (0,some 72) (by simp) rfl).k rfl;obtain⟨A7,c7,h9,o7⟩:=((hV (6,some 78) (by simp) rfl).g rfl).2.2.2 rfl;simp only[Zn,h0,h9];have rq:=Hd o7.read;have x7:=Hd hRW;clear h0 h9 hV o7 hRW
      try simp only[lay]
      refine Zm 7 (by decide +kernel) (Ym (f:=28) (xs:=#[Operand.tmp 72,Operand.tmp 78]) (ts:=#[25,22]) (t:=3) (d:=some 79) rfl #[.agg #[.int .i64 3,.int .i64 n,.int .i64 cap,.slice A xw.length a,.slice B xv.length b,.slice D co.length d],.slice A7 q.length c7] (by go_simp) (by kernel_rfl) _ (IHk.out A7 c7 q hq.out w7 (X1.out.tr (Y.out.tr x7.out)) rq.out) ?_);rintro e w8 ⟨rfl,x8⟩;refine⟨_,rfl,?_⟩
      try simp only[lay]
      refine Zb (i:=8) (op:=Op.assign (Operand.tmp 79)) (t:=3) (d:=some 12) (v:=?_) rfl (by decide +kernel) (by decide +kernel) (by decide +kernel) (fun _ _ _ h=>h) ?_ ?_
      case refine_2=>(intro _;unfold Ze;go_simp;try with_reducible rfl)
      try simp only[lay]
      refine wpAny_done (by kernel_rfl) ?_ _;have Y8:=Hd (Y.out.tr (x7.out.tr x8));clear x8 x7 rq c0 c1' c2 c3 c4 c5;go_simp
      by_cases hfv:0<=fv
      ·by_cases hbb:bb<0
       ·have HN3:=HN2.out.1 ⟨hfv,.inl hbb⟩
        clear HN2;go_wp2_with (fail);go_roundw
        case rel=>exact⟨k+1,fv,by go_num,rfl,by omega,HN3,Y8⟩
        case measure=>simp[intOf];omega
       ·by_cases hfb:fv<bb
        ·have HN3:=HN2.out.1 ⟨hfv,.inr hfb⟩
         clear HN2;go_wp2_with (fail);go_roundw
         case rel=>exact⟨k+1,fv,by go_num,rfl,by omega,HN3,Y8⟩
         case measure=>simp[intOf];omega
        ·have HN3:=HN2.out.2 (by omega)
         clear HN2;go_wp2_with (fail);go_roundw
         case rel=>exact⟨k+1,bb,by go_num,rfl,by omega,HN3,Y8⟩
         case measure=>simp[intOf];omega
      ·have HN3:=HN2.out.2 (by omega)
       clear HN2;go_wp2_with (fail);go_roundw
       case rel=>exact⟨k+1,bb,by go_num,rfl,by omega,HN3,Y8⟩
       case measure=>simp[intOf];omega
    ·have ekn:((k:Int) != 0)=true:=by simp;omega
     have HM:Hid (W4 f bb (Va (k+1))=bs):=by
      have h:=HN.out;rw[if_neg hk0] at h;exact h
     clear HN;go_wp2_with (fail);go_roundw
     case rel=>exact⟨k+1,bb,by go_num,rfl,by omega,HM,Y⟩
     case measure=>simp[intOf];omega
  ·have hkm:k=n:=by omega
   have q1:¬(k:Int)<(n:Int):=by omega
   have HN:Hid (bb=bs):=by
    have h:=HS.out;rw[EN.out k (by omega)] at h;exact h
   obtain rfl:=HN.out;replace hkm:=Hd hkm;go_wp2_with (fail);go_ret;exact⟨rfl,X1.out.tr Y.out⟩
theorem ZU {i:InstP}(h:Zh i=0) : i.kind=1\/i.kind=2\/i.kind=3:=by
 unfold Zh at h
 by_cases hs:Z3 i.kind i.n=0
 ·exact Qv hs
 ·rw[if_neg hs] at h
  exact absurd h hs
theorem Zdt (i:InstP)(us:List Value)(P:Option Addr)(c:Nat)(x:List Int)(w:World)(H:RInst w us i)(hc:Zh i=0)(hk:i.kind=1)(hP:RdI w P x)(lx:(x.length:Int)=i.n)(h01:∀ v∈x,v=0\/v=1) :
  Calls Tryz.prog 28 #[.agg (List.toArray us),.slice P x.length c] w fun e w'=>e=.returned (.int .i64 (XG i.cap i.weight i.value 0 x))/\Ext w w':=by
 have CO:=fun(W:World) (y:Ext w W)=>ZbK i us P c x W (H.ext y) hc hk (hP.ext y) lx h01
 unfold XG;unfold QV at CO
 by_cases hcap:i.cap<Zr x i.weight
 ·rw[if_pos hcap]
  rw[if_pos hcap] at CO;unfold Q7 at CO;clear hcap hP hc h01;obtain⟨kind,nn,cap,xw,xv,co⟩:=i;obtain⟨A,a,B,b,D,d,rfl,-,-,-⟩:=H;simp only at *;subst lx hk;have hb:((x.length:Int)==(x.length:Int))=true:=by simp
  replace CO:=Hd CO;go_enter Tryz.func28,Tryz.ntmps28;go_wp2_with (fail);refine(CO.out _ (by(repeat (first | assumption | exact Ext.rf _ | apply Ext.drew | apply Ext.drewN | apply Ext.alloc)))).mono ?_;rintro e w1 ⟨rfl,x1⟩;have X1:=Hd (Ext.tr (a:=w) (by(repeat (first | assumption | exact Ext.rf _ | apply Ext.drew | apply Ext.drewN | apply Ext.alloc))) x1);clear x1;go_wp2_with (fail);go_ret;exact⟨rfl,X1.out⟩
 ·rw[if_neg hcap]
  rw[if_neg hcap] at CO;unfold Q7 at CO;generalize ZE x i.value=lv at *;clear hcap hP hc h01;obtain⟨kind,nn,cap,xw,xv,co⟩:=i;obtain⟨A,a,B,b,D,d,rfl,-,-,-⟩:=H;simp only at *;subst lx hk;have hb:((x.length:Int)==(x.length:Int))=true:=by simp
  replace CO:=Hd CO;go_enter Tryz.func28,Tryz.ntmps28;go_wp2_with (fail);refine(CO.out _ (by(repeat (first | assumption | exact Ext.rf _ | apply Ext.drew | apply Ext.drewN | apply Ext.alloc)))).mono ?_;rintro e w1 ⟨rfl,x1⟩;have X1:=Hd (Ext.tr (a:=w) (by(repeat (first | assumption | exact Ext.rf _ | apply Ext.drew | apply Ext.drewN | apply Ext.alloc))) x1);clear x1;go_wp2_with (fail);go_ret;exact⟨rfl,X1.out⟩
theorem ZbL (i:InstP)(us:List Value)(hc:Zh i=0)(hk:i.kind=1)(n:Nat)(hn:i.n=n) : ∀ (f:Nat) (P:Option Addr) (c:Nat) (x:List Int) (w:World),x.length+f=n->(∀ v∈x,v=0\/v=1)->RInst w us i->RdI w P x ->
  Calls Tryz.prog 28 #[.agg (List.toArray us),.slice P x.length c] w fun e w'=>e=.returned (.int .i64 (XG i.cap i.weight i.value f x))/\Ext w w'
 | 0,P,c,x,w=>fun hl h01 H hP=>Zdt i us P c x w H hc hk hP (by omega) h01
 | f+1,P,c,x,w=>fun hl h01 H hP=>by
  have ok:=ZR hc hk;have k1:=ok.n1;have k2:=ok.n2;refine ZeJ i us P c x w H hk hP (by omega) n hn (by omega) (by omega) (by omega) (fun b=>XG i.cap i.weight i.value f (x++[b])) ?_;rintro k A d q hk2 rfl W y hq;refine ZbL i us hc hk n hn f A d _ W (by simp;omega) (fun v hv=>?_) (H.ext y) hq;rcases List.mem_append.1 hv with h | h
  ·exact h01 v h
  ·have:=List.mem_singleton.1 h
   omega
section
variable {D:Nat} {kids:List Int->List Int} {bound:List Int->Int}
end
structure KrnOk (D:Nat)(kids:List Int->List Int)(bound:List Int->Int)(okp:List Int->Prop)(bx:List Int->Int) : Prop where
 len:∀ p,okp p->p.length<=D
 kid:∀ p,okp p->p.length<D->∀ n∈kids p,okp (p++[n])
 leaf:∀ p,okp p->p.length=D->bound p=bx p
 low:∀ p,okp p->bound p<=bx p
 node:∀ p,okp p->p.length<D->(∃ n∈kids p,bx (p++[n])=bx p)/\∀ n∈kids p,bx p<=bx (p++[n])
def ZaR (w:Nat->Nat) : Nat->Nat
 | 0=>1
 | r+1=>1+w (r+1)*ZaR w r
section
variable {D:Nat} {kids:List Int->List Int} {bound:List Int->Int} {okp:List Int->Prop} {bx:List Int->Int}
end
end Go.Proofs.YtmojhhlcocjoaaaGreatDoor
namespace Go.Proofs.YtmojhhlcocjoaaaGreatDoor
abbrev Wd : Type:=List UInt8
def Wr (g:Int->Wd->Int×Wd) : List Int->Wd->Int×Wd
 | [],w=>(0,w)
 | n::l,w=>if (g n w).1=0 then Wr g l (g n w).2 else g n w
def ZK (D:Nat)(kids:List Int->List Int)(bound:List Int->Int)(cost:Int) : Nat->List Int->Wd->Int×Wd
 | 0,_,w=>(0,w)
 | _+1,_,[]=>(6,[])
 | f+1,p,c::w =>
  if c=98 then(if p.length=D then(8,w) else Wr (fun n v=>ZK D kids bound cost f (p++[n]) v) (kids p) w)
  else if c=108 then(if p.length=D then(if bound p<cost then(13,w) else(0,w)) else(8,w))
  else if c=112 then(if bound p<cost then(13,w) else(0,w))
  else(2,w)
def UZ (D:Nat)(kids:List Int->List Int)(bound:List Int->Int)(cost:Int)(w:Wd) : Int :=
 if (ZK D kids bound cost (D+1) [] w).1=0 then(if (ZK D kids bound cost (D+1) [] w).2=[] then 0 else 7) else(ZK D kids bound cost (D+1) [] w).1
section
variable {D:Nat} {kids:List Int->List Int} {bound:List Int->Int} {cost:Int}
theorem Vw (f:Nat)(c:UInt8)(w:Wd)(p:List Int) : ZK D kids bound cost (f+1) p (c::w)=if c=98 then(if p.length=D then(8,w) else Wr (fun n v=>ZK D kids bound cost f (p++[n]) v) (kids p) w)
  else if c=108 then(if p.length=D then(if bound p<cost then(13,w) else(0,w)) else(8,w))
  else if c=112 then(if bound p<cost then(13,w) else(0,w))
  else(2,w):=by rw[ZK]
end
section
variable {D:Nat} {kids:List Int->List Int} {bound:List Int->Int} {okp:List Int->Prop} {bx:List Int->Int} {cost:Int}
theorem ZaS (H:KrnOk D kids bound okp bx) : ∀ (f:Nat) (p:List Int) (w:Wd),okp p->f+p.length=D+1->(ZK D kids bound cost f p w).1=0->cost<=bx p
 | 0,p,w,ho,hf,_=>by have:=H.len p ho;omega
 | f+1,p,[],ho,hf,h=>by simp[ZK] at h
 | f+1,p,c::w,ho,hf,h=>by
  have hl:=H.len p ho;have hlow:=H.low p ho;rw[Vw] at h
  by_cases h1:c=98
  ·simp only[h1,if_true] at h
   by_cases h2:p.length=D
   ·simp[h2] at h
   ·simp only[h2,if_false] at h
    have hlt:p.length<D:=by omega
    have key:∀ (l:List Int) (w:Wd),(∀ n∈l,okp (p++[n]))->(Wr (fun n v=>ZK D kids bound cost f (p++[n]) v) l w).1=0->∀ n∈l,cost<=bx (p++[n]):=by
     intro l
     induction l with
     | nil=>intro w _ _ n hn;cases hn
     | cons m l ih =>
      intro w hk hs n hn;unfold Wr at hs
      by_cases h4:(ZK D kids bound cost f (p++[m]) w).1=0
      ·simp only[h4,if_true] at hs
       rcases List.mem_cons.1 hn with rfl | hn
       ·exact ZaS H f _ w (hk _ (by simp)) (by simp;omega) h4
       ·exact ih _ (fun m hm=>hk m (by simp[hm])) hs n hn
      ·simp only[h4,if_false] at hs
    obtain⟨⟨n,hn,en⟩,_⟩:=H.node p ho hlt;have:=key (kids p) w (H.kid p ho hlt) h n hn;omega
  ·simp only[h1,if_false] at h
   have fin:∀ {w:Wd},(if bound p<cost then((13,w):Int×Wd) else(0,w)).1=0->cost<=bx p:=by
    intro w h
    by_cases h4:bound p<cost
    ·simp[h4] at h
    ·omega
   by_cases h2:c=108
   ·simp only[h2,if_true] at h
    by_cases h3:p.length=D
    ·simp only[h3,if_true] at h
     exact fin h
    ·simp[h3] at h
   ·simp only[h2,if_false] at h
    by_cases h3:c=112
    ·simp only[h3,if_true] at h
     exact fin h
    ·simp[h3] at h
theorem Zdu (H:KrnOk D kids bound okp bx)(h0:okp []){w:Wd}(h:UZ D kids bound cost w=0) : cost<=bx []:=by
 unfold UZ at h
 by_cases h1:(ZK D kids bound cost (D+1) [] w).1=0
 ·exact ZaS H (D+1) [] w h0 (by simp) h1
 ·rw[if_neg h1] at h
  exact absurd h h1
def Z6 (D:Nat)(kids:List Int->List Int)(bound:List Int->Int)(cost:Int) : Nat->List Int->Wd
 | 0,_=>[]
 | f+1,p=>if cost<=bound p then [112] else if p.length=D then [108] else 98::((kids p).map fun n=>Z6 D kids bound cost f (p++[n])).flatten
theorem ZbM (H:KrnOk D kids bound okp bx) : ∀ (f:Nat) (p:List Int) (r:Wd),okp p->f+p.length=D+1 ->
  (cost<=bx p->ZK D kids bound cost f p (Z6 D kids bound cost f p++r)=(0,r))/\(bx p<cost->(ZK D kids bound cost f p (Z6 D kids bound cost f p++r)).1=13)
 | 0,p,r,ho,hf=>by have:=H.len p ho;omega
 | f+1,p,r,ho,hf=>by
  have hl:=H.len p ho;have hlow:=H.low p ho;unfold Z6
  by_cases h1:cost<=bound p
  ·rw[if_pos h1]
   refine⟨fun _=>?_,fun h=>by omega⟩;simp only[List.cons_append,List.nil_append,ZK];simp[show ¬bound p<cost by omega]
  ·rw[if_neg h1]
   by_cases h2:p.length=D
   ·rw[if_pos h2]
    have h3:=H.leaf p ho h2;refine⟨fun h=>by omega,fun _=>?_⟩;simp only[List.cons_append,List.nil_append,ZK];simp[h2,show bound p<cost by omega]
   ·rw[if_neg h2]
    have hlt:p.length<D:=by omega
    have key:∀ (l:List Int) (r:Wd),(∀ n∈l,okp (p++[n])) ->
      ((∀ n∈l,cost<=bx (p++[n]))->Wr (fun n v=>ZK D kids bound cost f (p++[n]) v) l ((l.map fun n=>Z6 D kids bound cost f (p++[n])).flatten++r)=(0,r))/\((∃ n∈l,bx (p++[n])<cost)->(Wr (fun n v=>ZK D kids bound cost f (p++[n]) v) l ((l.map fun n=>Z6 D kids bound cost f (p++[n])).flatten++r)).1=13):=by
     intro l
     induction l with
     | nil=>intro r _;exact⟨fun _=>rfl,fun⟨n,hn,_⟩=>by cases hn⟩
     | cons m l ih =>
      intro r hk;have h3:=ZbM H f (p++[m]) ((l.map fun n=>Z6 D kids bound cost f (p++[n])).flatten++r) (hk m (by simp)) (by simp;omega);simp only[List.map_cons,List.flatten_cons,Wr,List.append_assoc]
      by_cases hm:cost<=bx (p++[m])
      ·rw[h3.1 hm]
       simp only[if_true];obtain⟨i1,i2⟩:=ih r fun n hn=>hk n (by simp[hn])
       refine⟨fun h=>i1 fun n hn=>h n (by simp[hn]),fun⟨n,hn,hb⟩=>?_⟩;rcases List.mem_cons.1 hn with rfl | hn
       ·omega
       ·exact i2 ⟨n,hn,hb⟩
      ·have h4:=h3.2 (by omega)
       rw[if_neg (by rw[h4];decide)];exact⟨fun h=>absurd (h m (by simp)) hm,fun _=>h4⟩
    obtain⟨⟨n,hn,en⟩,hall⟩:=H.node p ho hlt;obtain⟨k1,k2⟩:=key (kids p) r (H.kid p ho hlt);simp only[List.cons_append,ZK];simp only[h2,if_true,if_false];refine⟨fun h=>k1 fun m hm=>?_,fun h=>k2 ⟨n,hn,by omega⟩⟩;have:=hall m hm;omega
theorem ZeL (H:KrnOk D kids bound okp bx)(h0:okp []) : UZ D kids bound cost (Z6 D kids bound cost (D+1) [])=0↔cost<=bx []:=by
 obtain⟨k1,k2⟩:=ZbM (cost:=cost) H (D+1) [] [] h0 (by simp);rw[List.append_nil] at k1 k2;unfold UZ
 by_cases h:cost<=bx []
 ·rw[k1 h]
  simp[h]
 ·have h2:=k2 (by omega)
  rw[if_neg (by rw[h2];decide),h2];simp[h]
end
end Go.Proofs.YtmojhhlcocjoaaaGreatDoor
namespace Go.Proofs.YtmojhhlcocjoaaaGreatDoor
theorem ZbN {f:Int->Int} : ∀ {l:List Int} {b:Int},(∀ x∈l,0<=f x)->(∀ x∈l,ZH f b l<=f x)/\(0<=b->ZH f b l<=b)
 | [],b,_=>⟨(fun x hx=>by cases hx),fun _=>Int.le_refl _⟩
 | y::l,b,h=>by
  have hy:=h y (by simp);have ih:=ZbN (l:=l) (b:=if b<0 then f y else if f y<b then f y else b) fun x hx=>h x (by simp[hx])
  have hb:0<=(if b<0 then f y else if f y<b then f y else b):=by split<;>(try split)<;>omega
  have h2:=ih.2 hb;refine⟨fun x hx=>?_,fun h0=>?_⟩
  ·rcases List.mem_cons.1 hx with rfl | hx
   ·refine Int.le_trans h2 ?_
    split<;>(try split)<;>omega
   ·exact ih.1 x hx
  ·refine Int.le_trans h2 ?_
   split<;>(try split)<;>omega
theorem Zcw {f:Int->Int}{l:List Int}{v:Int}(h:∀ x∈l,0<=f x)(hne:l≠[])(e:ZH f (-1) l=v) : (∃ n∈l,f n=v)/\∀ n∈l,v<=f n:=by
 subst e;refine⟨?_,(ZbN h).1⟩;rcases Qg (b:=-1) h (.inr hne) with⟨_,h0⟩ | ⟨x,hx,h0⟩
 ·omega
 ·exact⟨x,hx,h0.symm⟩
theorem JH {f:Int->Int}{l l':List Int}{v:Int}(hp:∀ x,x∈l↔x∈l')(h:(∃ n∈l,f n=v)/\∀ n∈l,v<=f n) : (∃ n∈l',f n=v)/\∀ n∈l',v<=f n :=
 ⟨by obtain⟨n,hn,e⟩:=h.1;exact⟨n,(hp n).1 hn,e⟩,fun n hn=>h.2 n ((hp n).2 hn)⟩
theorem Zhk {cap:Int}{ws vs:List Int}(h0:0<=cap)(hw:∀ x∈ws,0<=x)(hv:∀ x∈vs,0<=x/\x<=2147483647)(hl:ws.length=vs.length)(hf:Falls ws vs) :
  KrnOk ws.length (fun p=>(VJ cap ws vs p).1) (fun p=>(YO cap ws vs p).1) (fun p=>∃ q,stP cap 0 ws vs p=some q) (W6 cap ws vs) where
 len:=fun p ⟨q,h⟩=>by
  rcases Nat.lt_or_ge ws.length p.length with h1 | h1
  ·rw[QT h1] at h;cases h
  ·exact h1
 kid:=fun p ⟨⟨r,o⟩,h⟩ hlt n hn=>by
  obtain⟨w,ws',e1⟩:∃ w ws',ws.drop p.length=w::ws':=⟨_,_,List.drop_eq_getElem_cons hlt⟩;obtain⟨v,vs',e2⟩:∃ v vs',vs.drop p.length=v::vs':=⟨_,_,List.drop_eq_getElem_cons (by omega)⟩;have hr:=(UN hw h0 h).1;unfold VJ at hn;rw[h] at hn;simp only[e1] at hn;split at hn
  ·rename_i hle
   simp at hn;rcases hn with rfl | rfl
   ·exact⟨_,Zbk h e1 e2 hle⟩
   ·exact⟨_,Js h e1 e2 hr⟩
  ·simp at hn
   subst hn;exact⟨_,Js h e1 e2 hr⟩
 leaf:=fun p ⟨⟨r,o⟩,h⟩ hpl=>by
  have:=Zg4 h hpl hl;simp only[this.1,this.2]
 low:=fun p ⟨⟨r,o⟩,h⟩=>by
  rcases ZfS cap ws vs p with he | ⟨_,he⟩
  ·exact(Zc3 h0 hw hv hl hf he).2
  ·rw[h] at he;cases he
 node:=fun p ⟨⟨r,o⟩,h⟩ hlt=>by
  have hr:=(UN hw h0 h).1;have ho:=(Zak hv h).1;have hvn:∀ x∈vs,0<=x:=fun x hx=>(hv x hx).1
  have e:=Zc2 h hr hlt hl hvn ho;obtain⟨w,ws',e1⟩:∃ w ws',ws.drop p.length=w::ws':=⟨_,_,List.drop_eq_getElem_cons hlt⟩;obtain⟨v,vs',e2⟩:∃ v vs',vs.drop p.length=v::vs':=⟨_,_,List.drop_eq_getElem_cons (by omega)⟩;have hvs:∀ x∈v::vs',0<=x:=fun x hx=>hvn x (List.mem_of_mem_drop (e2 ▸ hx))
  refine Zcw (fun x hx=>?_) ?_ e
  ·unfold VJ at hx
   rw[h] at hx;simp only[e1] at hx;split at hx
   ·rename_i hle
    simp at hx;rcases hx with rfl | rfl
    ·rw[Zc1 h e1 e2 hle];exact Xn ho fun x hx=>hvs x (by simp[hx])
    ·rw[Zau h e1 e2 hr];exact Xn (by have:=hvs v (by simp);omega) fun x hx=>hvs x (by simp[hx])
   ·simp at hx
    subst hx;rw[Zau h e1 e2 hr];exact Xn (by have:=hvs v (by simp);omega) fun x hx=>hvs x (by simp[hx])
  ·unfold VJ
   rw[h];simp only[e1];split<;>simp
theorem ZeM {rows:List (List Int)}(ok:RowsOk rows) :
  KrnOk rows.length (fun p=>(V2 rows p).1) (fun p=>(Yz rows p).1) (fun p=>∃ m,Z1 rows.length p=some m) (fun p=>Xk rows rows.length (rows.length-p.length) p) where
 len:=fun p ⟨m,h⟩=>by have:=ZZ ok.n2 h;omega
 kid:=fun p ⟨m,h⟩ hlt n hn=>by
  obtain⟨l,e1,e2,_⟩:=Q3 h;rw[e1] at hn;obtain⟨c,hc,rfl⟩:=List.mem_map.1 hn;exact⟨_,XS ok.n2 h (e2.mem_iff.1 hc)⟩
 leaf:=fun p ⟨m,h⟩ hpl=>by
  have h1:=(Vc ok h).2.1;obtain⟨l,rfl,hl⟩:=ZaE ok.n2 h hpl;show (Yz rows (Zd l)).1=_;rw[show rows.length-(Zd l).length=0 by omega];unfold Yz;rw[h];simp only;rw[if_neg (by omega),Int.add_zero]
  rfl
 low:=fun p ⟨m,h⟩=>(Vc ok h).2.1
 node:=fun p ⟨m,h⟩ hlt=>by
  have hlen:=ZZ ok.n2 h;obtain⟨l,e1,e2,_⟩:=Q3 h;obtain⟨f,hf⟩:∃ f,rows.length-p.length=f+1:=⟨rows.length-p.length-1,by omega⟩;have ef:∀ c:Int,rows.length-(p++[c]).length=f:=fun c=>by simp;omega
  have e:ZH (fun x=>Xk rows rows.length f (p++[x])) (-1) (Zd (Zf m))=Xk rows rows.length (rows.length-p.length) p:=by
   rw[hf];show _=ZH _ (-1) (match Z1 rows.length p with | none=>[] | some m=>Zd (Zf m));rw[h]
  have hpos:∀ x∈Zd (Zf m),0<=Xk rows rows.length f (p++[x]):=fun x hx=>by
   obtain⟨c,hc,rfl⟩:=List.mem_map.1 hx;have h4:=Vc ok (XS ok.n2 h hc);rw[ef] at h4;omega
  have hN:=Zcw hpos (by intro h0;have:=congrArg List.length h0;rw[Zg] at this;simp at this;rw[this] at hlen;simp at hlen;omega) e;have hN2:=JH (l':=(V2 rows p).1) (fun x=>by
   rw[e1]
   constructor
   ·intro hx
    obtain⟨c,hc,rfl⟩:=List.mem_map.1 hx;exact List.mem_map.2 ⟨c,e2.mem_iff.2 hc,rfl⟩
   ·intro hx
    obtain⟨c,hc,rfl⟩:=List.mem_map.1 hx;exact List.mem_map.2 ⟨c,e2.mem_iff.1 hc,rfl⟩) hN
  refine⟨?_,fun n hn=>?_⟩
  ·obtain⟨n,hn,e⟩:=hN2.1
   exact⟨n,hn,by rw[ef];exact e⟩
  ·rw[ef];exact hN2.2 n hn
theorem Zhl {rows:List (List Int)}{mi:Bool}(ok:RowsOk rows)(num:∀ a b,a<rows.length->b<rows.length->0<=Za rows a b/\Za rows a b<=2147483647)(sym:mi=true->∀ a b,a<rows.length->b<rows.length->Za rows a b=Za rows b a) :
  KrnOk (rows.length-1) (fun p=>(V4 rows p).1) (fun p=>(YD rows mi p).1) (fun p=>∃ s,Z5 rows p=some s) (fun p=>YS rows (rows.length-1-p.length) p) where
 len:=fun p ⟨s,h⟩=>by have:=JE ok.n1 ok.n2 (m:=s.1) (last:=s.2.1) (cost:=s.2.2) h;omega
 kid:=fun p ⟨s,h⟩ hlt n hn=>by
  obtain⟨l,e1,e2,_⟩:=Q5 (m:=s.1) (last:=s.2.1) (cost:=s.2.2) h;rw[e1] at hn;obtain⟨c,hc,rfl⟩:=List.mem_map.1 hn;exact⟨_,Wz ok.n1 ok.n2 (m:=s.1) (last:=s.2.1) (cost:=s.2.2) h (e2.mem_iff.1 hc)⟩
 leaf:=fun p ⟨s,h⟩ hpl=>by
  obtain⟨l,WO⟩:=YK ok.n1 ok.n2 (m:=s.1) (last:=s.2.1) (cost:=s.2.2) h;have hwl:=WO.len;have hll:l.length=rows.length-1:=by rw[<-hpl,WO.eq,Zg]
  have hm0:Zf s.1=[]:=List.eq_nil_of_length_eq_zero (by omega);show (YD rows mi p).1=_;have e1:YS rows (rows.length-1-p.length) p=ZC rows 0 l:=by
   rw[show rows.length-1-p.length=0 by omega];show ZC rows 0 (p.map Int.toNat)=_;rw[WO.eq,Z8]
  rw[e1];have e2:=JC rows l [] 0;rw[List.append_nil] at e2;unfold YD;rw[h,e2];obtain⟨m,last,cost⟩:=s;simp only at hm0 WO ⊢;simp only[hm0,if_true];rw[WO.cost,WO.last]
  rfl
 low:=fun p ⟨s,h⟩=>(Ul (mirror:=mi) ok.n1 ok.n2 num sym (m:=s.1) (last:=s.2.1) (cost:=s.2.2) h).2.1
 node:=fun p ⟨s,h⟩ hlt=>by
  have hlen:=JE ok.n1 ok.n2 (m:=s.1) (last:=s.2.1) (cost:=s.2.2) h;obtain⟨l,e1,e2,_⟩:=Q5 (m:=s.1) (last:=s.2.1) (cost:=s.2.2) h;obtain⟨f,hf⟩:∃ f,rows.length-1-p.length=f+1:=⟨rows.length-1-p.length-1,by omega⟩;have ef:∀ c:Int,rows.length-1-(p++[c]).length=f:=fun c=>by simp;omega
  have e:ZH (fun x=>YS rows f (p++[x])) (-1) (Zd (Zf s.1))=YS rows (rows.length-1-p.length) p:=by
   rw[hf];show _=ZH _ (-1) (match Z5 rows p with | none=>[] | some (m,_,_)=>Zd (Zf m));rw[h]
  have hpos:∀ x∈Zd (Zf s.1),0<=YS rows f (p++[x]):=fun x hx=>by
   obtain⟨c,hc,rfl⟩:=List.mem_map.1 hx;have h4:=Ul (mirror:=mi) ok.n1 ok.n2 num sym (Wz ok.n1 ok.n2 (m:=s.1) (last:=s.2.1) (cost:=s.2.2) h hc);rw[ef] at h4;omega
  have hN:=Zcw hpos (by intro h0;have:=congrArg List.length h0;rw[Zg] at this;simp at this;rw[this] at hlen;simp at hlen;omega) e;have hN2:=JH (l':=(V4 rows p).1) (fun x=>by
   rw[e1]
   constructor
   ·intro hx
    obtain⟨c,hc,rfl⟩:=List.mem_map.1 hx;exact List.mem_map.2 ⟨c,e2.mem_iff.2 hc,rfl⟩
   ·intro hx
    obtain⟨c,hc,rfl⟩:=List.mem_map.1 hx;exact List.mem_map.2 ⟨c,e2.mem_iff.1 hc,rfl⟩) hN
  refine⟨?_,fun n hn=>?_⟩
  ·obtain⟨n,hn,e⟩:=hN2.1
   exact⟨n,hn,by rw[ef];exact e⟩
  ·rw[ef];exact hN2.2 n hn
def W7 (lt:Nat->Nat->Bool)(n:Nat)(l:List Nat) : Nat->Nat
 | 0=>0
 | k+1=>if lt n (l.getD k 0)=true then W7 lt n l k else k+1
def Zdv (n:Nat)(l:List Nat)(k:Nat) : List Nat:=l.take k++n::l.drop k
def Zf8 (lt:Nat->Nat->Bool)(n:Nat)(l:List Nat) : List Nat:=Zdv n l (W7 lt n l l.length)
def UG (lt:Nat->Nat->Bool) : Nat->List Nat
 | 0=>[]
 | n+1=>Zf8 lt n (UG lt n)
theorem Zfy (lt:Nat->Nat->Bool)(n:Nat)(l:List Nat) : ∀ k,W7 lt n l k<=k
 | 0=>Nat.le_refl _
 | k+1=>by
  unfold W7;split
  ·have:=Zfy lt n l k;omega
  ·exact Nat.le_refl _
theorem ZbO {lt:Nat->Nat->Bool}{n:Nat}{l:List Nat} : ∀ k j,W7 lt n l k<=j->j<k->lt n (l.getD j 0)=true
 | 0,j,_,h=>by omega
 | k+1,j,h1,h2=>by
  unfold W7 at h1;split at h1
  ·rename_i h
   by_cases hj:j=k
   ·subst hj;exact h
   ·exact ZbO k j h1 (by omega)
  ·omega
theorem Zfz {lt:Nat->Nat->Bool}{n:Nat}{l:List Nat} : ∀ k,0<W7 lt n l k->lt n (l.getD (W7 lt n l k-1) 0)=false
 | 0,h=>by simp[W7] at h
 | k+1,h=>by
  unfold W7 at h ⊢;split
  ·rename_i h1
   rw[if_pos h1] at h;exact Zfz k h
  ·rename_i h1
   simpa using h1
theorem Zf9 (n:Nat)(l:List Nat)(k:Nat) : (Zdv n l k).Perm (n::l):=by
 unfold Zdv;refine List.perm_middle.trans ?_;rw[List.take_append_drop]
theorem Zga (lt:Nat->Nat->Bool)(n:Nat)(l:List Nat) : (Zf8 lt n l).Perm (n::l):=Zf9 _ _ _
theorem V8 (lt:Nat->Nat->Bool) : ∀ n,(UG lt n).Perm (List.range n)
 | 0=>List.Perm.refl _
 | n+1=>by
  refine(Zga lt n _).trans ?_;rw[List.range_succ];exact((V8 lt n).cons n).trans (List.perm_append_comm (l₁:=[n]) (l₂:=List.range n))
theorem Zdw (lt:Nat->Nat->Bool)(n:Nat) : (UG lt n).length=n:=by rw[(V8 lt n).length_eq,List.length_range]
theorem Zdx {lt:Nat->Nat->Bool}(h:Weak lt){n:Nat}{l:List Nat}(hs:l.Pairwise (strictly lt))(hn:∀ x∈l,x<n) : (Zf8 lt n l).Pairwise (strictly lt):=by
 have hk:=Zfy lt n l l.length;unfold Zf8 Zdv;have front:∀ x∈l.take (W7 lt n l l.length),strictly lt x n:=fun x hx=>by
  obtain⟨j,hj,rfl⟩:=List.getElem_of_mem hx;rw[List.length_take] at hj;rw[List.getElem_take];have hp:0<W7 lt n l l.length:=by omega
  have hat:=Zfz l.length hp;have hq:W7 lt n l l.length-1<l.length:=by omega
  rw[List.getD,List.getElem?_eq_getElem hq] at hat;simp only[Option.getD_some] at hat;refine .inr ⟨?_,hn _ (List.getElem_mem _)⟩
  by_cases hj2:j=W7 lt n l l.length-1
  ·subst hj2;exact hat
  ·have hst:=List.pairwise_iff_getElem.1 hs j (W7 lt n l l.length-1) (by omega) hq (by omega)
   cases hc:lt n l[j] with
   | false=>rfl
   | true =>
    rcases h.neg n (l[W7 lt n l l.length-1]) _ hc with h3 | h3
    ·rw[hat] at h3;cases h3
    ·have:=strictly.le h hst
     rw[this] at h3;cases h3
 have back:∀ x∈l.drop (W7 lt n l l.length),strictly lt n x:=fun x hx=>by
  obtain⟨j,hj,rfl⟩:=List.getElem_of_mem hx;rw[List.length_drop] at hj;rw[List.getElem_drop];have hb:=ZbO (lt:=lt) (n:=n) (l:=l) l.length (W7 lt n l l.length+j) (by omega) (by omega);rw[List.getD,List.getElem?_eq_getElem (show W7 lt n l l.length+j<l.length by omega)] at hb;exact .inl hb
 rw[List.pairwise_append];refine⟨hs.sublist (List.take_sublist _ _),List.pairwise_cons.2 ⟨back,hs.sublist (List.drop_sublist _ _)⟩,fun x hx y hy=>?_⟩;rcases List.mem_cons.1 hy with rfl | hy
 ·exact front x hx
 ·exact h.trans (front x hx) (back y hy)
theorem J4 {lt:Nat->Nat->Bool}(h:Weak lt) : ∀ n,(UG lt n).Pairwise (strictly lt)
 | 0=>List.Pairwise.nil
 | n+1=>Zdx h (J4 h n) fun x hx=>List.mem_range.1 ((V8 lt n).mem_iff.1 hx)
theorem ZeN {v w:List Int}(hw:∀ x∈w,0<=x) : UG (Z7 v w) v.length=XC v w :=
 List.Perm.eq_of_pairwise (le:=strictly (Z7 v w)) (fun _ _ _ _ h3 h4=>absurd h4 ((WP hw).asymm h3)) (J4 (WP hw) _) (VO hw) ((V8 _ _).trans (WQ v w).symm)
def UA (room:Int) : List Int->List Int->Int
 | w::ws,v::vs=>if w<=room then UA (room-w) ws vs else v+Zj vs-v*room / w
 | _,_=>0
theorem Zdy : ∀ (ws vs:List Int) (room:Int),ws.length=vs.length->UA room ws vs=Zj vs-Zz room ws vs
 | [],[],_,_=>by simp[UA,Zz,Zj]
 | [],_::_,_,h=>by simp at h
 | _::_,[],_,h=>by simp at h
 | w::ws,v::vs,room,h=>by
  have ih:=Zdy ws vs (room-w) (by simpa using h);unfold UA Zz
  by_cases hw:w<=room
  ·rw[if_pos hw,if_neg (by omega),ih]
   simp only[Zj];omega
  ·rw[if_neg hw,if_pos (by omega)]
   rfl
def Zdz (cap:Int) : List Int->List Int->Int
 | w::ws,x::p=>Zdz (cap-x*w) ws p
 | _,_=>cap
def Zii (out:Int) : List Int->List Int->Int
 | v::vs,x::p=>Zii (out+(1-x)*v) vs p
 | _,_=>out
theorem W5 : ∀ {p ws vs:List Int} {room out r o:Int},stP room out ws vs p=some (r,o)->Zdz room ws p=r/\Zii out vs p=o
 | [],ws,vs,room,out,r,o,h=>by
  have h':some (room,out)=some (r,o):=by cases ws<;>cases vs<;>exact h
  injection h' with h'
  injection h' with h1 h2
  subst h1 h2;exact⟨by cases ws<;>rfl,by cases vs<;>rfl⟩
 | x::p,[],vs,room,out,r,o,h=>by cases vs<;>simp[stP] at h
 | x::p,w::ws,[],room,out,r,o,h=>by simp[stP] at h
 | x::p,w::ws,v::vs,room,out,r,o,h=>by
  unfold stP at h;unfold Zdz Zii
  by_cases h1:x=1
  ·subst h1
   rw[if_pos rfl] at h;split at h
   ·cases h
   ·have:=W5 h
    simpa using this
  ·rw[if_neg h1] at h
   by_cases h0:x=0
   ·subst h0
    rw[if_pos rfl] at h;split at h
    ·cases h
    ·have:=W5 h
     simpa using this
   ·rw[if_neg h0] at h;cases h
theorem ZdA {cap:Int}{ws vs p:List Int}{r o:Int}(hl:ws.length=vs.length)(h:stP cap 0 ws vs p=some (r,o)) : (YO cap ws vs p).1=Zii 0 vs p+UA (Zdz cap ws p) (ws.drop p.length) (vs.drop p.length):=by
 obtain⟨h1,h2⟩:=W5 h;unfold YO;rw[h,h1,h2,Zdy _ _ _ (by simp[hl])];simp only;omega
theorem ZdB : ∀ (l:List Int) (b:Int),(∀ x∈l,0<=x)->Zt b l=Xc b l
 | [],b,_=>rfl
 | x::l,b,h=>by
  have hx:=h x (by simp);unfold Zt Xc;rw[ZdB l _ fun y hy=>h y (by simp[hy])]
  congr 1
  by_cases h1:b<0
  ·simp[h1,hx]
  ·by_cases h2:x<b
   ·simp[h1,h2,hx]
   ·simp[h1,h2,hx]
theorem Zhm : ∀ (rows:List (List Int)) (off:List Int) (c:Nat) (b:Int),(∀ row∈rows,0<=row.getD c 0)->Qm c b rows off=WU c b rows off
 | [],off,c,b,_=>by cases off<;>rfl
 | _::_,[],c,b,_=>rfl
 | row::rows,o::off,c,b,h=>by
  have hx:=h row (by simp);unfold Qm WU;rw[Zhm rows off c _ fun y hy=>h y (by simp[hy])]
  congr 1
  by_cases h1:b<0
  ·rw[if_pos ⟨hx,.inl h1⟩,if_pos h1]
  ·by_cases h2:row.getD c 0-o<b
   ·rw[if_pos ⟨hx,.inr h2⟩,if_neg h1,if_pos h2]
   ·rw[if_neg (by omega),if_neg h1,if_neg h2]
theorem V9 {row:List Int}{c:Nat}(h:c<row.length) : row.getD c 0∈row:=by
 rw[List.getD,List.getElem?_eq_getElem h];exact List.getElem_mem h
theorem Zgb {ms:List (List Int)}{L:Nat}{B:Int}(h0:0<L)(hm:ms≠[])(hl:∀ row∈ms,row.length=L)(num:∀ row∈ms,∀ x∈row,0<=x/\x<=B) : YY ms L=WW ms L:=by
 have hne:∀ row∈ms,row≠[]:=fun row hr e=>by have:=hl row hr;rw[e] at this;simp at this;omega
 have hB:0<=B:=by
  obtain⟨row,hr⟩:=List.exists_mem_of_ne_nil ms hm;obtain⟨x,hx⟩:=List.exists_mem_of_ne_nil row (hne row hr);have:=num row hr x hx;omega
 have e1:Wg ms=UD ms:=by
  unfold Wg UD;refine List.map_congr_left fun row hr=>?_
  rw[ZdB row (-1) fun x hx=>(num row hr x hx).1];have:=(Vg (b:=-1) (num row hr) (by omega) (.inr (hne row hr))).1;omega
 have e2:Wp ms L=UT ms L:=by
  unfold Wp UT;refine List.map_congr_left fun c hc=>?_
  have hcL:=List.mem_range.1 hc;rw[e1,Zhm ms _ c (-1) fun row hr=>(num row hr _ (V9 (by rw[hl row hr];exact hcL))).1];have:=(Q1 (c:=c) (B:=B) (rows:=ms) (off:=UD ms) (b:=-1) (fun k x o hx ho=>by
   unfold UD at ho;rw[List.getElem?_map,hx] at ho;have ho:=Option.some.inj ho;have hr:=List.mem_of_getElem? hx;have g1:=(Vh (b:=-1) fun y hy=>(num x hr y hy).1).1 _ (V9 (c:=c) (by rw[hl x hr];exact hcL));have g2:=Vg (b:=-1) (num x hr) (by omega) (.inr (hne x hr));have g3:=num x hr _ (V9 (c:=c) (by rw[hl x hr];exact hcL));rw[<-ho];omega) (by simp[UD]) (by omega) (.inr hm)).1
  omega
 unfold YY WW;rw[e1,e2]
theorem ZdC {rows:List (List Int)}{l:List Nat}{B:Int}(hm:rows≠[])(hl:l≠[])(num:∀ row∈rows,∀ c∈l,0<=row.getD c 0/\row.getD c 0<=B) : YY (rows.map fun row=>l.map fun c=>row.getD c 0) l.length=ZW rows l:=by
 rw[Zgb (B:=B) (by cases l with
  | nil=>exact absurd rfl hl
  | cons a l=>simp) (by simpa using hm) (fun row hr=>by
   obtain⟨r,_,rfl⟩:=List.mem_map.1 hr;simp) (fun row hr x hx=>by
   obtain⟨r,h1,rfl⟩:=List.mem_map.1 hr;obtain⟨c,h2,rfl⟩:=List.mem_map.1 hx;exact num r h1 c h2),ZaC]
def U0 (rows:List (List Int))(us:List Nat)(last:Nat)(q:List Nat)(st:Int×Int×Int) : Int×Int×Int :=
 q.foldl (fun st u=>(st.1+((ZO rows us last u).1+(ZO rows us last u).2),min st.2.1 (Za rows last u),min st.2.2 (Za rows u 0))) st
theorem ZdD (rows:List (List Int))(us:List Nat)(last:Nat) : ∀ (q:List Nat) (a b c:Int),0<=b->0<=c->(∀ u∈q,0<=Za rows last u/\0<=Za rows u 0) ->
  U0 rows us last q (a,b,c)=(a+Zj (q.map fun u=>(ZO rows us last u).1+(ZO rows us last u).2),Zs (fun u=>Za rows last u) b q,Zs (fun u=>Za rows u 0) c q)
 | [],a,b,c,_,_,_=>by simp[U0,Zj,Zs]
 | u::q,a,b,c,hb,hc,h=>by
  have hu:=h u (by simp);have ih:=ZdD rows us last q (a+((ZO rows us last u).1+(ZO rows us last u).2)) (min b (Za rows last u)) (min c (Za rows u 0)) (by omega) (by omega) fun v hv=>h v (by simp[hv])
  have e:U0 rows us last (u::q) (a,b,c)=U0 rows us last q (a+((ZO rows us last u).1+(ZO rows us last u).2),min b (Za rows last u),min c (Za rows u 0)):=rfl;have s1:∀ (f:Nat->Int) (d:Int),0<=d->Zs f d (u::q)=Zs f (min d (f u)) q:=fun f d hd=>by
   have e:Zs f d (u::q)=Zs f (if d<0 then f u else if f u<d then f u else d) q:=rfl;rw[e]
   congr 1
   rw[if_neg (by omega)];split<;>omega
  rw[e,ih,s1 _ _ hb,s1 _ _ hc,List.map_cons,Zj]
  congr 1
  omega
end Go.Proofs.YtmojhhlcocjoaaaGreatDoor
namespace Go.Proofs.YtmojhhlcocjoaaaGreatDoor
open Go.RowKit Go.ChangeShapes Go.WideShapes Go.ChangeAt Go.Deep
def ZB (lo hi:Int) : Array Value:=#[.int .i64 lo,.int .i64 hi,.int .i64 0,.int .i64 0,.int .i64 0,.int .i64 0,.int .i64 0,.int .i64 0,.int .i64 0]
def Ys (lo hi:Int) : Value:=.agg #[.int .i64 lo,.int .i64 hi,.int .i64 0,.int .i64 0,.int .i64 0,.int .i64 0,.int .i64 0,.int .i64 0,.int .i64 0]
theorem Q8 (lo hi:Int)(i:Nat)(hi9:i<9) : (ZB lo hi)[i]?=some (.int .i64 (if i=0 then lo else if i=1 then hi else 0)):=by
 unfold ZB
 match i,hi9 with
 | 0,_=>rfl
 | 1,_=>rfl
 | 2,_=>rfl
 | 3,_=>rfl
 | 4,_=>rfl
 | 5,_=>rfl
 | 6,_=>rfl
 | 7,_=>rfl
 | 8,_=>rfl
theorem Zal {w0 w:World}(x:Ext w0 w){g:Nat}(hg:w0.heap.size<=g)(u0 u1 u2 u3 u4 u5 u6 u7 u8:Value) :
  Ext w0 (((((((((w.setCell ⟨g,0,none⟩ u0).setCell ⟨g,1,none⟩ u1).setCell ⟨g,2,none⟩ u2).setCell ⟨g,3,none⟩ u3).setCell ⟨g,4,none⟩ u4).setCell ⟨g,5,none⟩ u5).setCell ⟨g,6,none⟩ u6).setCell ⟨g,7,none⟩ u7).setCell ⟨g,8,none⟩ u8) :=
 ((((((((x.setNew (p:=⟨g,0,none⟩) hg u0).setNew (p:=⟨g,1,none⟩) hg u1).setNew (p:=⟨g,2,none⟩) hg u2).setNew (p:=⟨g,3,none⟩) hg u3).setNew (p:=⟨g,4,none⟩) hg u4).setNew (p:=⟨g,5,none⟩) hg u5).setNew (p:=⟨g,6,none⟩) hg u6).setNew (p:=⟨g,7,none⟩) hg u7).setNew (p:=⟨g,8,none⟩) hg u8
theorem ZbP (x:Int)(h₀:0<=x)(h₁:x<=2147483647) : bits .and .u64 x 2147483647=x:=by
 have h:=bits_mask .u64 64 (by decide) wraps_u64 31 (by decide) x h₀ (by omega);have h':bits .and .u64 x 2147483647=x%2147483648:=h;rw[h'];omega
theorem ZiX (a:Int)(w:World)(h0:0<=a)(h1:a<=2147483647) : Calls Tryz.prog 225 #[.int .i64 a] w fun e w'=>e=.returned (Ys a 0)/\Ext w w':=by
 have na:decide (a<0)=false:=by simpa using h0
 have wa:IntKind.u64.wrap a=a:=wraps_u64 _ h0 (by omega);have wi:IntKind.i64.wrap a=a:=IntWalk.i64_in _ (by omega);have ba:bits .and .u64 a 2147483647=a:=ZbP a h0 h1;have b0:bits .and .u64 0 2147483647=0:=ZbP 0 (by omega) (by omega);have da:a / 2147483648=0:=by omega
 replace wa:=Hd wa;replace wi:=Hd wi;replace ba:=Hd ba;replace b0:=Hd b0;replace da:=Hd da;have B1:Hid (Blk ((w.alloc (.cells (ZB 0 0) 259)).alloc (.cells (ZB 0 0) 259)) (w.heap.size+1) 259 (ZB 0 0)):=.new (by simp);have B0:Hid (Blk ((w.alloc (.cells (ZB 0 0) 259)).alloc (.cells (ZB 0 0) 259)) w.heap.size 259 (ZB 0 0)):=.alloc (.new rfl) _;have wa':=wa.out;go_enter Tryz.func225,Tryz.ntmps225;go_wp2_with (fail);have Y0:Ext w ((w.alloc (.cells (ZB 0 0) 259)).alloc (.cells (ZB 0 0) 259)):=((Ext.rf _).alloc _).alloc _;go_loopw [4,5] (fun u i wr=>∃ (k:Nat),i=.int .i64 k/\k<=3/\(k=0/\u=.int .u64 a/\Hid (Blk wr (w.heap.size+1) 259 (ZB 0 0))\/1<=k/\u=.int .u64 0/\Hid (Blk wr (w.heap.size+1) 259 (ZB a 0)))/\Hid (Blk wr w.heap.size 259 (ZB 0 0))/\Ext w wr) (fun _ i _=>3-(intOf i).toNat)
 case atStart=>exact⟨0,rfl,by omega,.inl ⟨rfl,rfl,B1⟩,B0,Y0⟩
 case round =>
  obtain⟨k,rfl,hk,hu,hZ,Y⟩:=hrel;obtain⟨rfl,rfl,hB⟩ | ⟨rfl,rfl,hB⟩ | ⟨rfl,rfl,hB⟩ | ⟨rfl,rfl,hB⟩:(k=0/\_=Value.int .u64 a/\Hid (Blk wr (w.heap.size+1) 259 (ZB 0 0)))\/(k=1/\_=Value.int .u64 0/\Hid (Blk wr (w.heap.size+1) 259 (ZB a 0)))\/(k=2/\_=Value.int .u64 0/\Hid (Blk wr (w.heap.size+1) 259 (ZB a 0)))\/(k=3/\_=Value.int .u64 0/\Hid (Blk wr (w.heap.size+1) 259 (ZB a 0))):=by
   rcases hu with h | ⟨h1,h2,h3⟩
   ·exact .inl h
   ·obtain rfl | rfl | rfl:k=1\/k=2\/k=3:=by omega
    ·exact .inr (.inl ⟨rfl,h2,h3⟩)
    ·exact .inr (.inr (.inl ⟨rfl,h2,h3⟩))
    ·exact .inr (.inr (.inr ⟨rfl,h2,h3⟩))
  ·
   have c:=hB.out.cell 0;have f:=hB.out.free 0;have zg:=hB.out.lt;have c':wr.cell? ⟨w.heap.size+1,0,none⟩=some (.int .i64 0):=c;have hN:Hid (Blk (wr.setCell ⟨w.heap.size+1,0,none⟩ (.int .i64 a)) (w.heap.size+1) 259 (ZB a 0)):=hB.out.set 0 _;have hN0:Hid (Blk (wr.setCell ⟨w.heap.size+1,0,none⟩ (.int .i64 a)) w.heap.size 259 (ZB 0 0)):=hZ.out.far (by simp) _;have yN:=Hd (Y.setNew (p:=⟨w.heap.size+1,0,none⟩) (by simp) (.int .i64 a));clear c;have wi':=wi.out;have ba':=ba.out;have da':=da.out;go_wp2;go_roundw
   case rel=>exact⟨1,by go_num,by omega,.inr ⟨by omega,rfl,hN⟩,hN0,yN.out⟩
   case measure=>simp[intOf]
  ·
   have c:=hB.out.cell 1;have f:=hB.out.free 1;have zg:=hB.out.lt;have c':wr.cell? ⟨w.heap.size+1,1,none⟩=some (.int .i64 0):=c;have hN:Hid (Blk (wr.setCell ⟨w.heap.size+1,1,none⟩ (.int .i64 0)) (w.heap.size+1) 259 (ZB a 0)):=hB.out.set 1 _;have hN0:Hid (Blk (wr.setCell ⟨w.heap.size+1,1,none⟩ (.int .i64 0)) w.heap.size 259 (ZB 0 0)):=hZ.out.far (by simp) _;have yN:=Hd (Y.setNew (p:=⟨w.heap.size+1,1,none⟩) (by simp) (.int .i64 0));clear c;have b0':=b0.out;have w0':IntKind.i64.wrap 0=0:=IntWalk.i64_in _ (by omega);go_wp2;go_roundw
   case rel=>exact⟨2,by go_num,by omega,.inr ⟨by omega,rfl,hN⟩,hN0,yN.out⟩
   case measure=>simp[intOf]
  ·
   have c:=hB.out.cell 2;have f:=hB.out.free 2;have zg:=hB.out.lt;have c':wr.cell? ⟨w.heap.size+1,2,none⟩=some (.int .i64 0):=c;have hN:Hid (Blk (wr.setCell ⟨w.heap.size+1,2,none⟩ (.int .i64 0)) (w.heap.size+1) 259 (ZB a 0)):=hB.out.set 2 _;have hN0:Hid (Blk (wr.setCell ⟨w.heap.size+1,2,none⟩ (.int .i64 0)) w.heap.size 259 (ZB 0 0)):=hZ.out.far (by simp) _;have yN:=Hd (Y.setNew (p:=⟨w.heap.size+1,2,none⟩) (by simp) (.int .i64 0));clear c;have b0':=b0.out;have w0':IntKind.i64.wrap 0=0:=IntWalk.i64_in _ (by omega);go_wp2;go_roundw
   case rel=>exact⟨3,by go_num,by omega,.inr ⟨by omega,rfl,hN⟩,hN0,yN.out⟩
   case measure=>simp[intOf]
  ·have c0:wr.cell? ⟨w.heap.size+1,0,none⟩=some (.int .i64 a):=hB.out.cell 0
   have c1:=hB.out.c1;have c2:=hB.out.c2;have c3:=hB.out.c3;have c4:=hB.out.c4;have c5:=hB.out.c5;have c6:=hB.out.c6;have c7:=hB.out.c7;have c8:=hB.out.c8;have z0:=hZ.out.c0;have z1:=hZ.out.c1;have z2:=hZ.out.c2;have z3:=hZ.out.c3;have z4:=hZ.out.c4;have z5:=hZ.out.c5;have z6:=hZ.out.c6;have z7:=hZ.out.c7;have z8:=hZ.out.c8;have f0:wr.frozen? ⟨w.heap.size,0,none⟩=false:=hZ.out.free 0;have f1:wr.frozen? ⟨w.heap.size,1,none⟩=false:=hZ.out.free 1;have f2:wr.frozen? ⟨w.heap.size,2,none⟩=false:=hZ.out.free 2;have f3:wr.frozen? ⟨w.heap.size,3,none⟩=false:=hZ.out.free 3;have f4:wr.frozen? ⟨w.heap.size,4,none⟩=false:=hZ.out.free 4;have f5:wr.frozen? ⟨w.heap.size,5,none⟩=false:=hZ.out.free 5;have f6:wr.frozen? ⟨w.heap.size,6,none⟩=false:=hZ.out.free 6;have f7:wr.frozen? ⟨w.heap.size,7,none⟩=false:=hZ.out.free 7;have f8:wr.frozen? ⟨w.heap.size,8,none⟩=false:=hZ.out.free 8;have Y9:=Hd (Zal Y (g:=w.heap.size) (Nat.le_refl _) (.int .i64 a) (.int .i64 0) (.int .i64 0) (.int .i64 0) (.int .i64 0) (.int .i64 0) (.int .i64 0) (.int .i64 0) (.int .i64 0));go_wp2;exact bodyPost_ret (v:=Ys a 0) (by simp[results,Tryz.results225,go_sem,Ys, *]) rfl ⟨rfl,Y9.out⟩
theorem Zgc (x:Int)(h₀:0<=x)(h₁:x<=9223372036854775807) : bits .and .i64 x 2147483647=x%2147483648 :=
 bits_mask .i64 63 (by decide) (fun n h0 h1=>IntWalk.i64_in n (by omega)) 31 (by decide) x h₀ (by omega)
def Zu (p:Int) : Int:=p%2147483648
def Zl (p:Int) : Int:=p / 2147483648
theorem Q9 {p:Int}(h:0<=p/\p<=4611686014132420609) : 0<=Zu p/\Zu p<=2147483647/\0<=Zl p/\Zl p<=2147483647:=by
 unfold Zu Zl;omega
theorem JI (x y:Int)(i:Nat)(h:i<9) : (ZB x y).setIfInBounds i (.int .i64 (if i=0 then x else if i=1 then y else 0))=ZB x y:=by
 match i,h with
 | 0,_=>rfl
 | 1,_=>rfl
 | 2,_=>rfl
 | 3,_=>rfl
 | 4,_=>rfl
 | 5,_=>rfl
 | 6,_=>rfl
 | 7,_=>rfl
 | 8,_=>rfl
def Zhn (p:Int)(i k:Nat)(x y ov:Int) : Prop:=(i=0/\k=0/\x=0/\y=0/\ov=0)\/(i=0/\k=1/\x=Zu p/\y=0/\ov=Zl p)\/((1<=i\/2<=k)/\x=Zu p/\y=Zl p/\ov=0)
theorem Zho {a b p:Int}(hp:p=a*b)(bp:0<=p/\p<=4611686014132420609){i k:Nat}{x y ov:Int}(hi:i<4)(hk:k<4)(h:Zhn p i k x y ov) :
  ∃ c m s sl sh x' y':Int,c=(if i+k=0 then x else if i+k=1 then y else 0)/\m=(if i=0 then a else if i=1 then 0 else 0)*(if k=0 then b else if k=1 then 0 else 0)/\s=c+m+ov/\sl=s%2147483648/\sh=s / 2147483648 /\
   (0<=c/\c<=2147483647)/\(0<=m/\m<=4611686014132420609)/\(0<=ov/\ov<=2147483647)/\(ZB x y).setIfInBounds (i+k) (.int .i64 sl)=ZB x' y'/\Zhn p i (k+1) x' y' sh:=by
 have hb:=Q9 bp;rcases h with⟨rfl,rfl,rfl,rfl,rfl⟩ | ⟨rfl,rfl,rfl,rfl,rfl⟩ | ⟨h,rfl,rfl,rfl⟩
 ·refine⟨0,p,p,Zu p,Zl p,Zu p,0,rfl,by simpa using hp,by omega,rfl,rfl,by omega,bp,by omega,rfl,.inr (.inl ⟨rfl,rfl,rfl,rfl,rfl⟩)⟩
 ·refine⟨0,0,Zl p,Zl p,0,Zu p,Zl p,rfl,by simp,by omega,by omega,by omega,by omega,by omega,by omega,rfl,.inr (.inr ⟨by omega,rfl,rfl,rfl⟩)⟩
 ·refine⟨(if i+k=0 then Zu p else if i+k=1 then Zl p else 0),0,_,(if i+k=0 then Zu p else if i+k=1 then Zl p else 0),0,Zu p,Zl p,rfl,?_,rfl,?_,?_,?_,by omega,by omega,JI _ _ _ (by omega),.inr (.inr ⟨by omega,rfl,rfl,rfl⟩)⟩
  ·rcases h with h | h
   ·rw[if_neg (show ¬i=0 by omega)]
    split<;>simp
   ·rw[if_neg (show ¬k=0 by omega)]
    split<;>(split<;>simp)
  ·split
   ·omega
   ·split<;>omega
  ·split
   ·omega
   ·split<;>omega
  ·split
   ·omega
   ·split<;>omega
theorem Zgd (a b p:Int)(w:World)(ha:0<=a/\a<=2147483647)(hb:0<=b/\b<=2147483647)(hp:p=a*b) :
  Calls Tryz.prog 224 #[Ys a 0,Ys b 0] w fun e w'=>e=.returned (Ys (Zu p) (Zl p))/\Ext w w':=by
 have bp:0<=p/\p<=4611686014132420609:=by rw[hp];exact Un ha.1 ha.2 hb.1 hb.2
 have hpb:=Q9 bp;replace hp:=Hd hp;have Y0:Ext w ((((w.alloc (.cells (ZB a 0) 259)).alloc (.cells (ZB b 0) 259)).alloc (.cells (ZB 0 0) 259)).alloc (.cells (ZB 0 0) 259)):=((((Ext.rf _).alloc _).alloc _).alloc _).alloc _;have BA:Blk ((((w.alloc (.cells (ZB a 0) 259)).alloc (.cells (ZB b 0) 259)).alloc (.cells (ZB 0 0) 259)).alloc (.cells (ZB 0 0) 259)) w.heap.size 259 (ZB a 0):=.alloc (.alloc (.alloc (.new rfl) _) _) _;have BB:Blk ((((w.alloc (.cells (ZB a 0) 259)).alloc (.cells (ZB b 0) 259)).alloc (.cells (ZB 0 0) 259)).alloc (.cells (ZB 0 0) 259)) (w.heap.size+1) 259 (ZB b 0):=.alloc (.alloc (.new (by simp)) _) _;have BR:Blk ((((w.alloc (.cells (ZB a 0) 259)).alloc (.cells (ZB b 0) 259)).alloc (.cells (ZB 0 0) 259)).alloc (.cells (ZB 0 0) 259)) (w.heap.size+1+1) 259 (ZB 0 0):=.alloc (.new (by simp)) _;have BC:Blk ((((w.alloc (.cells (ZB a 0) 259)).alloc (.cells (ZB b 0) 259)).alloc (.cells (ZB 0 0) 259)).alloc (.cells (ZB 0 0) 259)) (w.heap.size+1+1+1) 259 (ZB 0 0):=.new (by simp);replace Y0:=Hd Y0;replace BA:=Hd BA;replace BB:=Hd BB;replace BR:=Hd BR;replace BC:=Hd BC;unfold Ys;go_enter Tryz.func224,Tryz.ntmps224;go_wp2_with (fail);go_loopw [6] (fun i wr=>∃ (n:Nat) (x y:Int),i=.int .i64 n/\n<=4/\Hid ((n=0/\x=0/\y=0)\/(1<=n/\x=Zu p/\y=Zl p))/\Ext w wr/\Hid (Blk wr w.heap.size 259 (ZB a 0))/\Hid (Blk wr (w.heap.size+1) 259 (ZB b 0))/\Hid (Blk wr (w.heap.size+1+1) 259 (ZB 0 0))/\Hid (Blk wr (w.heap.size+1+1+1) 259 (ZB x y))) (fun i _=>4-(intOf i).toNat)
 case atStart=>exact⟨0,0,0,rfl,by omega,.inl ⟨rfl,rfl,rfl⟩,Y0.out,BA,BB,BR,BC⟩
 case round =>
  obtain⟨wo,rfl⟩:∃ wo:World,wo=wr:=⟨_,rfl⟩;obtain⟨n,x,y,rfl,hn,HS,Y,A1,B1,R1,C1⟩:=hrel
  by_cases hlt:n<4
  ·go_wp2_with (fail)
   go_loopw [7,8] (fun o i wr=>∃ (k:Nat) (x y ov:Int),i=.int .i64 k/\o=.int .i64 ov/\k<=4/\Hid (Zhn p n k x y ov)/\Ext w wr/\Hid (Blk wr w.heap.size 259 (ZB a 0))/\Hid (Blk wr (w.heap.size+1) 259 (ZB b 0))/\Hid (Blk wr (w.heap.size+1+1) 259 (ZB 0 0))/\Hid (Blk wr (w.heap.size+1+1+1) 259 (ZB x y))) (fun _ i _=>4-(intOf i).toNat)
   case atStart =>
    refine⟨0,x,y,0,rfl,rfl,by omega,?_,Y,A1,B1,R1,C1⟩;rcases HS.out with⟨h1,h2,h3⟩ | ⟨h1,h2,h3⟩
    ·exact .inl ⟨h1,rfl,h2,h3,rfl⟩
    ·exact .inr (.inr ⟨.inl h1,h2,h3,rfl⟩)
   case round =>
    obtain⟨wq,rfl⟩:∃ wq:World,wq=wr:=⟨_,rfl⟩;obtain⟨k,x,y,ov,rfl,rfl,hk,HM,Y2,A2,B2,R2,C2⟩:=hrel
    by_cases hlk:k<4
    ·obtain⟨c,m,s,sl,sh,x',y',hc,hm,hs,hsl,hsh,bc,bm,bo,hset,HM2⟩:=Zho hp.out bp hlt hlk HM.out
     have gC:=C2.out.cell (n+k);have gA:=A2.out.cell n;have gB:=B2.out.cell k;rw[Q8 _ _ _ (by omega)] at gC gA gB;rw[<-hc] at gC;have fC:=C2.out.free (n+k);obtain⟨av,hav⟩:∃ av,Hid (av=(if n=0 then a else if n=1 then 0 else 0)):=⟨_,rfl⟩;obtain⟨bv,hbv⟩:∃ bv,Hid (bv=(if k=0 then b else if k=1 then 0 else 0)):=⟨_,rfl⟩;rw[<-hav.out] at gA hm;rw[<-hbv.out] at gB hm;have wm:Hid (IntKind.i64.wrap (av*bv)=m):=Hd (by rw[<-hm];exact IntWalk.i64_in _ (by omega));have w1:Hid (IntKind.i64.wrap (c+m)=c+m):=IntWalk.i64_in _ (by omega);have w2:Hid (IntKind.i64.wrap (c+m+ov)=s):=Hd (by rw[hs];exact IntWalk.i64_in _ (by omega));have wn:Hid (IntKind.i64.wrap ((n:Int)+(k:Int))=(n:Int)+(k:Int)):=IntWalk.i64_in _ (by omega);have ea:Hid (bits .and .i64 s 2147483647=sl):=Hd (by rw[Zgc s (by omega) (by omega),hsl]);have es:Hid (s / 2147483648=sh):=hsh.symm;have bs:0<=s/\s<=9223372036854775807:=by omega
     have bsh:0<=sh/\sh<=9223372036854775807:=by omega
     have q1:(0:Int)<=(n:Int)+(k:Int):=by omega
     have q2:(n:Int)+(k:Int)<9:=by omega
     have q3:(n:Int)<9:=by omega
     have q4:(k:Int)<9:=by omega
     replace hset:=Hd hset;replace HM2:=Hd HM2;have zA:=A2.out.lt;have zB:=B2.out.lt;have zC:=C2.out.lt;clear hc hm hs hsl hsh bm bo;have wn':=wn.out;have wm':=wm.out;have w1':=w1.out;have w2':=w2.out;have ea':=ea.out;have es':=es.out;go_wp2_with (go_quiet (fail));go_roundw
     case rel=>exact⟨k+1,x',y',sh,by go_num,rfl,by omega,HM2,(Y2.drewN _).setNew (by simp<;>omega) _,(A2.out.drewN _).far (by simp<;>omega) _,(B2.out.drewN _).far (by simp<;>omega) _,(R2.out.drewN _).far (by simp<;>omega) _,by rw[<-hset.out];exact(C2.out.drewN _).set (n+k) _⟩
     case measure=>simp[intOf];omega
    ·obtain rfl:k=4:=by omega
     have HM4:Hid (x=Zu p/\y=Zl p/\ov=0):=by
      rcases HM.out with⟨_,h,_⟩ | ⟨_,h,_⟩ | ⟨_,h1,h2,h3⟩
      ·omega
      ·omega
      ·exact⟨h1,h2,h3⟩
     obtain⟨rfl,rfl,rfl⟩:=HM4.out;have gC:=C2.out.cell (n+4);rw[Q8 _ _ _ (by omega),if_neg (by omega),if_neg (by omega)] at gC;have fC:=C2.out.free (n+4);have q1:(0:Int)<=(n:Int)+4:=by omega
     have q2:(n:Int)+4<9:=by omega
     have wn':IntKind.i64.wrap ((n:Int)+4)=(n:Int)+4:=IntWalk.i64_in _ (by omega);have hset:Hid ((ZB (Zu p) (Zl p)).setIfInBounds (n+4) (.int .i64 0)=ZB (Zu p) (Zl p)):=by
      have h:=JI (Zu p) (Zl p) (n+4) (by omega);rw[if_neg (by omega),if_neg (by omega)] at h;exact h
     clear HM HM4;go_wp2_with (fail);go_roundw
     case rel=>exact⟨n+1,Zu p,Zl p,by go_num,by omega,.inr ⟨by omega,rfl,rfl⟩,Y2.setNew (by simp<;>omega) _,A2.out.far (by simp<;>omega) _,B2.out.far (by simp<;>omega) _,R2.out.far (by simp<;>omega) _,by rw[<-hset.out];exact C2.out.set (n+4) _⟩
     case measure=>simp[intOf];omega
  ·obtain rfl:n=4:=by omega
   have HS4:Hid (x=Zu p/\y=Zl p):=by
    rcases HS.out with⟨h,_⟩ | ⟨_,h1,h2⟩
    ·omega
    ·exact⟨h1,h2⟩
   obtain⟨rfl,rfl⟩:=HS4.out;clear HS HS4;have c0:=C1.out.c0;have c1:=C1.out.c1;have c2:=C1.out.c2;have c3:=C1.out.c3;have c4:=C1.out.c4;have c5:=C1.out.c5;have c6:=C1.out.c6;have c7:=C1.out.c7;have c8:=C1.out.c8;have z0:=R1.out.c0;have z1:=R1.out.c1;have z2:=R1.out.c2;have z3:=R1.out.c3;have z4:=R1.out.c4;have z5:=R1.out.c5;have z6:=R1.out.c6;have z7:=R1.out.c7;have z8:=R1.out.c8;have f0:wo.frozen? ⟨w.heap.size+1+1,0,none⟩=false:=R1.out.free 0;have f1:wo.frozen? ⟨w.heap.size+1+1,1,none⟩=false:=R1.out.free 1;have f2:wo.frozen? ⟨w.heap.size+1+1,2,none⟩=false:=R1.out.free 2;have f3:wo.frozen? ⟨w.heap.size+1+1,3,none⟩=false:=R1.out.free 3;have f4:wo.frozen? ⟨w.heap.size+1+1,4,none⟩=false:=R1.out.free 4;have f5:wo.frozen? ⟨w.heap.size+1+1,5,none⟩=false:=R1.out.free 5;have f6:wo.frozen? ⟨w.heap.size+1+1,6,none⟩=false:=R1.out.free 6;have f7:wo.frozen? ⟨w.heap.size+1+1,7,none⟩=false:=R1.out.free 7;have f8:wo.frozen? ⟨w.heap.size+1+1,8,none⟩=false:=R1.out.free 8;have Y9:=Hd (Zal Y (g:=w.heap.size+1+1) (by omega) (.int .i64 (Zu p)) (.int .i64 (Zl p)) (.int .i64 0) (.int .i64 0) (.int .i64 0) (.int .i64 0) (.int .i64 0) (.int .i64 0) (.int .i64 0));go_wp2_with (fail);exact bodyPost_ret (v:=Ys (Zu p) (Zl p)) (by simp[results,Tryz.results224,go_sem,Ys, *]) rfl ⟨rfl,Y9.out⟩
def ZP (m:Bool)(lo hi:Int) : Array Value:=#[.bool m,.int .i64 lo,.int .i64 hi,.int .i64 0,.int .i64 0,.int .i64 0,.int .i64 0,.int .i64 0,.int .i64 0,.int .i64 0]
def Yv (m:Bool)(lo hi:Int) : Value:=.agg #[.bool m,.int .i64 lo,.int .i64 hi,.int .i64 0,.int .i64 0,.int .i64 0,.int .i64 0,.int .i64 0,.int .i64 0,.int .i64 0]
theorem ZeO {w0 w:World}(x:Ext w0 w){g:Nat}(hg:w0.heap.size<=g)(u0 u1 u2 u3 u4 u5 u6 u7 u8 u9:Value) :
  Ext w0 ((((((((((w.setCell ⟨g,0,none⟩ u0).setCell ⟨g,1,none⟩ u1).setCell ⟨g,2,none⟩ u2).setCell ⟨g,3,none⟩ u3).setCell ⟨g,4,none⟩ u4).setCell ⟨g,5,none⟩ u5).setCell ⟨g,6,none⟩ u6).setCell ⟨g,7,none⟩ u7).setCell ⟨g,8,none⟩ u8).setCell ⟨g,9,none⟩ u9) :=
 (Zal x hg u0 u1 u2 u3 u4 u5 u6 u7 u8).setNew (p:=⟨g,9,none⟩) hg u9
theorem Zam (a:Int)(w:World)(h0:0<=a)(h1:a<=2147483647) : Calls Tryz.prog 209 #[.int .i64 a] w fun e w'=>e=.returned (Yv false a 0)/\Ext w w':=by
 have na:decide (a<0)=false:=by simpa using h0
 have B0:Blk (w.alloc (.cells (ZP false 0 0) 261)) w.heap.size 261 (ZP false 0 0):=.new rfl;have Y0:Ext w (w.alloc (.cells (ZP false 0 0) 261)):=(Ext.rf _).alloc _;replace B0:=Hd B0;replace Y0:=Hd Y0;go_enter Tryz.func209,Tryz.ntmps209;go_wp2_with (fail);refine(ZiX a _ h0 h1).mono ?_;rintro e w2 ⟨rfl,x2⟩;have B2:=B0.out.ext x2;have z0:=B2.c0;have z1:=B2.c1;have z2:=B2.c2;have z3:=B2.c3;have z4:=B2.c4;have z5:=B2.c5;have z6:=B2.c6;have z7:=B2.c7;have z8:=B2.c8;have z9:=B2.c9;have f0:w2.frozen? ⟨w.heap.size,0,none⟩=false:=B2.free 0;have f1:w2.frozen? ⟨w.heap.size,1,none⟩=false:=B2.free 1;have f2:w2.frozen? ⟨w.heap.size,2,none⟩=false:=B2.free 2;have f3:w2.frozen? ⟨w.heap.size,3,none⟩=false:=B2.free 3;have f4:w2.frozen? ⟨w.heap.size,4,none⟩=false:=B2.free 4;have f5:w2.frozen? ⟨w.heap.size,5,none⟩=false:=B2.free 5;have f6:w2.frozen? ⟨w.heap.size,6,none⟩=false:=B2.free 6;have f7:w2.frozen? ⟨w.heap.size,7,none⟩=false:=B2.free 7;have f8:w2.frozen? ⟨w.heap.size,8,none⟩=false:=B2.free 8;have f9:w2.frozen? ⟨w.heap.size,9,none⟩=false:=B2.free 9;have Y2:=Hd (ZeO (Y0.out.tr x2) (g:=w.heap.size) (Nat.le_refl _) (.bool false) (.int .i64 a) (.int .i64 0) (.int .i64 0) (.int .i64 0) (.int .i64 0) (.int .i64 0) (.int .i64 0) (.int .i64 0) (.int .i64 0));clear B2 x2;unfold Ys;go_wp2_with (fail);exact bodyPost_ret (v:=Yv false a 0) (by simp[results,Tryz.results209,go_sem,Yv, *]) rfl ⟨rfl,Y2.out⟩
theorem Zij (m:Bool)(lo hi:Int)(w:World) : Calls Tryz.prog 223 #[Yv m lo hi] w fun e w'=>e=.returned (Yv (!m) lo hi)/\Ext w w':=by
 have B1:Blk ((w.alloc (.cells (ZP m lo hi) 261)).alloc (.cells (ZP false 0 0) 261)) w.heap.size 261 (ZP m lo hi):=.alloc (.new rfl) _;have Y0:Ext w ((w.alloc (.cells (ZP m lo hi) 261)).alloc (.cells (ZP false 0 0) 261)):=((Ext.rf _).alloc _).alloc _;replace B1:=Hd B1;have Y2:=Hd (ZeO Y0 (g:=w.heap.size+1) (by omega) (.bool (!m)) (.int .i64 lo) (.int .i64 hi) (.int .i64 0) (.int .i64 0) (.int .i64 0) (.int .i64 0) (.int .i64 0) (.int .i64 0) (.int .i64 0));clear Y0;unfold Yv;go_enter Tryz.func223,Tryz.ntmps223;go_wp2_with (fail);exact bodyPost_ret (v:=Yv (!m) lo hi) (by simp[results,Tryz.results223,go_sem,Yv]) rfl ⟨rfl,((Ext.rf _).alloc _).alloc _⟩
section
variable {W:World} {g:Nat} {m:Bool} {lo hi:Int}
theorem Vk (h:Blk W g 261 (ZP m lo hi)) : (Instr.loadAt 259 (.pointer (some ⟨g,1,none⟩))).run Tryz.prog W=.ok (Ys lo hi) W:=by
 have c0:=h.c0;have c1:=h.c1;have c2:=h.c2;have c3:=h.c3;have c4:=h.c4;have c5:=h.c5;have c6:=h.c6;have c7:=h.c7;have c8:=h.c8;have c9:=h.c9;unfold Ys;clear h;go_simp
theorem ZdE (h:Blk W g 261 (ZP m lo hi)) : (Instr.loadAt 261 (.pointer (some ⟨g,0,none⟩))).run Tryz.prog W=.ok (Yv m lo hi) W:=by
 have c0:=h.c0;have c1:=h.c1;have c2:=h.c2;have c3:=h.c3;have c4:=h.c4;have c5:=h.c5;have c6:=h.c6;have c7:=h.c7;have c8:=h.c8;have c9:=h.c9;unfold Yv;clear h;go_simp
theorem Up (h:Blk W g 261 (ZP m lo hi)) : (Instr.loadAt 4 (.pointer (some ⟨g,0,none⟩))).run Tryz.prog W=.ok (.bool m) W:=by
 have c0:=h.c0;clear h;go_simp
def Zah (W:World)(g:Nat)(m:Bool)(lo hi:Int) : World:=((((((((((W.setCell ⟨g,0,none⟩ (.bool m)).setCell ⟨g,1,none⟩ (.int .i64 lo)).setCell ⟨g,2,none⟩ (.int .i64 hi)).setCell ⟨g,3,none⟩ (.int .i64 0)).setCell ⟨g,4,none⟩ (.int .i64 0)).setCell ⟨g,5,none⟩ (.int .i64 0)).setCell ⟨g,6,none⟩ (.int .i64 0)).setCell ⟨g,7,none⟩ (.int .i64 0)).setCell ⟨g,8,none⟩ (.int .i64 0)).setCell ⟨g,9,none⟩ (.int .i64 0))
theorem Qk {m':Bool}{lo' hi':Int}(h:Blk W g 261 (ZP m' lo' hi')) : (Instr.storeAt 261 (.pointer (some ⟨g,0,none⟩)) (Yv m lo hi)).run Tryz.prog W=.ok () (Zah W g m lo hi):=by
 have c0:=h.c0;have c1:=h.c1;have c2:=h.c2;have c3:=h.c3;have c4:=h.c4;have c5:=h.c5;have c6:=h.c6;have c7:=h.c7;have c8:=h.c8;have c9:=h.c9;have f0:W.frozen? ⟨g,0,none⟩=false:=h.free 0;have f1:W.frozen? ⟨g,1,none⟩=false:=h.free 1;have f2:W.frozen? ⟨g,2,none⟩=false:=h.free 2;have f3:W.frozen? ⟨g,3,none⟩=false:=h.free 3;have f4:W.frozen? ⟨g,4,none⟩=false:=h.free 4;have f5:W.frozen? ⟨g,5,none⟩=false:=h.free 5;have f6:W.frozen? ⟨g,6,none⟩=false:=h.free 6;have f7:W.frozen? ⟨g,7,none⟩=false:=h.free 7;have f8:W.frozen? ⟨g,8,none⟩=false:=h.free 8;have f9:W.frozen? ⟨g,9,none⟩=false:=h.free 9;unfold Yv Zah;clear h;go_simp
theorem Ja {m':Bool}{lo' hi':Int}(h:Blk W g 261 (ZP m' lo' hi')) : Blk (Zah W g m lo hi) g 261 (ZP m lo hi):=by
 have h0:=h.set 0 (.bool m);have h1:=h0.set 1 (.int .i64 lo);have h2:=h1.set 2 (.int .i64 hi);have h3:=h2.set 3 (.int .i64 0);have h4:=h3.set 4 (.int .i64 0);have h5:=h4.set 5 (.int .i64 0);have h6:=h5.set 6 (.int .i64 0);have h7:=h6.set 7 (.int .i64 0);have h8:=h7.set 8 (.int .i64 0);have h9:=h8.set 9 (.int .i64 0);have e:((((((((((ZP m' lo' hi').setIfInBounds 0 (.bool m)).setIfInBounds 1 (.int .i64 lo)).setIfInBounds 2 (.int .i64 hi)).setIfInBounds 3 (.int .i64 0)).setIfInBounds 4 (.int .i64 0)).setIfInBounds 5 (.int .i64 0)).setIfInBounds 6 (.int .i64 0)).setIfInBounds 7 (.int .i64 0)).setIfInBounds 8 (.int .i64 0)).setIfInBounds 9 (.int .i64 0)=ZP m lo hi:=by simp[ZP]
 rw[e] at h9;exact h9
theorem Jb {w0:World}(x:Ext w0 W)(hg:w0.heap.size<=g) : Ext w0 (Zah W g m lo hi):=ZeO x hg _ _ _ _ _ _ _ _ _ _
end
theorem ZfA (a b p:Int)(w:World)(ha:0<=a/\a<=2147483647)(hb:0<=b/\b<=2147483647)(hp:p=a*b) :
  Calls Tryz.prog 208 #[Yv false a 0,Yv false b 0] w fun e w'=>e=.returned (Yv false (Zu p) (Zl p))/\Ext w w':=by
 have B1:Blk (((w.alloc (.cells (ZP false a 0) 261)).alloc (.cells (ZP false b 0) 261)).alloc (.cells (ZP false 0 0) 261)) w.heap.size 261 (ZP false a 0):=.alloc (.alloc (.new rfl) _) _;have B2:Blk (((w.alloc (.cells (ZP false a 0) 261)).alloc (.cells (ZP false b 0) 261)).alloc (.cells (ZP false 0 0) 261)) (w.heap.size+1) 261 (ZP false b 0):=.alloc (.new (by simp)) _;have B3:Blk (((w.alloc (.cells (ZP false a 0) 261)).alloc (.cells (ZP false b 0) 261)).alloc (.cells (ZP false 0 0) 261)) (w.heap.size+1+1) 261 (ZP false 0 0):=.new (by simp);have Y0:Ext w (((w.alloc (.cells (ZP false a 0) 261)).alloc (.cells (ZP false b 0) 261)).alloc (.cells (ZP false 0 0) 261)):=(((Ext.rf _).alloc _).alloc _).alloc _;have hgn:(((w.alloc (.cells (ZP false a 0) 261)).alloc (.cells (ZP false b 0) 261)).alloc (.cells (ZP false 0 0) 261))=(((w.alloc (.cells #[.bool false,.int .i64 a,.int .i64 0,.int .i64 0,.int .i64 0,.int .i64 0,.int .i64 0,.int .i64 0,.int .i64 0,.int .i64 0] 261)).alloc (.cells #[.bool false,.int .i64 b,.int .i64 0,.int .i64 0,.int .i64 0,.int .i64 0,.int .i64 0,.int .i64 0,.int .i64 0,.int .i64 0] 261)).alloc (.cells #[.bool false,.int .i64 0,.int .i64 0,.int .i64 0,.int .i64 0,.int .i64 0,.int .i64 0,.int .i64 0,.int .i64 0,.int .i64 0] 261)):=rfl;rw[hgn] at B1 B2 B3 Y0;clear hgn;replace B1:=Hd B1;replace B2:=Hd B2;replace B3:=Hd B3;replace Y0:=Hd Y0;replace hp:=Hd hp;unfold Yv;go_enter Tryz.func208,Tryz.ntmps208;go_wp2_with (fail);generalize (((w.alloc (.cells #[.bool false,.int .i64 a,.int .i64 0,.int .i64 0,.int .i64 0,.int .i64 0,.int .i64 0,.int .i64 0,.int .i64 0,.int .i64 0] 261)).alloc (.cells #[.bool false,.int .i64 b,.int .i64 0,.int .i64 0,.int .i64 0,.int .i64 0,.int .i64 0,.int .i64 0,.int .i64 0,.int .i64 0] 261)).alloc (.cells #[.bool false,.int .i64 0,.int .i64 0,.int .i64 0,.int .i64 0,.int .i64 0,.int .i64 0,.int .i64 0,.int .i64 0,.int .i64 0] 261))=wr at *;refine wp_region_any (by kernel_rfl) ?_
 change wpAny _ _ _ _ _ _ _ (World.drew _)
 refine Zb (i:=0) (op:=Op.fieldAddr 261 (Operand.tmp 2) 0) (t:=0) (d:=some 5) (v:=?_) rfl (by decide +kernel) (by decide +kernel) (by decide +kernel) (fun _ _ _ h=>h) ?_ ?_
 case refine_2=>(intro _;unfold Ze;go_simp;try with_reducible rfl)
 try simp only[lay]
 refine Zb (i:=2) (op:=Op.fieldAddr 261 (Operand.tmp 3) 0) (t:=0) (d:=some 7) (v:=?_) rfl (by decide +kernel) (by decide +kernel) (by decide +kernel) (fun _ _ _ h=>h) ?_ ?_
 case refine_2=>(intro _;unfold Ze;go_simp;try with_reducible rfl)
 try simp only[lay]
 refine Zb (i:=5) (op:=Op.fieldAddr 261 (Operand.tmp 2) 1) (t:=0) (d:=some 10) (v:=?_) rfl (by decide +kernel) (by decide +kernel) (by decide +kernel) (fun _ _ _ h=>h) ?_ ?_
 case refine_2=>(intro _;unfold Ze;go_simp;try with_reducible rfl)
 try simp only[lay]
 refine Zb (i:=7) (op:=Op.fieldAddr 261 (Operand.tmp 3) 1) (t:=0) (d:=some 12) (v:=?_) rfl (by decide +kernel) (by decide +kernel) (by decide +kernel) (fun _ _ _ h=>h) ?_ ?_
 case refine_2=>(intro _;unfold Ze;go_simp;try with_reducible rfl)
 try simp only[lay]
 refine Yu (n:=2) [(1,some 6),(3,some 8),(4,some 9),(6,some 11),(8,some 13),(9,some 14)] (Ext wr)
  (VF (fun | 1=>some (.bool false) | 3=>some (.bool false) | 4=>some (.bool false) | 6=>some (Ys a 0) | 8=>some (Ys b 0) | 9=>some (Ys (Zu p) (Zl p)) | _=>none) (fun _ _ _=>True))
  Ext #[true,true,true,true,true,true,true,true,true,true,false,false] (by kernel_rfl) (VF.stab ?_) ?_ ?_ ((Ext.rf _).drew)
 ·intro j v W W' _ h _
  exact h
 ·intro pq hpm u W hRW hD K hK
  have b1:=B1.out.ext hRW;have b2:=B2.out.ext hRW;simp only[List.mem_cons,List.not_mem_nil,or_false] at hpm;rcases hpm with rfl | rfl | rfl | rfl | rfl | rfl
  ·exact Zy (T:=4) rfl (.pointer (some ⟨w.heap.size,0,none⟩)) (by kernel_rfl) (.bool false) (Up b1) (hK _ _ (VF.mk rfl) hRW (Ext.rf _))
  ·exact Zy (T:=4) rfl (.pointer (some ⟨w.heap.size+1,0,none⟩)) (by kernel_rfl) (.bool false) (Up b2) (hK _ _ (VF.mk rfl) hRW (Ext.rf _))
  ·have h1:=(hD 1 (Zq (by kernel_rfl))).k rfl
   have h3:=(hD 3 (Zq (by kernel_rfl))).k rfl;exact Wi rfl (.bool false) (by simp only[Zn,h1,h3];unfold Ze;go_simp) (hK _ _ (VF.mk rfl) hRW (Ext.rf _))
  ·exact Zy (T:=259) rfl (.pointer (some ⟨w.heap.size,1,none⟩)) (by kernel_rfl) (Ys a 0) (Vk b1) (hK _ _ (VF.mk rfl) hRW (Ext.rf _))
  ·exact Zy (T:=259) rfl (.pointer (some ⟨w.heap.size+1,1,none⟩)) (by kernel_rfl) (Ys b 0) (Vk b2) (hK _ _ (VF.mk rfl) hRW (Ext.rf _))
  ·have h6:=(hD 6 (Zq (by kernel_rfl))).k rfl
   have h8:=(hD 8 (Zq (by kernel_rfl))).k rfl;refine Ym rfl #[Ys a 0,Ys b 0] (by go_simp) (by simp only[Zn,h6,h8];kernel_rfl) _ (Zgd a b p W ha hb hp.out) ?_;rintro e w3 ⟨rfl,x3⟩;exact⟨_,rfl,hK _ _ (VF.mk rfl) (hRW.tr x3) x3⟩
 ·intro u w3 hRW hV
  have h1:=(hV (1,some 6) (by simp)).k rfl;have h3:=(hV (3,some 8) (by simp)).k rfl;have h4:=(hV (4,some 9) (by simp)).k rfl;have h6:=(hV (6,some 11) (by simp)).k rfl;have h8:=(hV (8,some 13) (by simp)).k rfl;have h9:=(hV (9,some 14) (by simp)).k rfl;simp only[Zn,h1,h3,h4,h6,h8,h9];clear hV h1 h3 h4 h6 h8 h9;have b3:=B3.out.ext hRW;have b4:Blk (Zah w3 (w.heap.size+1+1) false (Zu p) (Zl p)) (w.heap.size+1+1) 261 (ZP false (Zu p) (Zl p)):=Ja b3;have Y4:=Hd (Jb (m:=false) (lo:=Zu p) (hi:=Zl p) (g:=w.heap.size+1+1) (Ext.tr Y0.out hRW) (by omega));unfold Ys
  try simp only[lay]
  refine Zb (i:=10) (op:=Op.build 261 #[(0,Operand.tmp 9),(1,Operand.tmp 14)]) (t:=261) (d:=some 15) (v:=?_) rfl (by decide +kernel) (by decide +kernel) (by decide +kernel) (fun _ _ _ h=>h) ?_ ?_
  case refine_2=>(intro _;unfold Ze;go_simp;try with_reducible rfl)
  try simp only[lay]
  refine Zm 11 (by kernel_rfl) (Wk rfl (.pointer (some ⟨w.heap.size+1+1,0,none⟩)) (Yv false (Zu p) (Zl p)) (by kernel_rfl) (by kernel_rfl) (Qk b3) ?_);refine wpAny_done (by kernel_rfl) ?_ _;clear b3 hRW;generalize Zah w3 (w.heap.size+1+1) false (Zu p) (Zl p)=w5 at *;have c0:=b4.c0;have c1:=b4.c1;have c2:=b4.c2;have c3:=b4.c3;have c4:=b4.c4;have c5:=b4.c5;have c6:=b4.c6;have c7:=b4.c7;have c8:=b4.c8;have c9:=b4.c9;clear b4;go_simp;go_wp2_with (fail);exact bodyPost_ret (v:=Yv false (Zu p) (Zl p)) (by simp[results,Tryz.results208,go_sem,Yv, *]) rfl ⟨rfl,Y4.out⟩
end Go.Proofs.YtmojhhlcocjoaaaGreatDoor
namespace Go.Proofs.YtmojhhlcocjoaaaGreatDoor
open Go.RowKit Go.ChangeShapes Go.WideShapes Go.ChangeAt Go.Deep
def dig (lo hi:Int)(k:Nat) : Int:=if k=0 then lo else if k=1 then hi else 0
def ZbQ (lo hi lo' hi':Int) : Nat->Bool
 | 0=>false
 | k+1=>if dig lo hi k=dig lo' hi' k then ZbQ lo hi lo' hi' k else decide (dig lo hi k<dig lo' hi' k)
theorem ZeP {p q:Int} : ZbQ (Zu p) (Zl p) (Zu q) (Zl q) 9=decide (p<q):=by
 simp only[ZbQ,dig];simp;unfold Zu Zl
 by_cases h1:p / 2147483648=q / 2147483648
 ·rw[if_pos h1,Bool.eq_iff_iff]
  simp;omega
 ·rw[if_neg h1,decide_eq_decide]
  omega
theorem Zhp (p q:Int)(w:World) : Calls Tryz.prog 230 #[Ys (Zu p) (Zl p),Ys (Zu q) (Zl q)] w fun e w'=>e=.returned (.bool (decide (p<q)))/\Ext w w':=by
 have HL:=Hd (@ZeP p q);generalize Zu p=lo at *;generalize Zl p=hi at *;generalize Zu q=lo' at *;generalize Zl q=hi' at *;have BA:Hid (Blk ((w.alloc (.cells (ZB lo hi) 259)).alloc (.cells (ZB lo' hi') 259)) w.heap.size 259 (ZB lo hi)):=.alloc (.new rfl) _;have BB:Hid (Blk ((w.alloc (.cells (ZB lo hi) 259)).alloc (.cells (ZB lo' hi') 259)) (w.heap.size+1) 259 (ZB lo' hi')):=.new (by simp);have Y0:Hid (Ext w ((w.alloc (.cells (ZB lo hi) 259)).alloc (.cells (ZB lo' hi') 259))):=((Ext.rf _).alloc _).alloc _;obtain⟨res,hres⟩:∃ res,Hid (res=decide (p<q)):=⟨_,rfl⟩;rw[<-hres.out] at HL ⊢;unfold Ys;go_enter Tryz.func230,Tryz.ntmps230;go_wp2_with (fail);go_loopw [5] (fun i wr=>∃ (k:Nat) (z:Int),i=.int .i64 z/\z+1=(k:Int)/\k<=9/\Hid (ZbQ lo hi lo' hi' k=res)/\Ext w wr/\Hid (Blk wr w.heap.size 259 (ZB lo hi))/\Hid (Blk wr (w.heap.size+1) 259 (ZB lo' hi'))) (fun i _=>(intOf i+1).toNat)
 case atStart=>exact⟨9,8,rfl,by omega,by omega,HL,Y0.out,BA,BB⟩
 case round =>
  obtain⟨wo,rfl⟩:∃ wo:World,wo=wr:=⟨_,rfl⟩;obtain⟨k,z,rfl,hz,hk,HS,Y,A1,B1⟩:=hrel
  by_cases h0:1<=k
  ·obtain⟨m,rfl⟩:∃ m,k=m+1:=⟨k-1,by omega⟩
   obtain rfl:z=(m:Int):=by omega
   have gA:=A1.out.cell m;have gB:=B1.out.cell m;rw[Q8 _ _ _ (by omega)] at gA gB;have HT:Hid (res=if dig lo hi m=dig lo' hi' m then ZbQ lo hi lo' hi' m else decide (dig lo hi m<dig lo' hi' m)):=HS.out.symm;obtain⟨x,hx⟩:∃ x,Hid (x=dig lo hi m):=⟨_,rfl⟩;obtain⟨y,hy⟩:∃ y,Hid (y=dig lo' hi' m):=⟨_,rfl⟩;have gA':wo.cell? ⟨w.heap.size,m,none⟩=some (.int .i64 x):=by rw[hx.out];exact gA
   have gB':wo.cell? ⟨w.heap.size+1,m,none⟩=some (.int .i64 y):=by rw[hy.out];exact gB
   rw[<-hx.out,<-hy.out] at HT;have q3:(m:Int)<9:=by omega
   clear gA gB hz h0 hx hy HS
   by_cases hxy:x=y
   ·subst hxy
    have HN:Hid (ZbQ lo hi lo' hi' m=res):=by
     have h:=HT.out;rw[if_pos rfl] at h;exact h.symm
    go_wp2_with (go_quiet (fail));go_roundw
    case rel=>exact⟨m,_,rfl,by omega,by omega,HN,by repeat (first | exact Y | apply Ext.drewN),A1,B1⟩
    case measure=>simp[intOf]
   ·have hne:(x != y)=true:=by simpa using hxy
    have HN:Hid (res=decide (x<y)):=by
     have h:=HT.out;rw[if_neg hxy] at h;exact h
    clear hxy;go_wp2_with (go_quiet (fail))
    all_goals go_ret
    all_goals exact⟨Wh HN.out.symm,by repeat (first | exact Y | apply Ext.drewN)⟩
  ·obtain rfl:k=0:=by omega
   obtain rfl:z=-1:=by omega
   go_wp2_with (fail);go_ret;exact⟨Wh HS.out,Y⟩
def ZbR (p q:Int)(k:Nat)(x y u:Int) : Prop:=(k=0/\x=0/\y=0/\u=0)\/(k=1/\x=Zu (p-q)/\y=0/\u=if Zu p<Zu q then 1 else 0)\/(2<=k/\x=Zu (p-q)/\y=Zl (p-q)/\u=0)
theorem Zhq {p q:Int}(hq:0<=q)(hpq:q<=p)(hp:p<=4611686014132420609){k:Nat}(hk:k<9){x y u:Int}(h:ZbR p q k x y u) :
  ∃ a b d d' u' x' y':Int,a=dig (Zu p) (Zl p) k/\b=dig (Zu q) (Zl q) k/\d=a-b-u/\d'=(if d<0 then d+2147483648 else d)/\u'=(if d<0 then 1 else 0)/\(0<=a/\a<=2147483647)/\(0<=b/\b<=2147483647)/\(0<=u/\u<=1) /\
   (ZB x y).setIfInBounds k (.int .i64 d')=ZB x' y'/\ZbR p q (k+1) x' y' u':=by
 have b1:=Q9 (p:=p) ⟨by omega,hp⟩;have b2:=Q9 (p:=q) ⟨hq,by omega⟩;unfold ZbR at h ⊢;unfold Zu Zl at *;rcases h with⟨rfl,rfl,rfl,rfl⟩ | ⟨rfl,rfl,rfl,rfl⟩ | ⟨h,rfl,rfl,rfl⟩
 ·refine⟨p%2147483648,q%2147483648,_,(p-q)%2147483648,_,_,0,rfl,rfl,rfl,?_,rfl,by omega,by omega,by omega,rfl,.inr (.inl ⟨rfl,rfl,rfl,?_⟩)⟩
  ·split<;>omega
  ·split<;>split<;>omega
 ·refine⟨p / 2147483648,q / 2147483648,_,(p-q) / 2147483648,0,_,_,rfl,rfl,rfl,?_,?_,by omega,by omega,by split<;>omega,rfl,.inr (.inr ⟨by omega,rfl,rfl,rfl⟩)⟩
  ·split<;>split<;>omega
  ·split<;>split<;>omega
 ·refine⟨0,0,_,0,0,_,_,?_,?_,rfl,by simp,by simp,by omega,by omega,by omega,?_,.inr (.inr ⟨by omega,rfl,rfl,rfl⟩)⟩
  ·unfold dig;rw[if_neg (by omega),if_neg (by omega)]
  ·unfold dig;rw[if_neg (by omega),if_neg (by omega)]
  ·have e:=JI ((p-q)%2147483648) ((p-q) / 2147483648) k hk
   rw[if_neg (by omega),if_neg (by omega)] at e;exact e
theorem ZaT (p q:Int)(w:World)(hq:0<=q)(hpq:q<=p)(hp:p<=4611686014132420609) : Calls Tryz.prog 231 #[Ys (Zu p) (Zl p),Ys (Zu q) (Zl q)] w fun e w'=>e=.returned (Ys (Zu (p-q)) (Zl (p-q)))/\Ext w w':=by
 have Y0:Ext w ((((w.alloc (.cells (ZB (Zu p) (Zl p)) 259)).alloc (.cells (ZB (Zu q) (Zl q)) 259)).alloc (.cells (ZB 0 0) 259)).alloc (.cells (ZB 0 0) 259)):=((((Ext.rf _).alloc _).alloc _).alloc _).alloc _;have BA:Blk ((((w.alloc (.cells (ZB (Zu p) (Zl p)) 259)).alloc (.cells (ZB (Zu q) (Zl q)) 259)).alloc (.cells (ZB 0 0) 259)).alloc (.cells (ZB 0 0) 259)) w.heap.size 259 (ZB (Zu p) (Zl p)):=.alloc (.alloc (.alloc (.new rfl) _) _) _;have BB:Blk ((((w.alloc (.cells (ZB (Zu p) (Zl p)) 259)).alloc (.cells (ZB (Zu q) (Zl q)) 259)).alloc (.cells (ZB 0 0) 259)).alloc (.cells (ZB 0 0) 259)) (w.heap.size+1) 259 (ZB (Zu q) (Zl q)):=.alloc (.alloc (.new (by simp)) _) _;have BR:Blk ((((w.alloc (.cells (ZB (Zu p) (Zl p)) 259)).alloc (.cells (ZB (Zu q) (Zl q)) 259)).alloc (.cells (ZB 0 0) 259)).alloc (.cells (ZB 0 0) 259)) (w.heap.size+1+1) 259 (ZB 0 0):=.alloc (.new (by simp)) _;have BC:Blk ((((w.alloc (.cells (ZB (Zu p) (Zl p)) 259)).alloc (.cells (ZB (Zu q) (Zl q)) 259)).alloc (.cells (ZB 0 0) 259)).alloc (.cells (ZB 0 0) 259)) (w.heap.size+1+1+1) 259 (ZB 0 0):=.new (by simp);replace Y0:=Hd Y0;replace BA:=Hd BA;replace BB:=Hd BB;replace BR:=Hd BR;replace BC:=Hd BC;have STEP:Hid (∀ (k:Nat),k<9->∀ x y u:Int,ZbR p q k x y u->∃ a b d d' u' x' y':Int,a=dig (Zu p) (Zl p) k/\b=dig (Zu q) (Zl q) k/\d=a-b-u/\d'=(if d<0 then d+2147483648 else d)/\u'=(if d<0 then 1 else 0)/\(0<=a/\a<=2147483647)/\(0<=b/\b<=2147483647)/\(0<=u/\u<=1)/\(ZB x y).setIfInBounds k (.int .i64 d')=ZB x' y'/\ZbR p q (k+1) x' y' u'):=fun k hk x y u h=>Zhq hq hpq hp hk h
 clear hq hpq hp;unfold Ys;go_enter Tryz.func231,Tryz.ntmps231;go_wp2_with (fail);go_loopw [6,7] (fun o i wr=>∃ (k:Nat) (x y u:Int),i=.int .i64 k/\o=.int .i64 u/\k<=9/\Hid (ZbR p q k x y u)/\Ext w wr/\Hid (Blk wr w.heap.size 259 (ZB (Zu p) (Zl p)))/\Hid (Blk wr (w.heap.size+1) 259 (ZB (Zu q) (Zl q)))/\Hid (Blk wr (w.heap.size+1+1) 259 (ZB 0 0))/\Hid (Blk wr (w.heap.size+1+1+1) 259 (ZB x y))) (fun _ i _=>9-(intOf i).toNat)
 case atStart=>exact⟨0,0,0,0,rfl,rfl,by omega,.inl ⟨rfl,rfl,rfl,rfl⟩,Y0.out,BA,BB,BR,BC⟩
 case round =>
  obtain⟨wo,rfl⟩:∃ wo:World,wo=wr:=⟨_,rfl⟩;obtain⟨k,x,y,u,rfl,rfl,hk,HM,Y,A1,B1,R1,C1⟩:=hrel
  by_cases hlt:k<9
  ·obtain⟨a,b,d,d',u',x',y',ha,hb,hd,hd',hu',ba,bb,bu,hset,HM2⟩:=STEP.out k hlt x y u HM.out
   have gA:=A1.out.cell k;have gB:=B1.out.cell k;have gC:=C1.out.cell k;have fC:=C1.out.free k;rw[Q8 _ _ _ hlt] at gA gB gC;have gA':wo.cell? ⟨w.heap.size,k,none⟩=some (.int .i64 a):=by rw[ha];exact gA
   have gB':wo.cell? ⟨w.heap.size+1,k,none⟩=some (.int .i64 b):=by rw[hb];exact gB
   have w1:Hid (IntKind.i64.wrap (a-b)=a-b):=IntWalk.i64_in _ (by omega);have w2:Hid (IntKind.i64.wrap (a-b-u)=d):=Hd (by rw[hd];exact IntWalk.i64_in _ (by omega));have bd:-2147483649<=d/\d<=2147483647:=by omega
   obtain⟨bd1,bd2⟩:=bd;have q3:(k:Int)<9:=by omega
   have n1:¬w.heap.size=w.heap.size+1+1+1:=by omega
   replace hset:=Hd hset;replace HM2:=Hd HM2;replace hd':=Hd hd';replace hu':=Hd hu';clear gA gB ha hb hd HM ba bb bu;have w1':=w1.out;have w2':=w2.out
   by_cases hneg:d<0
   ·have e1:Hid (d'=d+2147483648):=by
     have h:=hd'.out;rw[if_pos hneg] at h;exact h
    have e2:Hid (u'=1):=by
     have h:=hu'.out;rw[if_pos hneg] at h;exact h
    rw[e1.out] at hset;rw[e2.out] at HM2;go_wp2_with (go_quiet (fail));go_roundw
    case rel=>exact⟨k+1,x',y',1,by go_num,rfl,by omega,HM2,(Y.drewN _).setNew (by simp<;>omega) _,(A1.out.drewN _).far (by simp<;>omega) _,(B1.out.drewN _).far (by simp<;>omega) _,(R1.out.drewN _).far (by simp<;>omega) _,by rw[<-hset.out];exact(C1.out.drewN _).set k _⟩
    case measure=>simp[intOf];omega
   ·have e1:Hid (d'=d):=by
     have h:=hd'.out;rw[if_neg hneg] at h;exact h
    have e2:Hid (u'=0):=by
     have h:=hu'.out;rw[if_neg hneg] at h;exact h
    rw[e1.out] at hset;rw[e2.out] at HM2;go_wp2_with (go_quiet (fail));go_roundw
    case rel=>exact⟨k+1,x',y',0,by go_num,rfl,by omega,HM2,(Y.drewN _).setNew (by simp<;>omega) _,(A1.out.drewN _).far (by simp<;>omega) _,(B1.out.drewN _).far (by simp<;>omega) _,(R1.out.drewN _).far (by simp<;>omega) _,by rw[<-hset.out];exact(C1.out.drewN _).set k _⟩
    case measure=>simp[intOf];omega
  ·obtain rfl:k=9:=by omega
   have HM4:Hid (x=Zu (p-q)/\y=Zl (p-q)):=by
    rcases HM.out with⟨h,_⟩ | ⟨h,_⟩ | ⟨_,h1,h2,_⟩
    ·omega
    ·omega
    ·exact⟨h1,h2⟩
   obtain⟨rfl,rfl⟩:=HM4.out;clear HM HM4 STEP;have c0:=C1.out.c0;have c1:=C1.out.c1;have c2:=C1.out.c2;have c3:=C1.out.c3;have c4:=C1.out.c4;have c5:=C1.out.c5;have c6:=C1.out.c6;have c7:=C1.out.c7;have c8:=C1.out.c8;have z0:=R1.out.c0;have z1:=R1.out.c1;have z2:=R1.out.c2;have z3:=R1.out.c3;have z4:=R1.out.c4;have z5:=R1.out.c5;have z6:=R1.out.c6;have z7:=R1.out.c7;have z8:=R1.out.c8;have f0:wo.frozen? ⟨w.heap.size+1+1,0,none⟩=false:=R1.out.free 0;have f1:wo.frozen? ⟨w.heap.size+1+1,1,none⟩=false:=R1.out.free 1;have f2:wo.frozen? ⟨w.heap.size+1+1,2,none⟩=false:=R1.out.free 2;have f3:wo.frozen? ⟨w.heap.size+1+1,3,none⟩=false:=R1.out.free 3;have f4:wo.frozen? ⟨w.heap.size+1+1,4,none⟩=false:=R1.out.free 4;have f5:wo.frozen? ⟨w.heap.size+1+1,5,none⟩=false:=R1.out.free 5;have f6:wo.frozen? ⟨w.heap.size+1+1,6,none⟩=false:=R1.out.free 6;have f7:wo.frozen? ⟨w.heap.size+1+1,7,none⟩=false:=R1.out.free 7;have f8:wo.frozen? ⟨w.heap.size+1+1,8,none⟩=false:=R1.out.free 8;have Y9:=Hd (Zal Y (g:=w.heap.size+1+1) (by omega) (.int .i64 (Zu (p-q))) (.int .i64 (Zl (p-q))) (.int .i64 0) (.int .i64 0) (.int .i64 0) (.int .i64 0) (.int .i64 0) (.int .i64 0) (.int .i64 0));go_wp2_with (fail);exact bodyPost_ret (v:=Ys (Zu (p-q)) (Zl (p-q))) (by simp[results,Tryz.results231,go_sem,Ys, *]) rfl ⟨rfl,Y9.out⟩
def ZdF (p q:Int) : Value:=if p<q then Yv true (Zu (q-p)) (Zl (q-p)) else Yv false (Zu (p-q)) (Zl (p-q))
theorem Zhr (p q:Int)(w:World)(hp:0<=p/\p<=4611686014132420609)(hq:0<=q/\q<=4611686014132420609) :
  Calls Tryz.prog 222 #[Yv false (Zu p) (Zl p),Yv true (Zu q) (Zl q)] w fun e w'=>e=.returned (ZdF p q)/\Ext w w':=by
 have B1:Blk (((w.alloc (.cells (ZP false (Zu p) (Zl p)) 261)).alloc (.cells (ZP true (Zu q) (Zl q)) 261)).alloc (.cells (ZP false 0 0) 261)) w.heap.size 261 (ZP false (Zu p) (Zl p)):=.alloc (.alloc (.new rfl) _) _;have B2:Blk (((w.alloc (.cells (ZP false (Zu p) (Zl p)) 261)).alloc (.cells (ZP true (Zu q) (Zl q)) 261)).alloc (.cells (ZP false 0 0) 261)) (w.heap.size+1) 261 (ZP true (Zu q) (Zl q)):=.alloc (.new (by simp)) _;have B3:Blk (((w.alloc (.cells (ZP false (Zu p) (Zl p)) 261)).alloc (.cells (ZP true (Zu q) (Zl q)) 261)).alloc (.cells (ZP false 0 0) 261)) (w.heap.size+1+1) 261 (ZP false 0 0):=.new (by simp);have Y0:Ext w (((w.alloc (.cells (ZP false (Zu p) (Zl p)) 261)).alloc (.cells (ZP true (Zu q) (Zl q)) 261)).alloc (.cells (ZP false 0 0) 261)):=(((Ext.rf _).alloc _).alloc _).alloc _;have LE:=fun W=>Zhp p q W
 obtain⟨wr,hwr⟩:∃ wr,wr=(((w.alloc (.cells (ZP false (Zu p) (Zl p)) 261)).alloc (.cells (ZP true (Zu q) (Zl q)) 261)).alloc (.cells (ZP false 0 0) 261)):=⟨_,rfl⟩;have hwl:(((w.alloc (.cells #[.bool false,.int .i64 (Zu p),.int .i64 (Zl p),.int .i64 0,.int .i64 0,.int .i64 0,.int .i64 0,.int .i64 0,.int .i64 0,.int .i64 0] 261)).alloc (.cells #[.bool true,.int .i64 (Zu q),.int .i64 (Zl q),.int .i64 0,.int .i64 0,.int .i64 0,.int .i64 0,.int .i64 0,.int .i64 0,.int .i64 0] 261)).alloc (.cells #[.bool false,.int .i64 0,.int .i64 0,.int .i64 0,.int .i64 0,.int .i64 0,.int .i64 0,.int .i64 0,.int .i64 0,.int .i64 0] 261))=wr:=hwr.symm;rw[<-hwr] at B1 B2 B3 Y0;clear hwr;replace B1:=Hd B1;replace B2:=Hd B2;replace B3:=Hd B3;replace Y0:=Hd Y0;replace LE:=Hd LE;replace hwl:=Hd hwl;unfold Yv;go_enter Tryz.func222,Tryz.ntmps222;go_wp2_with (fail);rw[hwl.out];refine(LE.out _).mono ?_;rintro e w2 ⟨rfl,x2⟩;replace x2:=Hd x2
 by_cases hlt:p<q
 ·have hb:decide (p<q)=true:=by simpa using hlt
  have MIN:=Hd (fun W=>ZaT q p W hp.1 (by omega) hq.2);replace hlt:=Hd hlt;clear LE;go_wp2_with (fail);refine wp_region_any (by kernel_rfl) ?_
  change wpAny _ _ _ _ _ _ _ (World.drew _)
  refine Zb (i:=0) (op:=Op.fieldAddr 261 (Operand.tmp 3) 0) (t:=0) (d:=some 23) (v:=?_) rfl (by decide +kernel) (by decide +kernel) (by decide +kernel) (fun _ _ _ h=>h) ?_ ?_
  case refine_2=>(intro _;unfold Ze;go_simp;try with_reducible rfl)
  try simp only[lay]
  refine Zb (i:=2) (op:=Op.fieldAddr 261 (Operand.tmp 3) 1) (t:=0) (d:=some 25) (v:=?_) rfl (by decide +kernel) (by decide +kernel) (by decide +kernel) (fun _ _ _ h=>h) ?_ ?_
  case refine_2=>(intro _;unfold Ze;go_simp;try with_reducible rfl)
  try simp only[lay]
  refine Zb (i:=4) (op:=Op.fieldAddr 261 (Operand.tmp 2) 1) (t:=0) (d:=some 27) (v:=?_) rfl (by decide +kernel) (by decide +kernel) (by decide +kernel) (fun _ _ _ h=>h) ?_ ?_
  case refine_2=>(intro _;unfold Ze;go_simp;try with_reducible rfl)
  try simp only[lay]
  refine Yu (n:=2) [(1,some 24),(3,some 26),(5,some 28),(6,some 29)] (Ext w2)
   (VF (fun | 1=>some (.bool true) | 3=>some (Ys (Zu q) (Zl q)) | 5=>some (Ys (Zu p) (Zl p)) | 6=>some (Ys (Zu (q-p)) (Zl (q-p))) | _=>none) (fun _ _ _=>True))
   Ext #[true,true,true,true,true,true,true,false,false] (by kernel_rfl) (VF.stab ?_) ?_ ?_ ((Ext.rf _).drew)
  ·intro j v W W' _ h _
   exact h
  ·intro pq hpm u W hRW hD K hK
   have b1:=B1.out.ext (x2.out.tr hRW);have b2:=B2.out.ext (x2.out.tr hRW);simp only[List.mem_cons,List.not_mem_nil,or_false] at hpm;rcases hpm with rfl | rfl | rfl | rfl
   ·exact Zy (T:=4) rfl (.pointer (some ⟨w.heap.size+1,0,none⟩)) (by kernel_rfl) (.bool true) (Up b2) (hK _ _ (VF.mk rfl) hRW (Ext.rf _))
   ·exact Zy (T:=259) rfl (.pointer (some ⟨w.heap.size+1,1,none⟩)) (by kernel_rfl) (Ys (Zu q) (Zl q)) (Vk b2) (hK _ _ (VF.mk rfl) hRW (Ext.rf _))
   ·exact Zy (T:=259) rfl (.pointer (some ⟨w.heap.size,1,none⟩)) (by kernel_rfl) (Ys (Zu p) (Zl p)) (Vk b1) (hK _ _ (VF.mk rfl) hRW (Ext.rf _))
   ·have h3:=(hD 3 (Zq (by kernel_rfl))).k rfl
    have h5:=(hD 5 (Zq (by kernel_rfl))).k rfl;refine Ym rfl #[Ys (Zu q) (Zl q),Ys (Zu p) (Zl p)] (by go_simp) (by simp only[Zn,h3,h5];kernel_rfl) _ (MIN.out W) ?_;rintro e w3 ⟨rfl,x3⟩;exact⟨_,rfl,hK _ _ (VF.mk rfl) (hRW.tr x3) x3⟩
  ·intro u w3 hRW hV
   have h1:=(hV (1,some 24) (by simp)).k rfl;have h3:=(hV (3,some 26) (by simp)).k rfl;have h5:=(hV (5,some 28) (by simp)).k rfl;have h6:=(hV (6,some 29) (by simp)).k rfl;simp only[Zn,h1,h3,h5,h6];clear hV h1 h3 h5 h6;have b3:=B3.out.ext (x2.out.tr hRW);have b4:Blk (Zah w3 (w.heap.size+1+1) true (Zu (q-p)) (Zl (q-p))) (w.heap.size+1+1) 261 (ZP true (Zu (q-p)) (Zl (q-p))):=Ja b3;have Y4:=Hd (Jb (m:=true) (lo:=(Zu (q-p))) (hi:=(Zl (q-p))) (g:=w.heap.size+1+1) (Ext.tr (Ext.tr Y0.out x2.out) hRW) (by omega));unfold Ys
   try simp only[lay]
   refine Zb (i:=7) (op:=Op.build 261 #[(0,Operand.tmp 24),(1,Operand.tmp 29)]) (t:=261) (d:=some 30) (v:=?_) rfl (by decide +kernel) (by decide +kernel) (by decide +kernel) (fun _ _ _ h=>h) ?_ ?_
   case refine_2=>(intro _;unfold Ze;go_simp;try with_reducible rfl)
   try simp only[lay]
   refine Zm 8 (by kernel_rfl) (Wk rfl (.pointer (some ⟨w.heap.size+1+1,0,none⟩)) (Yv true (Zu (q-p)) (Zl (q-p))) (by kernel_rfl) (by kernel_rfl) (Qk b3) ?_);refine wpAny_done (by kernel_rfl) ?_ _;clear b3 hRW;generalize Zah w3 (w.heap.size+1+1) true (Zu (q-p)) (Zl (q-p))=w5 at *;have c0:=b4.c0;have c1:=b4.c1;have c2:=b4.c2;have c3:=b4.c3;have c4:=b4.c4;have c5:=b4.c5;have c6:=b4.c6;have c7:=b4.c7;have c8:=b4.c8;have c9:=b4.c9;clear b4;go_simp;go_wp2_with (fail);exact bodyPost_ret (v:=Yv true (Zu (q-p)) (Zl (q-p))) (by simp[results,Tryz.results222,go_sem,Yv, *]) rfl ⟨by rw[ZdF,if_pos hlt.out],Y4.out⟩
 ·have hb:decide (p<q)=false:=by simpa using hlt
  have MIN:=Hd (fun W=>ZaT p q W hq.1 (by omega) hp.2);replace hlt:=Hd hlt;clear LE;go_wp2_with (fail);refine wp_region_any (by kernel_rfl) ?_
  change wpAny _ _ _ _ _ _ _ (World.drew _)
  refine Zb (i:=0) (op:=Op.fieldAddr 261 (Operand.tmp 2) 0) (t:=0) (d:=some 31) (v:=?_) rfl (by decide +kernel) (by decide +kernel) (by decide +kernel) (fun _ _ _ h=>h) ?_ ?_
  case refine_2=>(intro _;unfold Ze;go_simp;try with_reducible rfl)
  try simp only[lay]
  refine Zb (i:=2) (op:=Op.fieldAddr 261 (Operand.tmp 2) 1) (t:=0) (d:=some 33) (v:=?_) rfl (by decide +kernel) (by decide +kernel) (by decide +kernel) (fun _ _ _ h=>h) ?_ ?_
  case refine_2=>(intro _;unfold Ze;go_simp;try with_reducible rfl)
  try simp only[lay]
  refine Zb (i:=4) (op:=Op.fieldAddr 261 (Operand.tmp 3) 1) (t:=0) (d:=some 35) (v:=?_) rfl (by decide +kernel) (by decide +kernel) (by decide +kernel) (fun _ _ _ h=>h) ?_ ?_
  case refine_2=>(intro _;unfold Ze;go_simp;try with_reducible rfl)
  try simp only[lay]
  refine Yu (n:=2) [(1,some 32),(3,some 34),(5,some 36),(6,some 37)] (Ext w2)
   (VF (fun | 1=>some (.bool false) | 3=>some (Ys (Zu p) (Zl p)) | 5=>some (Ys (Zu q) (Zl q)) | 6=>some (Ys (Zu (p-q)) (Zl (p-q))) | _=>none) (fun _ _ _=>True))
   Ext #[true,true,true,true,true,true,true,false,false] (by kernel_rfl) (VF.stab ?_) ?_ ?_ ((Ext.rf _).drew)
  ·intro j v W W' _ h _
   exact h
  ·intro pq hpm u W hRW hD K hK
   have b1:=B1.out.ext (x2.out.tr hRW);have b2:=B2.out.ext (x2.out.tr hRW);simp only[List.mem_cons,List.not_mem_nil,or_false] at hpm;rcases hpm with rfl | rfl | rfl | rfl
   ·exact Zy (T:=4) rfl (.pointer (some ⟨w.heap.size,0,none⟩)) (by kernel_rfl) (.bool false) (Up b1) (hK _ _ (VF.mk rfl) hRW (Ext.rf _))
   ·exact Zy (T:=259) rfl (.pointer (some ⟨w.heap.size,1,none⟩)) (by kernel_rfl) (Ys (Zu p) (Zl p)) (Vk b1) (hK _ _ (VF.mk rfl) hRW (Ext.rf _))
   ·exact Zy (T:=259) rfl (.pointer (some ⟨w.heap.size+1,1,none⟩)) (by kernel_rfl) (Ys (Zu q) (Zl q)) (Vk b2) (hK _ _ (VF.mk rfl) hRW (Ext.rf _))
   ·have h3:=(hD 3 (Zq (by kernel_rfl))).k rfl
    have h5:=(hD 5 (Zq (by kernel_rfl))).k rfl;refine Ym rfl #[Ys (Zu p) (Zl p),Ys (Zu q) (Zl q)] (by go_simp) (by simp only[Zn,h3,h5];kernel_rfl) _ (MIN.out W) ?_;rintro e w3 ⟨rfl,x3⟩;exact⟨_,rfl,hK _ _ (VF.mk rfl) (hRW.tr x3) x3⟩
  ·intro u w3 hRW hV
   have h1:=(hV (1,some 32) (by simp)).k rfl;have h3:=(hV (3,some 34) (by simp)).k rfl;have h5:=(hV (5,some 36) (by simp)).k rfl;have h6:=(hV (6,some 37) (by simp)).k rfl;simp only[Zn,h1,h3,h5,h6];clear hV h1 h3 h5 h6;have b3:=B3.out.ext (x2.out.tr hRW);have b4:Blk (Zah w3 (w.heap.size+1+1) false (Zu (p-q)) (Zl (p-q))) (w.heap.size+1+1) 261 (ZP false (Zu (p-q)) (Zl (p-q))):=Ja b3;have Y4:=Hd (Jb (m:=false) (lo:=(Zu (p-q))) (hi:=(Zl (p-q))) (g:=w.heap.size+1+1) (Ext.tr (Ext.tr Y0.out x2.out) hRW) (by omega));unfold Ys
   try simp only[lay]
   refine Zb (i:=7) (op:=Op.build 261 #[(0,Operand.tmp 32),(1,Operand.tmp 37)]) (t:=261) (d:=some 38) (v:=?_) rfl (by decide +kernel) (by decide +kernel) (by decide +kernel) (fun _ _ _ h=>h) ?_ ?_
   case refine_2=>(intro _;unfold Ze;go_simp;try with_reducible rfl)
   try simp only[lay]
   refine Zm 8 (by kernel_rfl) (Wk rfl (.pointer (some ⟨w.heap.size+1+1,0,none⟩)) (Yv false (Zu (p-q)) (Zl (p-q))) (by kernel_rfl) (by kernel_rfl) (Qk b3) ?_);refine wpAny_done (by kernel_rfl) ?_ _;clear b3 hRW;generalize Zah w3 (w.heap.size+1+1) false (Zu (p-q)) (Zl (p-q))=w5 at *;have c0:=b4.c0;have c1:=b4.c1;have c2:=b4.c2;have c3:=b4.c3;have c4:=b4.c4;have c5:=b4.c5;have c6:=b4.c6;have c7:=b4.c7;have c8:=b4.c8;have c9:=b4.c9;clear b4;go_simp;go_wp2_with (fail);exact bodyPost_ret (v:=Yv false (Zu (p-q)) (Zl (p-q))) (by simp[results,Tryz.results222,go_sem,Yv, *]) rfl ⟨by rw[ZdF,if_neg (by have:=hlt.out;omega)],Y4.out⟩
theorem Zge : Tryz.prog.underlying 259=some (.array 9 3):=by kernel_rfl
theorem ZiY (x y:Int)(u:World) : (binOp .eql 259 (.agg #[.int .i64 x,.int .i64 y,.int .i64 0,.int .i64 0,.int .i64 0,.int .i64 0,.int .i64 0,.int .i64 0,.int .i64 0]) (.agg #[.int .i64 0,.int .i64 0,.int .i64 0,.int .i64 0,.int .i64 0,.int .i64 0,.int .i64 0,.int .i64 0,.int .i64 0])).run Tryz.prog u=.ok (.bool ((x==0)&&(y==0))) u:=by
 rw[run_eql_struct];unfold Op.equalIn;simp only[Sem.run_bind,run_underlying Zge,Result.andThen_ok];have e9:List.range' 0 9 1=[0,1,2,3,4,5,6,7,8]:=rfl;simp only[Std.Legacy.Range.forIn_eq_forIn_range',Std.Legacy.Range.size,Nat.sub_zero,Nat.add_one_sub_one,Nat.div_one,e9,List.forIn_cons,List.forIn_nil]
 by_cases hx:x=0
 ·subst hx
  by_cases hy:y=0
  ·subst hy
   go_simp
  ·have hy':(y==0)=false:=by simpa using hy
   go_simp
 ·have hx':(x==0)=false:=by simpa using hx
  go_simp
def JJ (p q:Int) : Int:=if p=q then 0 else if p<q then -1 else 1
theorem ZeQ (p q:Int)(hp:0<=p/\p<=4611686014132420609)(hq:0<=q/\q<=4611686014132420609) : ∃ m x y,ZdF p q=Yv m x y/\((JJ p q=0/\x=0/\y=0)\/(JJ p q=-1/\m=true/\(x≠0\/y≠0))\/(JJ p q=1/\m=false/\(x≠0\/y≠0))):=by
 unfold ZdF JJ Zu Zl
 by_cases h1:p<q
 ·rw[if_pos h1]
  exact⟨_,_,_,rfl,.inr (.inl ⟨by rw[if_neg (by omega),if_pos h1],rfl,by omega⟩)⟩
 ·rw[if_neg h1]
  by_cases h2:p=q
  ·exact⟨_,_,_,rfl,.inl ⟨by rw[if_pos h2],by omega,by omega⟩⟩
  ·exact⟨_,_,_,rfl,.inr (.inr ⟨by rw[if_neg h2,if_neg h1],rfl,by omega⟩)⟩
theorem Zhs (p q:Int)(w:World)(hp:0<=p/\p<=4611686014132420609)(hq:0<=q/\q<=4611686014132420609) :
  Calls Tryz.prog 207 #[Yv false (Zu p) (Zl p),Yv false (Zu q) (Zl q)] w fun e w'=>e=.returned (.int .i64 (JJ p q))/\Ext w w':=by
 have B1:Blk ((w.alloc (.cells (ZP false (Zu p) (Zl p)) 261)).alloc (.cells (ZP false (Zu q) (Zl q)) 261)) w.heap.size 261 (ZP false (Zu p) (Zl p)):=.alloc (.new rfl) _;have B2:Blk ((w.alloc (.cells (ZP false (Zu p) (Zl p)) 261)).alloc (.cells (ZP false (Zu q) (Zl q)) 261)) (w.heap.size+1) 261 (ZP false (Zu q) (Zl q)):=.new (by simp);have Y0:Ext w ((w.alloc (.cells (ZP false (Zu p) (Zl p)) 261)).alloc (.cells (ZP false (Zu q) (Zl q)) 261)):=((Ext.rf _).alloc _).alloc _;have ADD:=fun W=>Zhr p q W hp hq
 obtain⟨m,x,y,hd,hcase⟩:=ZeQ p q hp hq;rw[hd] at ADD;obtain⟨wr,hwr⟩:∃ wr,wr=((w.alloc (.cells (ZP false (Zu p) (Zl p)) 261)).alloc (.cells (ZP false (Zu q) (Zl q)) 261)):=⟨_,rfl⟩;have hwl:((w.alloc (.cells #[.bool false,.int .i64 (Zu p),.int .i64 (Zl p),.int .i64 0,.int .i64 0,.int .i64 0,.int .i64 0,.int .i64 0,.int .i64 0,.int .i64 0] 261)).alloc (.cells #[.bool false,.int .i64 (Zu q),.int .i64 (Zl q),.int .i64 0,.int .i64 0,.int .i64 0,.int .i64 0,.int .i64 0,.int .i64 0,.int .i64 0] 261))=wr:=hwr.symm;rw[<-hwr] at B1 B2 Y0;clear hwr hp hq hd;generalize JJ p q=res at *;replace B1:=Hd B1;replace B2:=Hd B2;replace Y0:=Hd Y0;replace ADD:=Hd ADD;replace hwl:=Hd hwl;replace hcase:=Hd hcase;unfold Yv;go_enter Tryz.func207,Tryz.ntmps207;go_wp2_with (fail);rw[hwl.out];refine wp_region_any (by kernel_rfl) ?_
 change wpAny _ _ _ _ _ _ _ (World.drew _)
 refine Yu (n:=1) [(0,some 6),(1,some 7),(2,some 8),(3,some 9),(4,some 5)] (Ext wr)
  (VF (fun | 0=>some (Yv false (Zu p) (Zl p)) | 1=>some (Yv false (Zu q) (Zl q)) | 2=>some (Yv true (Zu q) (Zl q)) | 3=>some (Yv m x y) | _=>none)
   (fun j v W=>j=4->∃ h,v=.pointer (some ⟨h,0,none⟩)/\wr.heap.size<=h/\Blk W h 261 (ZP false 0 0)))
  Ext #[true,true,true,true,true,false] (by kernel_rfl) (VF.stab ?_) ?_ ?_ ((Ext.rf _).drew)
 ·intro j v W W' _ g6 hx h
  obtain⟨h,q1,q2,q3⟩:=g6 h;exact⟨h,q1,q2,q3.ext hx⟩
 ·intro pq hpm u W hRW hD K hK
  have b1:=B1.out.ext hRW;have b2:=B2.out.ext hRW;have z2:=hRW.size;simp only[List.mem_cons,List.not_mem_nil,or_false] at hpm;rcases hpm with rfl | rfl | rfl | rfl | rfl
  ·exact Zy (T:=261) rfl (.pointer (some ⟨w.heap.size,0,none⟩)) (by kernel_rfl) _ (ZdE b1) (hK _ _ (VF.mk rfl) hRW (Ext.rf _))
  ·exact Zy (T:=261) rfl (.pointer (some ⟨w.heap.size+1,0,none⟩)) (by kernel_rfl) _ (ZdE b2) (hK _ _ (VF.mk rfl) hRW (Ext.rf _))
  ·have h1:=(hD 1 (Zq (by kernel_rfl))).k rfl
   refine Ym rfl #[Yv false (Zu q) (Zl q)] (by go_simp) (by simp only[Zn,h1];kernel_rfl) _ (Zij false _ _ W) ?_;rintro e w3 ⟨rfl,x3⟩;exact⟨_,rfl,hK _ _ (VF.mk rfl) (hRW.tr x3) x3⟩
  ·have h0:=(hD 0 (Zq (by kernel_rfl))).k rfl
   have h2:=(hD 2 (Zq (by kernel_rfl))).k rfl;refine Ym rfl #[Yv false (Zu p) (Zl p),Yv true (Zu q) (Zl q)] (by go_simp) (by simp only[Zn,h0,h2];kernel_rfl) _ (ADD.out W) ?_;rintro e w3 ⟨rfl,x3⟩;exact⟨_,rfl,hK _ _ (VF.mk rfl) (hRW.tr x3) x3⟩
  ·refine Wi rfl (.pointer (some ⟨W.heap.size,0,none⟩)) (w':=W.alloc (.cells (ZP false 0 0) 261)) ?_ (hK _ _ (VF.mg rfl fun _=>⟨_,rfl,z2,.new rfl⟩) (hRW.alloc _) ((Ext.rf _).alloc _))
   unfold Ze ZP;go_simp
 ·intro u w3 hRW hV
  have h0:=(hV (0,some 6) (by simp)).k rfl;have h1:=(hV (1,some 7) (by simp)).k rfl;have h2:=(hV (2,some 8) (by simp)).k rfl;have h3:=(hV (3,some 9) (by simp)).k rfl;obtain⟨gh,h4,hgh,b3⟩:=(hV (4,some 5) (by simp)).g rfl rfl;simp only[Zn,h0,h1,h2,h3,h4];clear hV h0 h1 h2 h3 h4;have b4:Blk (Zah w3 gh m x y) gh 261 (ZP m x y):=Ja b3;have Y4:=Hd (Jb (m:=m) (lo:=x) (hi:=y) (g:=gh) (Ext.tr Y0.out hRW) (Nat.le_trans Y0.out.size hgh))
  try simp only[lay]
  refine Zm 5 (by kernel_rfl) (Wk rfl (.pointer (some ⟨gh,0,none⟩)) (Yv m x y) (by kernel_rfl) (by kernel_rfl) (Qk b3) ?_);refine wpAny_done (by kernel_rfl) ?_ _;clear b3 hRW;generalize Zah w3 gh m x y=w5 at *;have c0:=b4.c0;have c1:=b4.c1;have c2:=b4.c2;have c3:=b4.c3;have c4:=b4.c4;have c5:=b4.c5;have c6:=b4.c6;have c7:=b4.c7;have c8:=b4.c8;have c9:=b4.c9;clear b4;obtain⟨bz,hbz⟩:∃ bz,Hid (((x==0)&&(y==0))=bz):=⟨_,rfl⟩;have hq:∀ u:World,(binOp .eql 259 (.agg #[.int .i64 x,.int .i64 y,.int .i64 0,.int .i64 0,.int .i64 0,.int .i64 0,.int .i64 0,.int .i64 0,.int .i64 0]) (.agg #[.int .i64 0,.int .i64 0,.int .i64 0,.int .i64 0,.int .i64 0,.int .i64 0,.int .i64 0,.int .i64 0,.int .i64 0])).run Tryz.prog u=.ok (.bool bz) u:=fun u=>by rw[ZiY,hbz.out]
  rcases hcase.out with⟨e1,e2,e3⟩ | ⟨e1,e2,e3⟩ | ⟨e1,e2,e3⟩
  ·obtain rfl:bz=true:=by rw[<-hbz.out,e2,e3];rfl
   have e1:=Hd e1;clear e2 e3;go_simp;go_wp2_with (fail);go_ret;exact⟨ZM e1.out.symm,Y4.out⟩
  ·obtain rfl:bz=false:=by rw[<-hbz.out,Bool.eq_false_iff];simp;omega
   have e1:=Hd e1;subst e2;clear e3;go_simp;go_wp2_with (fail);go_ret;exact⟨rfl,Y4.out⟩
  ·obtain rfl:bz=false:=by rw[<-hbz.out,Bool.eq_false_iff];simp;omega
   have e1:=Hd e1;subst e2;clear e3;go_simp;go_wp2_with (fail);go_ret;exact⟨rfl,Y4.out⟩
theorem ZeR (A B:Option Addr)(c d:Nat)(vs ws:List Int)(a b:Nat)(w:World)(hv:RdI w A vs)(hw:RdI w B ws)(sv:Small31 vs)(sw:Small31 ws)(ha:a<vs.length)(hb:b<vs.length)(ha':a<ws.length)(hb':b<ws.length)(lv:vs.length<=1000000)(lw:ws.length<=1000000) :
  Calls Tryz.prog 195 #[.slice A vs.length c,.slice B ws.length d,.int .i64 a,.int .i64 b] w fun e w'=>e=.returned (.bool (WM vs ws a b))/\Ext w w':=by
 obtain⟨g1,o1,va,rfl,z1,c1,e1,_⟩:=hv.at ha;obtain⟨g1',o1',vb,h1',z1',c2,e2,_⟩:=hv.at hb;obtain⟨rfl,rfl⟩:g1=g1'/\o1=o1':=by injection h1' with h;injection h with h3 h4;exact⟨h3,h4⟩
 obtain⟨g2,o2,wa,rfl,z2,c3,e3,_⟩:=hw.at ha';obtain⟨g2',o2',wb,h2',z2',c4,e4,_⟩:=hw.at hb';obtain⟨rfl,rfl⟩:g2=g2'/\o2=o2':=by injection h2' with h;injection h with h3 h4;exact⟨h3,h4⟩
 have bva:=sv.get e1.out;have bvb:=sv.get e2.out;have bwa:=sw.get e3.out;have bwb:=sw.get e4.out;obtain⟨res,hres⟩:∃ res,Hid (res=WM vs ws a b):=⟨_,rfl⟩;rw[<-hres.out];have HA:Hid (res=if wa=0\/wb=0 then decide (wa=0)&&(decide (wb≠0) || decide (a<b)) else decide (vb*wa<va*wb) || (decide (va*wb=vb*wa)&&decide (a<b))):=Hd (by
  rw[hres.out];unfold WM;rw[getD_some e1.out,getD_some e2.out,getD_some e3.out,getD_some e4.out])
 clear h1' h2' hv hw sv sw e1 e2 e3 e4 hres
 by_cases hwa:wa=0
 ·subst hwa
  by_cases hwb:wb=0
  ·subst hwb
   have HR:Hid (res=decide (a<b)):=by
    have h:=HA.out;rw[if_pos (by simp)] at h;exact(by simpa using h:res=decide (a<b))
   clear HA;go_enter Tryz.func195,Tryz.ntmps195;go_wp2
   all_goals go_ret
   all_goals exact⟨Wh HR.out.symm,Ext.rf _⟩
  ·have hwb':(wb != 0)=true:=by simpa using hwb
   have HR:Hid (res=true):=by
    have h:=HA.out;rw[if_pos (by simp)] at h;exact(by simpa [hwb] using h:res=true)
   clear HA hwb;go_enter Tryz.func195,Tryz.ntmps195;go_wp2
   all_goals go_ret
   all_goals exact⟨Wh HR.out.symm,Ext.rf _⟩
 ·have hwa':(wa==0)=false:=by simpa using hwa
  by_cases hwb:wb=0
  ·subst hwb
   have HR:Hid (res=false):=by
    have h:=HA.out;rw[if_pos (by simp)] at h;exact(by simpa [hwa] using h:res=false)
   clear HA hwa;go_enter Tryz.func195,Tryz.ntmps195;go_wp2
   all_goals go_ret
   all_goals exact⟨Wh HR.out.symm,Ext.rf _⟩
  ·have hwb':(wb==0)=false:=by simpa using hwb
   have HR0:Hid (res=(decide (vb*wa<va*wb) || (decide (va*wb=vb*wa)&&decide (a<b)))):=by
    have h:=HA.out;rw[if_neg (by simp[hwa,hwb])] at h;exact h
   obtain⟨p,hp⟩:∃ p,Hid (p=va*wb):=⟨_,rfl⟩;obtain⟨q,hq⟩:∃ q,Hid (q=vb*wa):=⟨_,rfl⟩;have bp:0<=p/\p<=4611686014132420609:=by rw[hp.out];exact Un bva.1 bva.2 bwb.1 bwb.2
   have bq:0<=q/\q<=4611686014132420609:=by rw[hq.out];exact Un bvb.1 bvb.2 bwa.1 bwa.2
   rw[<-hp.out,<-hq.out] at HR0;have hR:res=(decide (0<JJ p q) || ((JJ p q==0)&&decide (a<b))):=by
    have h:=HR0.out;unfold JJ
    by_cases h1:p=q
    ·have h2:¬q<p:=by omega
     simp[h1,h]
    ·by_cases h2:p<q
     ·have h3:¬q<p:=by omega
      simp[h1,h2,h3,h]
     ·have h3:q<p:=by omega
      simp[h1,h2,h3,h]
   have HR:=Hd hR;clear hR;have CM:=Hd (fun W=>Zhs p q W bp bq);have bc:-1<=JJ p q/\JJ p q<=1:=by unfold JJ;split<;>(try split)<;>omega
   have M1:=Hd (fun W=>ZfA va wb p W bva bwb hp.out);have M2:=Hd (fun W=>ZfA vb wa q W bvb bwa hq.out);generalize JJ p q=cc at *;clear HA hwa hwb HR0 bp bq;go_enter Tryz.func195,Tryz.ntmps195;go_wp2_with (fail);go_region_held3 (fun w'=>w'.cell? ⟨g1,o1+a,none⟩=some (.int .i64 va)/\w'.cell? ⟨g1,o1+b,none⟩=some (.int .i64 vb)/\w'.cell? ⟨g2,o2+a,none⟩=some (.int .i64 wa)/\w'.cell? ⟨g2,o2+b,none⟩=some (.int .i64 wb)) (go_keep)
    (first
    | (go_at_call_of 209 (Value.int .i64 va);refine(Zam va _ bva.1 bva.2).mono ?_;rintro e w2 ⟨rfl,x2⟩;have y:=Ext.tr (a:=w) (by(repeat (first | assumption | exact Ext.rf _ | apply Ext.drew | apply Ext.drewN | apply Ext.alloc))) x2;have s1:=Zc y z1 c1;have s2:=Zc y z1 c2;have s3:=Zc y z2 c3;have s4:=Zc y z2 c4)
    | (go_at_call_of 209 (Value.int .i64 wb);refine(Zam wb _ bwb.1 bwb.2).mono ?_;rintro e w3 ⟨rfl,x3⟩;have y:=Ext.tr (a:=w) (by(repeat (first | assumption | exact Ext.rf _ | apply Ext.drew | apply Ext.drewN | apply Ext.alloc))) x3;have s1:=Zc y z1 c1;have s2:=Zc y z1 c2;have s3:=Zc y z2 c3;have s4:=Zc y z2 c4)
    | (go_at_call_of 209 (Value.int .i64 vb);refine(Zam vb _ bvb.1 bvb.2).mono ?_;rintro e w4 ⟨rfl,x4⟩;have y:=Ext.tr (a:=w) (by(repeat (first | assumption | exact Ext.rf _ | apply Ext.drew | apply Ext.drewN | apply Ext.alloc))) x4;have s1:=Zc y z1 c1;have s2:=Zc y z1 c2;have s3:=Zc y z2 c3;have s4:=Zc y z2 c4)
    | (go_at_call_of 209 (Value.int .i64 wa);refine(Zam wa _ bwa.1 bwa.2).mono ?_;rintro e w5 ⟨rfl,x5⟩;have y:=Ext.tr (a:=w) (by(repeat (first | assumption | exact Ext.rf _ | apply Ext.drew | apply Ext.drewN | apply Ext.alloc))) x5;have s1:=Zc y z1 c1;have s2:=Zc y z1 c2;have s3:=Zc y z2 c3;have s4:=Zc y z2 c4)
    | (go_at_call_of 208 (Yv false va 0);refine(M1.out _).mono ?_;rintro e w6 ⟨rfl,x6⟩;have y:=Ext.tr (a:=w) (by(repeat (first | assumption | exact Ext.rf _ | apply Ext.drew | apply Ext.drewN | apply Ext.alloc))) x6;have s1:=Zc y z1 c1;have s2:=Zc y z1 c2;have s3:=Zc y z2 c3;have s4:=Zc y z2 c4)
    | (go_at_call_of 208 (Yv false vb 0);refine(M2.out _).mono ?_;rintro e w7 ⟨rfl,x7⟩;have y:=Ext.tr (a:=w) (by(repeat (first | assumption | exact Ext.rf _ | apply Ext.drew | apply Ext.drewN | apply Ext.alloc))) x7;have s1:=Zc y z1 c1;have s2:=Zc y z1 c2;have s3:=Zc y z2 c3;have s4:=Zc y z2 c4)
    | (go_at_call 207;refine(CM.out _).mono ?_;rintro e w8 ⟨rfl,x8⟩;have y:=Ext.tr (a:=w) (by(repeat (first | assumption | exact Ext.rf _ | apply Ext.drew | apply Ext.drewN | apply Ext.alloc))) x8;have s1:=Zc y z1 c1;have s2:=Zc y z1 c2;have s3:=Zc y z2 c3;have s4:=Zc y z2 c4))
   obtain rfl | rfl | rfl:cc=-1\/cc=0\/cc=1:=by omega
   ·have HF:Hid (res=false):=HR.out
    go_wp2
    all_goals go_ret
    all_goals exact⟨Wh HF.out.symm,by(repeat (first | assumption | exact Ext.rf _ | apply Ext.drew | apply Ext.drewN | apply Ext.alloc))⟩
   ·have HF:Hid (res=decide (a<b)):=HR.out
    go_wp2
    all_goals go_ret
    all_goals exact⟨Wh HF.out.symm,by(repeat (first | assumption | exact Ext.rf _ | apply Ext.drew | apply Ext.drewN | apply Ext.alloc))⟩
   ·have HF:Hid (res=true):=HR.out
    go_wp2
    all_goals go_ret
    all_goals exact⟨Wh HF.out.symm,by(repeat (first | assumption | exact Ext.rf _ | apply Ext.drew | apply Ext.drewN | apply Ext.alloc))⟩
def ZaU (l:List Nat)(w:World)(e:Ending)(w':World) : Prop:=∃ A c,e=.returned (.tuple #[.slice A l.length c,.int .i64 0])/\OwI w' w.heap.size A c (nl l)/\Ext w w'
theorem ZeS (A B:Option Addr)(a b:Nat)(vs ws:List Int)(w:World)(hA:RdI w A vs)(hB:RdI w B ws)(hl:vs.length=ws.length)(h64:vs.length<=64)(sv:Small31 vs)(sw:Small31 ws) :
  Calls Tryz.prog 175 #[.slice A vs.length a,.slice B ws.length b] w (ZaU (XC vs ws) w):=by
 have hne:((vs.length:Int) != (ws.length:Int))=false:=by simp[hl]
 have h64':(vs.length:Int)<=64:=by omega
 have BT:=fun(i j:Nat) (hi:i<vs.length) (hj:j<vs.length) (W:World) (x:Ext w W)=>ZeR A B a b vs ws i j W (hA.ext x) (hB.ext x) sv sw hi hj (by omega) (by omega) (by omega) (by omega)
 have PR:=ZcW (v:=vs) (w:=ws) (fun x hx=>(sw x hx).1);have RL:=Wx vs ws;have AL:=fun i m=>ZfR vs ws i m
 have PA:Hid (∀ i,i<vs.length->YN vs ws i vs.length<vs.length):=fun i hi=>by
  have hm:=(Qw (v:=vs) (w:=ws) (a:=i)).2 hi;obtain⟨k,hk,he⟩:=List.mem_iff_getElem.1 hm;have:=Jq (v:=vs) (w:=ws) (fun x hx=>(sw x hx).1) (k:=k) (a:=i) (by rw[List.getElem?_eq_getElem hk,he]);rw[Wx] at hk;omega
 replace hl:=Hd hl;replace BT:=Hd BT;replace PR:=Hd PR;replace RL:=Hd RL;replace AL:=Hd AL;go_enter Tryz.func175,Tryz.ntmps175;go_wp2_with (fail);go_loopw [6] (fun i wr=>∃ k:Nat,i=.int .i64 k/\k<=vs.length/\Ext w wr) (fun i _=>vs.length-(intOf i).toNat)
 case atStart=>exact⟨0,rfl,by omega,Ext.rf _⟩
 case round =>
  obtain⟨w1,rfl⟩:∃ w1:World,w1=wr:=⟨_,rfl⟩;obtain⟨k,rfl,hk,Y⟩:=hrel
  by_cases hlt:k<vs.length
  ·obtain⟨g1,o1,x,rfl,_,c1,e1,_⟩:=(hA.ext Y).at hlt
   obtain⟨g2,o2,y,rfl,_,c2,e2,_⟩:=(hB.ext Y).at (k:=k) (by rw[<-hl.out];exact hlt);have b1:=sv.get e1.out;have b2:=sw.get e2.out;have hkw:k<ws.length:=by rw[<-hl.out];exact hlt
   clear e1 e2;go_wp2;go_roundw
   case rel=>exact⟨k+1,by go_num,by omega,Y⟩
   case measure=>simp[intOf];omega
  ·obtain rfl:k=vs.length:=by omega
   clear hlt;have Yo:=Hd Y;go_wp2_with (at_make;refine Xd _ rfl _ _ rfl w.heap.size _ _ vs.length rfl rfl rfl rfl (by omega) Y.size ?_;rintro w3 o3 g3);have X3:=Hd (Y.grownNone g3);have O3:Hid (OwI w3 w.heap.size (some ⟨w1.heap.size,0,none⟩) vs.length (VP (fun i=>YN vs ws i vs.length) vs.length 0)):=o3;have zr:=Y.size;clear o3 g3;go_loopw [8] (fun i wq=>∃ m:Nat,i=.int .i64 m/\m<=vs.length/\Hid (OwI wq w.heap.size (some ⟨w1.heap.size,0,none⟩) vs.length (VP (fun i=>YN vs ws i vs.length) vs.length m))/\Ext w wq) (fun i _=>vs.length-(intOf i).toNat)
   case atStart=>exact⟨0,rfl,by omega,O3,X3.out⟩
   case round =>
    obtain⟨wo,rfl⟩:∃ wo:World,wo=wr:=⟨_,rfl⟩;obtain⟨m,rfl,hm,HO,Z⟩:=hrel
    by_cases hlm:m<vs.length
    ·go_wp2_with (fail)
     go_loopw [9,10] (fun n i wq=>∃ (j c:Nat),i=.int .i64 j/\n=.int .i64 c/\j<=vs.length/\c<=j/\Hid (c=YN vs ws m j)/\Ext wo wq) (fun _ i _=>vs.length-(intOf i).toNat)
     case atStart=>exact⟨0,0,rfl,rfl,by omega,by omega,by exact rfl,Ext.rf _⟩
     case round =>
      obtain⟨j,c,rfl,rfl,hj,hcj,HC,V⟩:=hrel;have HN:Hid (YN vs ws m (j+1)=c+if (decide (j≠m)&&WM vs ws j m)=true then 1 else 0):=by
       have h:=ZcV vs ws m j;rw[<-HC.out] at h;exact h
      by_cases hlj:j<vs.length
      ·by_cases hjm:j=m
       ·subst hjm
        have HN2:Hid (c=YN vs ws j (j+1)):=by
         have h:=HN.out;simp at h;exact h.symm
        go_wp2_with (fail);go_roundw
        case rel=>exact⟨j+1,c,by go_num,rfl,by omega,by omega,HN2,V⟩
        case measure=>simp[intOf];omega
       ·have hb:((j:Int) != (m:Int))=true:=by rw[bne_iff_ne];omega
        have K:=BT.out j m hlj hlm _ (Z.tr V)
        cases hq:WM vs ws j m with
        | true =>
         rw[hq] at K;have HN2:Hid (c+1=YN vs ws m (j+1)):=by
          have h:=HN.out;rw[hq] at h;simp[hjm] at h;exact h.symm
         clear hq hjm;go_wp2_with (fail);refine K.mono ?_;rintro e w5 ⟨rfl,x5⟩;go_wp2;go_roundw
         case rel=>exact⟨j+1,c+1,by go_num,by go_num,by omega,by omega,HN2,V.tr x5⟩
         case measure=>simp[intOf];omega
        | false =>
         rw[hq] at K;have HN2:Hid (c=YN vs ws m (j+1)):=by
          have h:=HN.out;rw[hq] at h;simp at h;exact h.symm
         clear hq hjm;go_wp2_with (fail);refine K.mono ?_;rintro e w5 ⟨rfl,x5⟩;go_wp2;go_roundw
         case rel=>exact⟨j+1,c,by go_num,rfl,by omega,by omega,HN2,V.tr x5⟩
         case measure=>simp[intOf];omega
      ·obtain rfl:j=vs.length:=by omega
       have hc:c<vs.length:=by rw[HC.out];exact PA.out m hlm
       have HO2:=HO.out.ext V;obtain⟨x,hcx,hfx,hbx,_,hset⟩:=HO2.cell (k:=c) (by rw[Uh];exact hc);have HN2:Hid (OwI (wr.setCell ⟨w1.heap.size,c,none⟩ (.int .i64 m)) w.heap.size (some ⟨w1.heap.size,0,none⟩) vs.length (VP (fun i=>YN vs ws i vs.length) vs.length (m+1))):=by
        have h:=hset.out m;rw[HC.out] at h ⊢;exact h
       have ZN:=Hd ((Z.tr V).setNew (p:=⟨w1.heap.size,c,none⟩) zr (.int .i64 m));clear hset HO2 HN;go_wp2;go_roundw
       case rel=>exact⟨m+1,by go_num,by omega,HN2,ZN.out⟩
       case measure=>simp[intOf];omega
    ·obtain rfl:m=vs.length:=by omega
     have HF:Hid (OwI wo w.heap.size (some ⟨w1.heap.size,0,none⟩) vs.length (nl (XC vs ws))):=by
      have h:=HO.out;rw[PR.out] at h;exact h
     clear hlm HO;go_wp2;go_ret2;exact⟨_,_,by rw[RL.out];rfl,HF.out,Z⟩
def ZS (i:InstP) : List Nat:=XC i.value i.weight
def wsP (i:InstP) : List Int:=Zx (ZS i) i.weight
def vsP (i:InstP) : List Int:=Zx (ZS i) i.value
theorem WG {i:InstP}(ok:KnapOk i) : ((ZS i).length:Int)=i.n:=by unfold ZS;rw[Wx];exact ok.v
theorem Xb {l:List Nat}{v:List Int}(h:Small31 v) : Small31 (Zx l v):=by
 intro x hx;obtain⟨q,hq,rfl⟩:=List.mem_map.1 hx
 cases hv:v[q]? with
 | none=>simp[List.getD,hv]
 | some y=>rw[getD_some hv];exact h.get hv
theorem kok {i:InstP}(ok:KnapOk i) : KOk i.cap (ZS i) (wsP i) (vsP i) (Zhi (vsP i) 0) :=
 ⟨ok.cap,by have:=WG ok;have:=ok.n2;omega,Yb _ _,Yb _ _,by rw[Zf6];unfold vsP;rw[Yb],Xb ok.sw,Xb ok.sv⟩
def Zik (l:List Nat)(st:Option (Int×Int))(w:World)(e:Ending)(w':World) : Prop:=Ext w w'/\match st with
 | none=>e=.returned (.tuple #[.slice none 0 0,.int .i64 0,.int .i64 0,.bool false])
 | some (r,o)=>∃ A c,e=.returned (.tuple #[.slice A l.length c,.int .i64 r,.int .i64 o,.bool true])/\RdI w' A (nl l)
theorem ZaV (i:InstP)(us:List Value)(P:Option Addr)(c:Nat)(p:List Int)(w:World)(H:RInst w us i)(ok:KnapOk i)(hP:RdI w P p)(lp:p.length<=1000000000) :
  Calls Tryz.prog 150 #[.agg (List.toArray us),.slice P p.length c] w (Zik (ZS i) (stP i.cap 0 (wsP i) (vsP i) p) w):=by
 have K:=kok ok;have lN:=WG ok;have RA:=fun(A B:Option Addr) (a b:Nat) (W:World) (hA:RdI W A i.value) (hB:RdI W B i.weight)=>ZeS A B a b i.value i.weight W hA hB (by have:=ok.w;have:=ok.v;omega) (by have:=ok.v;have:=ok.n2;omega) ok.sv ok.sw
 have LM:∀ k q,(ZS i)[k]?=some q->q<i.weight.length/\q<i.value.length:=fun k q h=>by
  have h1:=Qc h;have:=ok.w;have:=ok.v;omega
 have EW:∀ k q x,(ZS i)[k]?=some q->i.weight[q]?=some x->(wsP i)[k]?=some x:=fun k q x h1 h2=>WZ h1 h2
 have EV:∀ k q x,(ZS i)[k]?=some q->i.value[q]?=some x->(vsP i)[k]?=some x:=fun k q x h1 h2=>WZ h1 h2
 change ∀ (A B:Option Addr) (a b:Nat) (W:World),RdI W A i.value->RdI W B i.weight->Calls Tryz.prog _ _ W (ZaU (ZS i) W) at RA
 have K1:=K.cap;have K2:=K.l64;have K3:=K.lw;have K4:=K.lv;have K5:=K.sw;have K6:=K.sv;generalize ZS i=l at *;generalize wsP i=ws at *;generalize vsP i=vs at *;clear K ok;obtain⟨kind,nn,cap,xw,xv,co⟩:=i;obtain⟨A,a,B,b,D,d,rfl,⟨rA,iA,lA,mA⟩,⟨rB,iB,lB,mB⟩,-⟩:=H;simp only at *;obtain⟨n,rfl⟩:∃ n:Nat,nn=(n:Int):=⟨nn.toNat,by omega⟩;have hn:l.length=n:=by omega
 clear lN;obtain⟨kc1,kc2⟩:=K1;replace RA:=Hd RA;replace LM:=Hd LM;replace EW:=Hd EW;replace EV:=Hd EV;replace K3:=Hd K3;replace K4:=Hd K4;replace K5:=Hd K5;replace K6:=Hd K6;replace rA:=Hd rA;replace rB:=Hd rB;replace iA:=Hd iA;replace iB:=Hd iB;replace mA:=Hd mA;replace mB:=Hd mB;have hn2:n<=64:=by omega
 replace hn:=Hd hn;have B1:Hid (Blk (w.alloc (.cells #[.int .i64 kind,.int .i64 n,.int .i64 cap,.slice A xw.length a,.slice B xv.length b,.slice D co.length d] 25)) w.heap.size 25 #[.int .i64 kind,.int .i64 n,.int .i64 cap,.slice A xw.length a,.slice B xv.length b,.slice D co.length d]):=.new rfl;obtain⟨st,hst⟩:∃ st,Hid (stP cap 0 ws vs p=st):=⟨_,rfl⟩;rw[hst.out];go_enter Tryz.func150,Tryz.ntmps150;go_wp2_with (fail);refine(RA.out B A b a _ (rB.out.ext ((Ext.rf _).alloc _)) (rA.out.ext ((Ext.rf _).alloc _))).mono ?_;rintro e w2 ⟨LA,lc,rfl,oL,x2⟩;have X2:=Hd (Ext.tr (a:=w) (by(repeat (first | assumption | exact Ext.rf _ | apply Ext.drew | apply Ext.drewN | apply Ext.alloc))) x2);have B2:=Hd (B1.out.ext x2);have rL:=Hd oL.read;have d1:=B2.out.c1;have d2:=B2.out.c2;have d3:=B2.out.c3;have d4:=B2.out.c4;have zb:=B2.out.lt;clear x2 oL
 by_cases hlen:n<p.length
 ·have HN:Hid (st=none):=by
   have h:=hst.out;rw[QT (by rw[K3.out,hn.out];exact hlen)] at h;exact h.symm
  go_wp2_with (fail);refine bodyPost_ret (v:=.tuple #[.slice none 0 0,.int .i64 0,.int .i64 0,.bool false]) (by simp[results,Tryz.results150,go_sem]) rfl ?_;rw[HN.out];exact⟨X2.out,rfl⟩
 ·have hlb:decide (n<p.length)=false:=by simpa using hlen
  go_wp2_with (fail);go_loopw [10,11,12] (fun r o i wr=>∃ (k:Nat) (room out:Int),i=.int .i64 k/\r=.int .i64 room/\o=.int .i64 out/\k<=p.length/\0<=room/\room<=2147483647/\0<=out/\out<=2147483647*(k:Int)/\Hid (st=stP room out (ws.drop k) (vs.drop k) (p.drop k))/\Ext w2 wr) (fun _ _ i _=>p.length-(intOf i).toNat)
  case atStart=>exact⟨0,cap,0,rfl,rfl,rfl,by omega,kc1,kc2,by omega,by omega,hst.out.symm,Ext.rf _⟩
  case round =>
   obtain⟨wo,rfl⟩:∃ wo:World,wo=wr:=⟨_,rfl⟩;obtain⟨k,room,out,rfl,rfl,rfl,hk,b1,b2,b3,b4,HS,Y⟩:=hrel
   by_cases hlt:k<p.length
   ·obtain⟨pb,po,x,rfl,_,cx,ex,dx⟩:=(hP.ext (X2.out.tr Y)).at hlt
    have hkl:k<l.length:=by rw[hn.out];omega
    obtain⟨q,hq0⟩:∃ q,Hid (l[k]?=some q):=⟨l[k],List.getElem?_eq_getElem hkl⟩;obtain⟨qb,qo,qi,rfl,zq,cq,eq,_⟩:=(rL.out.ext Y).at (k:=k) (by rw[Zcu];exact hkl);obtain rfl:qi=(q:Int):=by
     have h1:=Zcv hq0.out;rw[eq.out] at h1;exact Option.some.inj h1
    obtain⟨hqw,hqv⟩:=LM.out k q hq0.out;obtain⟨wb,wo',u,rfl,zu,cu,eu,_⟩:=(rA.out.ext (X2.out.tr Y)).at hqw;obtain⟨vb,vo',v,rfl,zv,cv,ev,_⟩:=(rB.out.ext (X2.out.tr Y)).at hqv;have du:Hid (ws.drop k=u::ws.drop (k+1)):=by
     obtain⟨h1,h2⟩:=List.getElem?_eq_some_iff.1 (EW.out k q u hq0.out eu.out);exact(by rw[List.drop_eq_getElem_cons h1,h2]:ws.drop k=u::ws.drop (k+1))
    have dv:Hid (vs.drop k=v::vs.drop (k+1)):=by
     obtain⟨h1,h2⟩:=List.getElem?_eq_some_iff.1 (EV.out k q v hq0.out ev.out);exact(by rw[List.drop_eq_getElem_cons h1,h2]:vs.drop k=v::vs.drop (k+1))
    have bu:=K5.out.get (EW.out k q u hq0.out eu.out);have bv:=K6.out.get (EV.out k q v hq0.out ev.out);have e3:=Zc Y zb d3;have e4:=Zc Y zb d4;have HT:Hid (st=if x=1 then(if room-u<0 then none else stP (room-u) out (ws.drop (k+1)) (vs.drop (k+1)) (p.drop (k+1))) else if x=0 then(if room<0 then none else stP room (out+v) (ws.drop (k+1)) (vs.drop (k+1)) (p.drop (k+1))) else none):=by
     have h:=HS.out;rw[dx.out,du.out,dv.out] at h;exact h
    have wr1:Hid (IntKind.i64.wrap (room-u)=room-u):=IntWalk.i64_in _ (by omega);have wr2:Hid (IntKind.i64.wrap (out+v)=out+v):=IntWalk.i64_in _ (by omega);clear HS ex eu ev dx du dv eq;have qi1:(q:Int)<(xw.length:Int):=by omega
    have qi2:(q:Int)<(xv.length:Int):=by omega
    have qi3:(k:Int)<(l.length:Int):=by omega
    by_cases x1:x=1
    ·subst x1
     have wr1':=wr1.out
     by_cases hneg:room-u<0
     ·have HN:Hid (st=none):=by
       have h:=HT.out;rw[if_pos rfl,if_pos hneg] at h;exact h
      go_wp2_with (go_quiet (fail))
      all_goals (refine bodyPost_ret (v:=.tuple #[.slice none 0 0,.int .i64 0,.int .i64 0,.bool false]) (by simp[results,Tryz.results150,go_sem]) rfl ?_)
      all_goals rw[HN.out]
      all_goals exact⟨Ext.tr X2.out (by repeat (first | exact Y | apply Ext.drewN)),rfl⟩
     ·have HN:Hid (st=stP (room-u) out (ws.drop (k+1)) (vs.drop (k+1)) (p.drop (k+1))):=by
       have h:=HT.out;rw[if_pos rfl,if_neg hneg] at h;exact h
      go_wp2_with (go_quiet (fail));go_roundw
      case rel=>exact⟨k+1,room-u,out,by go_num,rfl,rfl,by omega,by omega,by omega,by omega,by omega,HN,by repeat (first | exact Y | apply Ext.drewN)⟩
      case measure=>simp[intOf];omega
    ·have x1':(x==1)=false:=by simpa using x1
     have x1n:(x != 1)=true:=by simpa using x1
     by_cases x0:x=0
     ·subst x0
      have wr2':=wr2.out;have HN:Hid (st=stP room (out+v) (ws.drop (k+1)) (vs.drop (k+1)) (p.drop (k+1))):=by
       have h:=HT.out;rw[if_neg x1,if_pos rfl,if_neg (by omega)] at h;exact h
      clear x1;go_wp2_with (go_quiet (fail));go_roundw
      case rel=>exact⟨k+1,room,out+v,by go_num,rfl,rfl,by omega,by omega,by omega,by omega,by omega,HN,by repeat (first | exact Y | apply Ext.drewN)⟩
      case measure=>simp[intOf];omega
     ·have x0n:(x != 0)=true:=by simpa using x0
      have HN:Hid (st=none):=by
       have h:=HT.out;rw[if_neg x1,if_neg x0] at h;exact h
      clear x1 x0;go_wp2_with (go_quiet (fail))
      all_goals (refine bodyPost_ret (v:=.tuple #[.slice none 0 0,.int .i64 0,.int .i64 0,.bool false]) (by simp[results,Tryz.results150,go_sem]) rfl ?_)
      all_goals rw[HN.out]
      all_goals exact⟨Ext.tr X2.out (by repeat (first | exact Y | apply Ext.drewN)),rfl⟩
   ·have HN:Hid (st=some (room,out)):=by
     have h:=HS.out;rw[List.drop_of_length_le (l:=p) (i:=k) (by omega)] at h;have h2:stP room out (ws.drop k) (vs.drop k) []=some (room,out):=by cases ws.drop k<;>cases vs.drop k<;>rfl
     rw[h2] at h;exact h
    clear HS;go_wp2_with (fail);refine bodyPost_ret (v:=.tuple #[.slice LA l.length lc,.int .i64 room,.int .i64 out,.bool true]) (by simp[results,Tryz.results150,go_sem]) rfl ?_;rw[HN.out];exact⟨Ext.tr X2.out Y,LA,lc,rfl,rL.out.ext Y⟩
theorem KrnOk.perm {D:Nat}{kids kids':List Int->List Int}{bound:List Int->Int}{okp:List Int->Prop}{bx:List Int->Int}(h:KrnOk D kids bound okp bx)(hk:∀ p,okp p->p.length<D->∀ n,n∈kids p↔n∈kids' p) : KrnOk D kids' bound okp bx where
 len:=h.len
 kid:=fun p ho hl n hn=>h.kid p ho hl n ((hk p ho hl n).2 hn)
 leaf:=h.leaf
 low:=h.low
 node:=fun p ho hl=>JH (hk p ho hl) (h.node p ho hl)
def Zi (i:InstP) : Nat:=if i.kind=3 then i.n.toNat-1 else i.n.toNat
def U1 (cap:Int)(ws p:List Int) : List Int:=match ws.drop p.length with
 | []=>[]
 | w::_=>if w<=Zdz cap ws p then [0,1] else [0]
def Ws (a n:Nat)(p:List Int) : List Int:=Zd ((List.range n).filter fun c=>decide (a<=c) && !p.contains (c:Int))
def Zo (i:InstP)(p:List Int) : List Int:=if i.kind=1 then U1 i.cap (wsP i) p else Ws (if i.kind=2 then 0 else 1) i.cost.length p
def Zk (i:InstP)(p:List Int) : Int:=if i.kind=1 then(YO i.cap (wsP i) (vsP i) p).1 else if i.kind=2 then(Yz i.cost p).1 else(YD i.cost (WX i.cost) p).1
def okI (i:InstP)(p:List Int) : Prop:=if i.kind=1 then ∃ q,stP i.cap 0 (wsP i) (vsP i) p=some q else if i.kind=2 then ∃ m,Z1 i.cost.length p=some m else ∃ s,Z5 i.cost p=some s
def bxI (i:InstP)(p:List Int) : Int:=if i.kind=1 then W6 i.cap (wsP i) (vsP i) p else if i.kind=2 then Xk i.cost i.cost.length (i.cost.length-p.length) p else YS i.cost (i.cost.length-1-p.length) p
theorem Qo {l:List Nat}{c:Nat} : (Zd l).contains (c:Int)=true↔c∈l:=by
 rw[List.contains_iff_mem];unfold Zd;rw[List.mem_map]
 constructor
 ·rintro ⟨d,hd,e⟩
  have:d=c:=by omega
  exact this ▸ hd
 ·exact fun h=>⟨c,h,rfl⟩
theorem ZbS {n:Nat}{p:List Int}{l:List Nat}{m a:Nat}(hp:p=Zd l)(hm:∀ x,x∈Zf m↔(x<n/\a<=x)/\x∉l) : Ws a n p=Zd (Zf m):=by
 unfold Ws
 congr 1
 refine List.Perm.eq_of_pairwise (le:=(· < ·)) (fun a b _ _ h1 h2=>by omega) (List.Pairwise.filter _ List.pairwise_lt_range) (Zw m) ?_;refine(List.perm_ext_iff_of_nodup ((List.Pairwise.filter _ List.pairwise_lt_range).imp fun h=>Nat.ne_of_lt h) ((Zw m).imp fun h=>Nat.ne_of_lt h)).2 fun c=>?_
 rw[hm c,List.mem_filter,List.mem_range,Bool.and_eq_true,decide_eq_true_eq,Bool.not_eq_true',hp];have:=Qo (l:=l) (c:=c)
 constructor
 ·rintro ⟨h1,h2,h3⟩
  exact⟨⟨h1,h2⟩,fun h=>by rw[this.2 h] at h3;cases h3⟩
 ·rintro ⟨⟨h1,h2⟩,h3⟩
  refine⟨h1,h2,?_⟩
  cases h4:(Zd l).contains (c:Int) with
  | false=>rfl
  | true=>exact absurd (this.1 h4) h3
theorem Uq {n:Nat}(h24:n<=24){p:List Int}{m:Nat}(h:Z1 n p=some m) : Ws 0 n p=Zd (Zf m):=by
 obtain⟨l,e1,_,_,e4⟩:=Uk h24 h;exact ZbS e1 fun x=>by rw[e4 x];simp
theorem Jc {rows:List (List Int)}(h1:1<=rows.length)(h24:rows.length<=24){p:List Int}{m last:Nat}{cost:Int}(h:Z5 rows p=some (m,last,cost)) : Ws 1 rows.length p=Zd (Zf m):=by
 obtain⟨l,W⟩:=YK h1 h24 h;exact ZbS W.eq fun x=>by
  rw[W.rest x]
  constructor
  ·rintro ⟨⟨h1,h2⟩,h3⟩;exact⟨⟨h1,by omega⟩,h3⟩
  ·rintro ⟨⟨h1,h2⟩,h3⟩;exact⟨⟨h1,by omega⟩,h3⟩
theorem Zil {cap:Int}{ws vs p:List Int}{r o:Int}(h:stP cap 0 ws vs p=some (r,o))(n:Int) : n∈(VJ cap ws vs p).1↔n∈U1 cap ws p:=by
 have e:=(W5 h).1;unfold VJ U1;rw[h,e];simp only
 cases ws.drop p.length with
 | nil=>simp
 | cons w t =>
  simp only;split<;>simp[or_comm]
theorem Ur {i:InstP}(ok:KnapOk i) : (wsP i).length=(vsP i).length/\((wsP i).length:Int)=i.n/\(∀ x∈wsP i,0<=x)/\(∀ x∈vsP i,0<=x/\x<=2147483647)/\Falls (wsP i) (vsP i):=by
 have sw:=ok.sw;have sv:=ok.sv;have hw:∀ x∈i.weight,0<=x:=fun x hx=>(sw x hx).1
 have hv:∀ x∈i.value,0<=x:=fun x hx=>(sv x hx).1
 have l1:(wsP i).length=(ZS i).length:=Yb _ _;have l2:(vsP i).length=(ZS i).length:=Yb _ _;have lo:=WG ok;refine⟨by omega,by omega,fun x hx=>(Xb sw x hx).1,fun x hx=>Xb sv x hx,?_⟩;exact ZcZ hv hw (VO hw)
theorem Zcx {rows:List (List Int)}(ok:RowsOk rows)(a b:Nat)(ha:a<rows.length)(hb:b<rows.length) : 0<=Za rows a b/\Za rows a b<=2147483647:=by
 unfold Za;have e:rows.getD a []=rows[a]:=by simp[List.getD,List.getElem?_eq_getElem ha]
 rw[e];exact ok.get (List.getElem_mem ha) hb
theorem Ql {i:InstP}(hc:Zh i=0) : okI i []:=by
 unfold okI;rcases ZU hc with h | h | h
 ·rw[if_pos h]
  exact⟨(i.cap,0),by cases wsP i<;>cases vsP i<;>rfl⟩
 ·rw[if_neg (by omega),if_pos h]
  exact⟨_,XT⟩
 ·rw[if_neg (by omega),if_neg (by omega)]
  exact⟨_,YX⟩
theorem Wt {i:InstP}(hc:Zh i=0) : KrnOk (Zi i) (Zo i) (Zk i) (okI i) (bxI i):=by
 rcases ZU hc with h | h | h
 ·have ok:=ZR hc h
  obtain⟨f1,f2,f3,f4,f5⟩:=Ur ok;have K:=(Zhk ok.cap.1 f3 f4 f1 f5).perm (kids':=U1 i.cap (wsP i)) fun p ⟨⟨r,o⟩,hp⟩ _ n=>Zil hp n
  have hd:Zi i=(wsP i).length:=by unfold Zi;rw[if_neg (by omega)];omega
  have e1:Zo i=U1 i.cap (wsP i):=by funext p;unfold Zo;rw[if_pos h]
  have e2:Zk i=fun p=>(YO i.cap (wsP i) (vsP i) p).1:=by funext p;unfold Zk;rw[if_pos h]
  have e3:okI i=fun p=>∃ q,stP i.cap 0 (wsP i) (vsP i) p=some q:=by funext p;unfold okI;rw[if_pos h]
  have e4:bxI i=W6 i.cap (wsP i) (vsP i):=by funext p;unfold bxI;rw[if_pos h]
  rw[hd,e1,e2,e3,e4];exact K
 ·have sq:=Zp hc (by omega)
  have rok:=ZF sq;have K:=(ZeM rok).perm (kids':=Ws 0 i.cost.length) fun p ⟨m,hp⟩ _ n=>by
   obtain⟨l,e1,e2,_⟩:=Q3 hp;rw[e1,Uq rok.n2 hp];unfold Zd;rw[List.mem_map,List.mem_map];exact⟨fun⟨c,hc,e⟩=>⟨c,e2.mem_iff.1 hc,e⟩,fun⟨c,hc,e⟩=>⟨c,e2.mem_iff.2 hc,e⟩⟩
  have hd:Zi i=i.cost.length:=by unfold Zi;rw[if_neg (by omega)];have:=sq.len;omega
  have e1:Zo i=Ws 0 i.cost.length:=by funext p;unfold Zo;rw[if_neg (by omega),if_pos h]
  have e2:Zk i=fun p=>(Yz i.cost p).1:=by funext p;unfold Zk;rw[if_neg (by omega),if_pos h]
  have e3:okI i=fun p=>∃ m,Z1 i.cost.length p=some m:=by funext p;unfold okI;rw[if_neg (by omega),if_pos h]
  have e4:bxI i=fun p=>Xk i.cost i.cost.length (i.cost.length-p.length) p:=by funext p;unfold bxI;rw[if_neg (by omega),if_pos h]
  rw[hd,e1,e2,e3,e4];exact K
 ·have sq:=Zp hc (by omega)
  have rok:=ZF sq;have K:=(Zhl (mi:=WX i.cost) rok (Zcx rok) (fun h=>Zhf h)).perm (kids':=Ws 1 i.cost.length) fun p ⟨⟨m,last,cost⟩,hp⟩ _ n=>by
   obtain⟨l,e1,e2,_⟩:=Q5 hp;rw[e1,Jc rok.n1 rok.n2 hp];unfold Zd;rw[List.mem_map,List.mem_map];exact⟨fun⟨c,hc,e⟩=>⟨c,e2.mem_iff.1 hc,e⟩,fun⟨c,hc,e⟩=>⟨c,e2.mem_iff.2 hc,e⟩⟩
  have hd:Zi i=i.cost.length-1:=by unfold Zi;rw[if_pos h];have:=sq.len;omega
  have e1:Zo i=Ws 1 i.cost.length:=by funext p;unfold Zo;rw[if_neg (by omega),if_neg (by omega)]
  have e2:Zk i=fun p=>(YD i.cost (WX i.cost) p).1:=by funext p;unfold Zk;rw[if_neg (by omega),if_neg (by omega)]
  have e3:okI i=fun p=>∃ s,Z5 i.cost p=some s:=by funext p;unfold okI;rw[if_neg (by omega),if_neg (by omega)]
  have e4:bxI i=fun p=>YS i.cost (i.cost.length-1-p.length) p:=by funext p;unfold bxI;rw[if_neg (by omega),if_neg (by omega)]
  rw[hd,e1,e2,e3,e4];exact K
section
variable (D:Nat) (kids:List Int->List Int) (bound:List Int->Int) (cost:Int)
def Wc : Nat->List (List Int)->Wd
 | 0,_=>[]
 | _+1,[]=>[]
 | n+1,p::S=>if cost<=bound p then 112::Wc n S else if p.length=D then 108::Wc n S else 98::Wc n ((kids p).map (fun n=>p++[n])++S)
def XL : Wd->List (List Int)->Int
 | [],[]=>0
 | _::_,[]=>7
 | [],_::_=>6
 | c::w,p::S =>
  if c=112 then XL w S
  else if c=98 then(if p.length=D then 8 else XL w ((kids p).map (fun n=>p++[n])++S))
  else if c=108 then(if p.length=D then XL w S else 8)
  else 2
end
section
variable {D:Nat} {kids:List Int->List Int} {bound:List Int->Int} {cost:Int} {okp:List Int->Prop}
theorem ZaW (n:Nat)(p:List Int)(S:List (List Int)) : Wc D kids bound cost (n+1) (p::S)=if cost<=bound p then 112::Wc D kids bound cost n S else if p.length=D then 108::Wc D kids bound cost n S else 98::Wc D kids bound cost n ((kids p).map (fun n=>p++[n])++S):=by rw[Wc]
theorem Us (c:UInt8)(w:Wd)(p:List Int)(S:List (List Int)) : XL D kids (c::w) (p::S)=if c=112 then XL D kids w S
  else if c=98 then(if p.length=D then 8 else XL D kids w ((kids p).map (fun n=>p++[n])++S))
  else if c=108 then(if p.length=D then XL D kids w S else 8)
  else 2:=by rw[XL]
theorem ZbT : ∀ n,Wc D kids bound cost n []=[]
 | 0=>rfl
 | _+1=>rfl
theorem QH (f:Nat)(p:List Int) : Z6 D kids bound cost (f+1) p=if cost<=bound p then [112] else if p.length=D then [108] else 98::((kids p).map fun n=>Z6 D kids bound cost f (p++[n])).flatten:=by rw[Z6]
theorem ZfB (hlen:∀ p,okp p->p.length<=D)(hkid:∀ p,okp p->p.length<D->∀ n∈kids p,okp (p++[n])) : ∀ (f:Nat) (p:List Int) (S:List (List Int)) (n:Nat),okp p->f+p.length=D+1->(Z6 D kids bound cost f p).length<=n ->
  Wc D kids bound cost n (p::S)=Z6 D kids bound cost f p++Wc D kids bound cost (n-(Z6 D kids bound cost f p).length) S
 | 0,p,S,n,ho,hf,_=>by have:=hlen p ho;omega
 | f+1,p,S,n,ho,hf,hn=>by
  have hl:=hlen p ho;rw[QH] at hn ⊢;have hn0:0<n:=by
   rcases Nat.eq_zero_or_pos n with h | h
   ·subst h
    split at hn
    ·simp at hn
    ·split at hn<;>simp at hn
   ·exact h
  obtain⟨k,rfl⟩:∃ k,n=k+1:=⟨n-1,by omega⟩;rw[ZaW]
  by_cases h1:cost<=bound p
  ·rw[if_pos h1,if_pos h1];simp
  ·rw[if_neg h1,if_neg h1]
   rw[if_neg h1] at hn
   by_cases h2:p.length=D
   ·rw[if_pos h2,if_pos h2];simp
   ·rw[if_neg h2,if_neg h2]
    rw[if_neg h2] at hn;have key:∀ (l:List Int) (k:Nat),(∀ n∈l,okp (p++[n]))->((l.map fun n=>Z6 D kids bound cost f (p++[n])).flatten).length<=k ->
      Wc D kids bound cost k (l.map (fun n=>p++[n])++S)=(l.map fun n=>Z6 D kids bound cost f (p++[n])).flatten++Wc D kids bound cost (k-((l.map fun n=>Z6 D kids bound cost f (p++[n])).flatten).length) S:=by
     intro l
     induction l with
     | nil=>intro k _ _;simp
     | cons m l ih =>
      intro k hk hkl;simp only[List.map_cons,List.flatten_cons,List.length_append] at hkl ⊢;have h3:=ZfB hlen hkid f (p++[m]) (l.map (fun n=>p++[n])++S) k (hk m (by simp)) (by simp;omega) (by omega);rw[List.cons_append,h3,ih _ (fun n hn=>hk n (by simp[hn])) (by omega),List.append_assoc]
      congr 3
      omega
    rw[key (kids p) k (hkid p ho (by omega)) (by simp only[List.length_cons] at hn;omega)];simp only[List.cons_append,List.length_cons]
    congr 3
    omega
theorem ZbU (hlen:∀ p,okp p->p.length<=D)(hkid:∀ p,okp p->p.length<D->∀ n∈kids p,okp (p++[n])) : ∀ (f:Nat) (p:List Int) (S:List (List Int)) (r:Wd),okp p->f+p.length=D+1 ->
  XL D kids (Z6 D kids bound cost f p++r) (p::S)=XL D kids r S
 | 0,p,S,r,ho,hf=>by have:=hlen p ho;omega
 | f+1,p,S,r,ho,hf=>by
  have hl:=hlen p ho;rw[QH]
  by_cases h1:cost<=bound p
  ·rw[if_pos h1,List.cons_append,List.nil_append,Us,if_pos rfl]
  ·rw[if_neg h1]
   by_cases h2:p.length=D
   ·rw[if_pos h2,List.cons_append,List.nil_append,Us,if_neg (by decide),if_neg (by decide),if_pos rfl,if_pos h2]
   ·rw[if_neg h2,List.cons_append,Us,if_neg (by decide),if_pos rfl,if_neg h2]
    have key:∀ (l:List Int) (r:Wd),(∀ n∈l,okp (p++[n]))->XL D kids ((l.map fun n=>Z6 D kids bound cost f (p++[n])).flatten++r) (l.map (fun n=>p++[n])++S)=XL D kids r S:=by
     intro l
     induction l with
     | nil=>intro r _;simp
     | cons m l ih =>
      intro r hk;simp only[List.map_cons,List.flatten_cons,List.append_assoc,List.cons_append];rw[ZbU hlen hkid f (p++[m]) _ _ (hk m (by simp)) (by simp;omega)];exact ih r fun n hn=>hk n (by simp[hn])
    exact key (kids p) r (hkid p ho (by omega))
theorem JK (hlen:∀ p,okp p->p.length<=D)(hkid:∀ p,okp p->p.length<D->∀ n∈kids p,okp (p++[n]))(w:Nat->Nat)(hw:∀ p,okp p->p.length<D->(kids p).length<=w (D-p.length)) : ∀ (f:Nat) (p:List Int),okp p->f+p.length=D+1->(Z6 D kids bound cost f p).length<=ZaR w (D-p.length)
 | 0,p,ho,hf=>by have:=hlen p ho;omega
 | f+1,p,ho,hf=>by
  have hl:=hlen p ho;have hpos:0<ZaR w (D-p.length):=by
   cases D-p.length with
   | zero=>simp[ZaR]
   | succ r=>unfold ZaR;omega
  rw[QH]
  by_cases h1:cost<=bound p
  ·rw[if_pos h1];simp;omega
  ·rw[if_neg h1]
   by_cases h2:p.length=D
   ·rw[if_pos h2];simp;omega
   ·rw[if_neg h2]
    have hlt:p.length<D:=by omega
    obtain⟨r,hr⟩:∃ r,D-p.length=r+1:=⟨D-p.length-1,by omega⟩;have hwp:=hw p ho hlt;rw[hr] at hwp ⊢;have key:∀ (l:List Int),(∀ n∈l,okp (p++[n]))->((l.map fun n=>Z6 D kids bound cost f (p++[n])).flatten).length<=l.length*ZaR w r:=by
     intro l
     induction l with
     | nil=>intro _;simp
     | cons m l ih =>
      intro hk;have h3:=JK hlen hkid w hw f (p++[m]) (hk m (by simp)) (by simp;omega);rw[show D-(p++[m]).length=r by simp;omega] at h3;have h4:=ih fun n hn=>hk n (by simp[hn])
      simp only[List.map_cons,List.flatten_cons,List.length_append,List.length_cons,Nat.succ_mul];omega
    have h3:=key (kids p) (hkid p ho hlt);have h4:(kids p).length*ZaR w r<=w (r+1)*ZaR w r:=Nat.mul_le_mul_right _ hwp;simp only[List.length_cons];unfold ZaR;omega
end
theorem We {i:InstP}(hc:Zh i=0)(p:List Int)(ho:okI i p)(hl:p.length<Zi i) : (Zo i p).length<=if i.kind=1 then 2 else Zi i-p.length:=by
 unfold okI at ho;rcases ZU hc with h | h | h
 ·rw[if_pos h]
  unfold Zo U1;rw[if_pos h];split
  ·simp
  ·split<;>simp
 ·have sq:=Zp hc (by omega)
  have rok:=ZF sq;rw[if_neg (by omega),if_pos h] at ho;obtain⟨m,hm⟩:=ho;have h1:=ZZ rok.n2 hm;have hd:Zi i=i.cost.length:=by unfold Zi;rw[if_neg (by omega)];have:=sq.len;omega
  have e:Zo i p=Zd (Zf m):=by unfold Zo;rw[if_neg (by omega),if_pos h,Uq rok.n2 hm]
  rw[if_neg (show ¬i.kind=1 by omega),e,Zg];omega
 ·have sq:=Zp hc (by omega)
  have rok:=ZF sq;rw[if_neg (by omega),if_neg (by omega)] at ho;obtain⟨⟨m,last,cost⟩,hm⟩:=ho;have h1:=JE rok.n1 rok.n2 hm;have hd:Zi i=i.cost.length-1:=by unfold Zi;rw[if_pos h];have:=sq.len;omega
  have e:Zo i p=Zd (Zf m):=by unfold Zo;rw[if_neg (by omega),if_neg (by omega),Jc rok.n1 rok.n2 hm]
  rw[if_neg (show ¬i.kind=1 by omega),e,Zg];omega
theorem Zim : ∀ r,r<=7->ZaR (fun _=>2) r<=300:=by decide
theorem ZiZ : ∀ r,r<=4->ZaR (fun r=>r) r<=300:=by decide
theorem ZdG {i:InstP}(hc:Zh i=0)(hf:i.kind=1/\i.n<=7\/i.kind≠1/\i.n<=4)(cost:Int) : (Z6 (Zi i) (Zo i) (Zk i) cost (Zi i+1) []).length<=300/\Wc (Zi i) (Zo i) (Zk i) cost 3000 [[]]=Z6 (Zi i) (Zo i) (Zk i) cost (Zi i+1) []/\XL (Zi i) (Zo i) (Z6 (Zi i) (Zo i) (Zk i) cost (Zi i+1) []) [[]]=0:=by
 have K:=Wt hc;have o0:=Ql hc;have hd:Zi i<=i.n.toNat:=by unfold Zi;split<;>omega
 have hlen:(Z6 (Zi i) (Zo i) (Zk i) cost (Zi i+1) []).length<=300:=by
  by_cases h1:i.kind=1
  ·have:=JK (bound:=Zk i) (cost:=cost) K.len K.kid (fun _=>2) (fun p ho hl=>by have:=We hc p ho hl;rw[if_pos h1] at this;exact this) (Zi i+1) [] o0 (by simp)
   exact Nat.le_trans this (Zim _ (by simp;omega))
  ·have:=JK (bound:=Zk i) (cost:=cost) K.len K.kid (fun r=>r) (fun p ho hl=>by have:=We hc p ho hl;rw[if_neg h1] at this;exact this) (Zi i+1) [] o0 (by simp)
   exact Nat.le_trans this (ZiZ _ (by simp;omega))
 refine⟨hlen,?_,?_⟩
 ·have:=ZfB (bound:=Zk i) (cost:=cost) K.len K.kid (Zi i+1) [] [] 3000 o0 (by simp) (by omega)
  rw[this,ZbT,List.append_nil]
 ·have:=ZbU (bound:=Zk i) (cost:=cost) K.len K.kid (Zi i+1) [] [] [] o0 (by simp)
  rw[List.append_nil] at this;rw[this]
  rfl
end Go.Proofs.YtmojhhlcocjoaaaGreatDoor
