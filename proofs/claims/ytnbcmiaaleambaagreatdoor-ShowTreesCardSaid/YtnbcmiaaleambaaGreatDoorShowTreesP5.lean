/- parts, packed by a program -/
import Derived.Test.YtnbcmiaaleambaaGreatDoorShowTreesP4
set_option maxRecDepth 100000
set_option maxHeartbeats 16000000
set_option linter.all false
namespace Go.Proofs.YtnbcmiaaleambaaGreatDoor
section
open Go.RowKit Go.ChangeShapes Go.WideShapes Go.ChangeAt Go.Deep
def Xn : Int->List Int->Int
 | b,[]=>b
 | b,x::l=>Xn (if b<0 then x else if x<b then x else b) l
theorem UZ {B:Int} : ∀ {l:List Int} {b:Int},(∀ x∈l,0<=x/\x<=B)->b<=B->(0<=b\/l≠[])->0<=Xn b l/\Xn b l<=B
 | [],b,_,h1,h2=>by
  rcases h2 with h2 | h2
  ·exact⟨h2,h1⟩
  ·exact absurd rfl h2
 | x::l,b,h,h1,h2=>by
  have hx:=h x (by simp);unfold Xn;refine UZ (fun y hy=>h y (by simp[hy])) ?_ (.inl ?_)<;>split<;>(try split)<;>omega
theorem VT : ∀ {l:List Int} {b:Int},(∀ x∈l,0<=x)->(∀ x∈l,Xn b l<=x)/\(0<=b->Xn b l<=b)
 | [],b,_=>⟨fun x hx=>absurd hx List.not_mem_nil,fun _=>Int.le_refl _⟩
 | x::l,b,h=>by
  have hx:=h x (by simp);have ih:=VT (l:=l) (b:=if b<0 then x else if x<b then x else b) fun y hy=>h y (by simp[hy])
  unfold Xn;refine⟨fun y hy=>?_,fun hb=>?_⟩
  ·rcases List.mem_cons.1 hy with rfl | hy
   ·refine Int.le_trans (ih.2 ?_) ?_<;>split<;>(try split)<;>omega
   ·exact ih.1 y hy
  ·refine Int.le_trans (ih.2 ?_) ?_<;>split<;>(try split)<;>omega
theorem Vf (f:Nat->Int) : ∀ (l:List Nat) (b:Int),Xn b (l.map f)=Zm f b l
 | [],b=>rfl
 | x::l,b=>by
  show Xn _ (l.map f)=_;rw[Vf f l]
  rfl
def offs (ms:List (List Int)) : List Int:=ms.map (Xn (-1))
def Q0 (ms:List (List Int))(L:Nat) : List Int:=(List.range L).map fun c=>Xm c (-1) ms (offs ms)
def VU (ms:List (List Int))(L:Nat) : Int:=Zg (offs ms)+Zg (Q0 ms L)
theorem ZdQ {g:Nat->Nat}{h:List Int->List Int}{c:Nat} : ∀ (rows:List (List Int)) (o:List Int) (b:Int),(∀ row∈rows,(h row).getD c 0=row.getD (g c) 0)->Xm c b (rows.map h) o=Xm (g c) b rows o
 | [],o,b,_=>by cases o<;>rfl
 | row::rows,[],b,_=>rfl
 | row::rows,x::o,b,hh=>by
  have h1:=hh row (by simp);simp only[List.map_cons,Xm];rw[h1];exact ZdQ rows o _ fun q hq=>hh q (by simp[hq])
theorem Ze1 (rows:List (List Int))(l:List Nat) : VU (rows.map fun row=>l.map fun c=>row.getD c 0) l.length=Z9 rows l:=by
 have ho:offs (rows.map fun row=>l.map fun c=>row.getD c 0)=Ve rows l:=by
  unfold offs Ve;rw[List.map_map];refine List.map_congr_left fun row _=>?_
  exact Vf (fun c=>row.getD c 0) l (-1)
 unfold VU Z9 Q0;rw[ho]
 congr 2
 apply List.ext_getElem
 ·simp
 intro k h1 h2;simp only[List.length_map,List.length_range] at h1 h2;rw[List.getElem_map,List.getElem_map,List.getElem_range];have:=ZdQ (g:=fun k=>l.getD k 0) (h:=fun row=>l.map fun c=>row.getD c 0) (c:=k) rows (Ve rows l) (-1) (fun row _=>by
  simp[List.getD,h2])
 rw[this];simp[List.getD,h2]
theorem Za0 {c:Nat}{B:Int} : ∀ {rows:List (List Int)} {off:List Int} {b:Int},(∀ (k:Nat) (x:List Int) (o:Int),rows[k]?=some x->off[k]?=some o->0<=x.getD c 0-o/\x.getD c 0-o<=B)->rows.length=off.length->b<=B->(0<=b\/rows≠[])->0<=Xm c b rows off/\Xm c b rows off<=B
 | [],off,b,_,_,h1,h2=>by
  rcases h2 with h2 | h2
  ·cases off<;>exact⟨h2,h1⟩
  ·exact absurd rfl h2
 | row::rows,[],b,_,hl,_,_=>by simp at hl
 | row::rows,o::off,b,h,hl,h1,h2=>by
  have hx:=h 0 row o rfl rfl;unfold Xm;refine Za0 (fun k x o h3 h4=>h (k+1) x o h3 h4) (by simpa using hl) ?_ (.inl ?_)<;>split<;>(try split)<;>omega
theorem Xt {l:List Int}{k:Nat}{x:Int}(h:l[k]?=some x) : Zg (l.take (k+1))=Zg (l.take k)+x:=by
 rw[List.take_add_one,h,Zdh];simp[Zg]
theorem WH {B:Int}{l:List Int}(h:∀ x∈l,0<=x/\x<=B)(hB:0<=B) : ∀ k:Nat,0<=Zg (l.take k)/\Zg (l.take k)<=B*k
 | 0=>by simp[Zg]
 | k+1=>by
  have h1:=WH h hB k;have e:B*((k+1:Nat):Int)=B*k+B:=by rw[Int.natCast_add,Int.mul_add];simp
  rw[e]
  by_cases hk:k<l.length
  ·have ek:l[k]?=some l[k]:=List.getElem?_eq_getElem hk
   rw[Xt ek];have:=h _ (List.getElem_mem hk);omega
  ·rw[List.take_of_length_le (by omega)]
   rw[List.take_of_length_le (by omega)] at h1;omega
def Vg (off:List Int)(k:Nat) : Array Value:=((List.range 30).map fun j=>Value.int .i64 (if j<k then off.getD j 0 else 0)).toArray
theorem Vh {off:List Int}{k j:Nat}(hj:j<30) : (Vg off k)[j]?=some (.int .i64 (if j<k then off.getD j 0 else 0)):=by
 unfold Vg;simp[hj]
theorem Zcb {off:List Int}{k:Nat}{x:Int}(hk:k<30)(hx:off[k]?=some x) : (Vg off k).setIfInBounds k (.int .i64 x)=Vg off (k+1):=by
 apply Array.ext_getElem?;intro i
 by_cases hi:i<30
 ·rw[Vh hi]
  by_cases e:k=i
  ·subst e
   rw[Array.getElem?_setIfInBounds_self_of_lt (by unfold Vg;simp;omega),if_pos (by omega),getD_some hx]
  ·rw[Array.getElem?_setIfInBounds_ne e,Vh hi]
   by_cases hik:i<k
   ·rw[if_pos hik,if_pos (by omega)]
   ·rw[if_neg hik,if_neg (by omega)]
 ·rw[Array.getElem?_eq_none (by unfold Vg;simp;omega),Array.getElem?_eq_none (by unfold Vg;simp;omega)]
abbrev Zka : Array Value:=#[.int .i64 0,.int .i64 0,.int .i64 0,.int .i64 0,.int .i64 0,.int .i64 0,.int .i64 0,.int .i64 0,.int .i64 0,.int .i64 0,.int .i64 0,.int .i64 0,.int .i64 0,.int .i64 0,.int .i64 0,.int .i64 0,.int .i64 0,.int .i64 0,.int .i64 0,.int .i64 0,.int .i64 0,.int .i64 0,.int .i64 0,.int .i64 0,.int .i64 0,.int .i64 0,.int .i64 0,.int .i64 0,.int .i64 0,.int .i64 0]
theorem Za1 (off:List Int) : Vg off 0=Zka:=by
 apply Array.ext_getElem?;intro i
 by_cases hi:i<30
 ·rw[Vh hi,if_neg (by omega)]
  have:i=0\/i=1\/i=2\/i=3\/i=4\/i=5\/i=6\/i=7\/i=8\/i=9\/i=10\/i=11\/i=12\/i=13\/i=14\/i=15\/i=16\/i=17\/i=18\/i=19\/i=20\/i=21\/i=22\/i=23\/i=24\/i=25\/i=26\/i=27\/i=28\/i=29:=by omega
  rcases this with rfl | rfl | rfl | rfl | rfl | rfl | rfl | rfl | rfl | rfl | rfl | rfl | rfl | rfl | rfl | rfl | rfl | rfl | rfl | rfl | rfl | rfl | rfl | rfl | rfl | rfl | rfl | rfl | rfl | rfl<;>rfl
 ·rw[Array.getElem?_eq_none (by unfold Vg;simp;omega),Array.getElem?_eq_none (by simp;omega)]
theorem ZdR (A:Option Addr)(mc:Nat)(w:World) : Calls Tryz.prog 107 #[.slice A 0 mc] w fun e w'=>e=.returned (.int .i64 0)/\Ext w w':=by
 go_enter Tryz.func107,Tryz.ntmps107;go_wp2_with (fail);refine wp_loop_rounds 1 ?_;rw[rounds_succ];go_wp2_with (fail);refine wp_loop_rounds 1 ?_;rw[rounds_succ];go_wp2_with (fail);go_ret;exact⟨rfl,XI⟩
theorem ZdS (ms:List (List Int))(L:Nat)(M:Option Addr)(mc:Nat)(w:World)(hM:RdE 1 RInts w M ms)(hl:∀ row∈ms,row.length=L)(h0:0<L)(hL:L<=24)(hn0:0<ms.length)(hn:ms.length<=24)(num:∀ row∈ms,∀ x∈row,0<=x/\x<=2147483647) :
  Calls Tryz.prog 107 #[.slice M ms.length mc] w fun e w'=>e=.returned (.int .i64 (VU ms L))/\Ext w w':=by
 have LO:(offs ms).length=ms.length:=by simp[offs]
 have OB:∀ x∈offs ms,0<=x/\x<=2147483647:=fun x hx=>by
  obtain⟨row,hr,rfl⟩:=List.mem_map.1 hx;exact UZ (num row hr) (by omega) (.inr (by intro e;have:=hl row hr;rw[e] at this;simp at this;omega))
 have OG:∀ k row,ms[k]?=some row->(offs ms)[k]?=some (Xn (-1) row):=fun k row h=>by unfold offs;rw[List.getElem?_map,h];rfl
 have CB:∀ x∈Q0 ms L,0<=x/\x<=2147483647:=fun x hx=>by
  obtain⟨c,hc,rfl⟩:=List.mem_map.1 hx;have hc:=List.mem_range.1 hc;refine Za0 (fun k row o h1 h2=>?_) LO.symm (by omega) (.inr (by intro e;rw[e] at hn0;simp at hn0));rw[OG k row h1] at h2;obtain rfl:=Option.some.inj h2;have hr:=List.mem_of_getElem? h1;have hcl:c<row.length:=by rw[hl row hr];exact hc
  have e:row.getD c 0=row[c]:=by simp[List.getD,hcl]
  have h3:=(VT (b:=-1) fun x hx=>(num row hr x hx).1).1 _ (List.getElem_mem hcl);have h4:=num row hr _ (List.getElem_mem hcl);have h5:=OB _ (List.mem_map.2 ⟨row,hr,rfl⟩);rw[e];omega
 have CG:∀ c,c<L->(Q0 ms L)[c]?=some (Xm c (-1) ms (offs ms)):=fun c hc=>by simp[Q0,hc]
 have LC:(Q0 ms L).length=L:=by simp[Q0]
 have TOT:Hid (VU ms L=Zg (offs ms)+Zg (Q0 ms L)):=rfl;generalize VU ms L=tot at *;have SB:=WH OB (by omega);have SC:=WH CB (by omega);have LZ:=Za1 (offs ms);generalize offs ms=off at *;generalize Q0 ms L=cols at *;have START:Hid (Ext w (w.alloc (.cells #[.int .i64 0,.int .i64 0,.int .i64 0,.int .i64 0,.int .i64 0,.int .i64 0,.int .i64 0,.int .i64 0,.int .i64 0,.int .i64 0,.int .i64 0,.int .i64 0,.int .i64 0,.int .i64 0,.int .i64 0,.int .i64 0,.int .i64 0,.int .i64 0,.int .i64 0,.int .i64 0,.int .i64 0,.int .i64 0,.int .i64 0,.int .i64 0,.int .i64 0,.int .i64 0,.int .i64 0,.int .i64 0,.int .i64 0,.int .i64 0] 166))/\Blk (w.alloc (.cells #[.int .i64 0,.int .i64 0,.int .i64 0,.int .i64 0,.int .i64 0,.int .i64 0,.int .i64 0,.int .i64 0,.int .i64 0,.int .i64 0,.int .i64 0,.int .i64 0,.int .i64 0,.int .i64 0,.int .i64 0,.int .i64 0,.int .i64 0,.int .i64 0,.int .i64 0,.int .i64 0,.int .i64 0,.int .i64 0,.int .i64 0,.int .i64 0,.int .i64 0,.int .i64 0,.int .i64 0,.int .i64 0,.int .i64 0,.int .i64 0] 166)) w.heap.size 166 (Vg off 0)) :=
  ⟨(Ext.rf _).alloc _,by rw[LZ];exact .new rfl⟩
 replace LO:=Hd LO;replace OB:=Hd OB;replace OG:=Hd OG;replace CB:=Hd CB;replace CG:=Hd CG;replace LC:=Hd LC;replace SB:=Hd SB;replace SC:=Hd SC;replace hl:=Hd hl;replace num:=Hd num;replace hM:=Hd hM;clear LZ;go_enter Tryz.func107,Tryz.ntmps107;go_wp2_with (fail);go_loopw [5,3] (fun v s wr=>∃ k:Nat,v=.int .i64 k/\s=.int .i64 (Zg (off.take k))/\k<=ms.length/\Hid (Ext w wr/\Blk wr w.heap.size 166 (Vg off k))) (fun v _ _=>ms.length-(intOf v).toNat)
 case atStart=>exact⟨0,rfl,rfl,by omega,START⟩
 case round =>
  obtain⟨wo,rfl⟩:=Wq wr;obtain⟨k,rfl,rfl,hk,HH⟩:=hrel;clear START
  by_cases hlt:k<ms.length
  ·obtain⟨Y,bL⟩:=HH.out
   obtain⟨mb,mo,D,row,d,rfl,_,cD,er,_,rD,iD,ld,md⟩:=(hM.out.ext Y fun _ _ h=>h.ext Y).ints hlt;have hr:=List.mem_of_getElem? er.out;have eo:=OG.out k row er.out;have ob:=OB.out _ (List.mem_of_getElem? eo);have hrl:Hid (row.length=L):=hl.out row hr;have q1:(k:Int)<(ms.length:Int):=by omega
   obtain⟨o,ho⟩:∃ o,Hid (Xn (-1) row=o):=⟨_,rfl⟩;rw[ho.out] at eo ob;have SN:=Xt eo;have sb1:=SB.out k;obtain⟨s,hs⟩:∃ s,Hid (s=Zg (off.take k)):=⟨_,rfl⟩;rw[<-hs.out] at SN sb1 ⊢;have hnum:=Hd (num.out row hr);have zD:=World.block_lt_of_cell? _ _ cD;replace SN:=Hd SN;replace eo:=Hd eo;replace Y:=Hd Y;replace bL:=Hd bL;replace rD:=Hd rD;replace iD:=Hd iD;clear er HH hr;go_wp2_with (fail);go_loopw [7,6] (fun v bv wr=>∃ (j:Nat) (bb:Int),v=.int .i64 j/\bv=.int .i64 bb/\j<=row.length/\Hid (Xn bb (row.drop j)=o)/\Hid (Ext wo wr)) (fun v _ _=>row.length-(intOf v).toNat)
   case atStart=>exact⟨0,-1,rfl,rfl,by omega,ho,Ext.rf _⟩
   case round =>
    obtain⟨wi,rfl⟩:=Wq wr;obtain⟨j,bb,rfl,rfl,hj,HB,YI⟩:=hrel;have cD':wi.cell? ⟨mb,mo+k,none⟩=some (.slice D row.length d):=Zd YI.out zD cD
    by_cases hjl:j<row.length
    ·obtain⟨rb,ro,x,rfl,_,cx,ex,dx⟩:=(rD.out.ext YI.out).at hjl
     have q2:(j:Int)<(row.length:Int):=by omega
     have hx:=hnum.out x (List.mem_of_getElem? ex.out);have x0:(0:Int)<=x:=hx.1;have HB2:Hid (Xn (if bb<0 then x else if x<bb then x else bb) (row.drop (j+1))=o):=by
      have h:=HB.out;rw[dx.out] at h;exact h
     clear HB ex dx hx
     by_cases hb0:bb<0
     ·rw[if_pos hb0] at HB2
      go_wp2_with (fail);go_roundw
      case rel=>exact⟨j+1,x,by go_num,rfl,by omega,HB2,YI⟩
      case measure=>simp[intOf];omega
     ·rw[if_neg hb0] at HB2
      by_cases hxb:x<bb
      ·rw[if_pos hxb] at HB2
       go_wp2_with (fail);go_roundw
       case rel=>exact⟨j+1,x,by go_num,rfl,by omega,HB2,YI⟩
       case measure=>simp[intOf];omega
      ·rw[if_neg hxb] at HB2
       go_wp2_with (fail);go_roundw
       case rel=>exact⟨j+1,bb,by go_num,rfl,by omega,HB2,YI⟩
       case measure=>simp[intOf];omega
    ·have q2:¬(j:Int)<(row.length:Int):=by omega
     have hbo:bb=o:=by
      have h:=HB.out;rw[List.drop_of_length_le (by omega)] at h;exact h
     obtain rfl:=hbo;have nb:¬bb<0:=by omega
     have bI:=bL.out.ext YI.out;have fl:=bI.free k;have k30:(k:Int)<30:=by omega
     have hw1:IntKind.i64.wrap (s+bb)=s+bb:=IntWalk.i64_in _ (by omega);have NX:Hid (Ext w (wi.setCell ⟨w.heap.size,k,none⟩ (.int .i64 bb))/\Blk (wi.setCell ⟨w.heap.size,k,none⟩ (.int .i64 bb)) w.heap.size 166 (Vg off (k+1))):=by
      refine⟨(Y.out.tr YI.out).setNew (p:=⟨w.heap.size,k,none⟩) (Nat.le_refl _) _,?_⟩;rw[<-Zcb (by omega) eo.out];exact bI.set k _
     have cl:wi.cell? ⟨w.heap.size,k,none⟩=some (.int .i64 (if k<k then off.getD k 0 else 0)):=by rw[bI.cell,Vh (by omega)]
     clear HB bI ho;go_wp2_with (first | go_quiet (fail) | go_region);go_roundw
     case rel=>exact⟨k+1,by go_num,by rw[SN.out],by omega,NX.out⟩
     case measure=>simp[intOf];omega
  ·obtain rfl:k=ms.length:=by omega
   have q1:¬(ms.length:Int)<(ms.length:Int):=by omega
   have SO:Hid (Zg (off.take ms.length)=Zg off):=Hd (by rw[<-LO.out,List.take_length]);have so:=SB.out ms.length;rw[SO.out] at so ⊢;obtain⟨Y,bL⟩:=HH.out;replace Y:=Hd Y;replace bL:=Hd bL;have TOT2:Hid (tot=Zg off+Zg cols):=TOT.out;obtain⟨s0,hs0⟩:∃ s0,Hid (s0=Zg off):=⟨_,rfl⟩;rw[<-hs0.out] at so TOT2 ⊢;clear HH SO TOT SB;go_wp2_with (fail);go_loopw [8,3] (fun v s wr=>∃ c:Nat,v=.int .i64 c/\s=.int .i64 (s0+Zg (cols.take c))/\c<=L/\Hid (Ext wo wr)) (fun v _ _=>L-(intOf v).toNat)
   case atStart=>exact⟨0,rfl,by rw[List.take_zero];simp[Zg],by omega,Ext.rf _⟩
   case round =>
    obtain⟨wp,rfl⟩:=Wq wr;obtain⟨c,rfl,rfl,hc,YP⟩:=hrel;have sc1:=SC.out c;obtain⟨mb,mo,D0,row0,d0,rfl,zb,cD0,er0,_,_,_,_,_⟩:=(hM.out.ext (Y.out.tr YP.out) fun _ _ h=>h.ext (Y.out.tr YP.out)).ints (r:=0) hn0;have hl0:row0.length=L:=hl.out row0 (List.mem_of_getElem? er0.out);rw[hl0] at cD0;rw[Nat.add_zero] at cD0;clear er0 hl0
    by_cases hcl:c<L
    ·have q2:(c:Int)<(L:Int):=by omega
     have ec:=CG.out c hcl;obtain⟨cv,hcv⟩:∃ cv,Hid (Xm c (-1) ms off=cv):=⟨_,rfl⟩;rw[hcv.out] at ec;have cb:=CB.out _ (List.mem_of_getElem? ec);have SN:=Xt ec;obtain⟨s1,hs1⟩:∃ s1,Hid (s1=Zg (cols.take c)):=⟨_,rfl⟩;rw[<-hs1.out] at SN sc1 ⊢;replace SN:=Hd SN;clear ec;go_wp2_with (fail);go_loopw [10,9] (fun v bv wr=>∃ (k:Nat) (bb:Int),v=.int .i64 k/\bv=.int .i64 bb/\k<=ms.length/\Hid (Xm c bb (ms.drop k) (off.drop k)=cv)/\Hid (Ext wp wr)) (fun v _ _=>ms.length-(intOf v).toNat)
     case atStart=>exact⟨0,-1,rfl,rfl,by omega,hcv,Ext.rf _⟩
     case round =>
      obtain⟨wi,rfl⟩:=Wq wr;obtain⟨k,bb,rfl,rfl,hk,HB,YI⟩:=hrel
      by_cases hkl:k<ms.length
      ·have YA:=(Y.out.tr YP.out).tr YI.out
       obtain⟨mb',mo',D,row,d,hq,_,cD,er,dr,rD,iD,ld,md⟩:=(hM.out.ext YA fun _ _ h=>h.ext YA).ints hkl;obtain⟨rfl,rfl⟩:mb=mb'/\mo=mo':=by simpa using hq
       have hr:=List.mem_of_getElem? er.out;have eo:=OG.out k row er.out;have hrl:=hl.out row hr;obtain⟨rb,ro,x,rfl,_,cx,ex,_⟩:=rD.at (k:=c) (by omega);have hx:=num.out row hr x (List.mem_of_getElem? ex.out);have x0:(0:Int)<=x:=hx.1;have ob:=OB.out _ (List.mem_of_getElem? eo);obtain⟨o,ho⟩:∃ o,Hid (Xn (-1) row=o):=⟨_,rfl⟩;rw[ho.out] at eo ob;have dof:off.drop k=o::off.drop (k+1):=by
        have hkl2:k<off.length:=by rw[LO.out];exact hkl
        rw[List.drop_eq_getElem_cons hkl2];rw[List.getElem?_eq_getElem hkl2] at eo;rw[Option.some.inj eo]
       have HB2:Hid (Xm c (if bb<0 then x-o else if x-o<bb then x-o else bb) (ms.drop (k+1)) (off.drop (k+1))=cv):=by
        have h:=HB.out;rw[dr.out,dof,Xm,getD_some ex.out] at h;exact h
       have cl:wi.cell? ⟨w.heap.size,k,none⟩=some (.int .i64 o):=by
        rw[((bL.out.ext YP.out).ext YI.out).cell,Vh (by omega),if_pos hkl,getD_some eo]
       have q3:(k:Int)<(ms.length:Int):=by omega
       have q4:(c:Int)<(row.length:Int):=by omega
       have k30:(k:Int)<30:=by omega
       have hw2:IntKind.i64.wrap (x-o)=x-o:=IntWalk.i64_in _ (by omega);replace hrl:=Hd hrl;clear HB ex er dr eo dof hr hq rD
       by_cases hb0:bb<0
       ·rw[if_pos hb0] at HB2
        have t1:decide (bb<0)=true:=decide_eq_true hb0;go_wp2_with (fail);go_quiet (fail);go_wp2_with (fail);go_quiet (fail);go_wp2_with (fail);go_roundw
        case rel=>exact⟨k+1,x-o,by go_num,rfl,by omega,HB2,YI.out.drewN _⟩
        case measure=>simp[intOf];omega
       ·rw[if_neg hb0] at HB2
        have t1:decide (bb<0)=false:=decide_eq_false hb0
        by_cases hxb:x-o<bb
        ·rw[if_pos hxb] at HB2
         have t2:decide (x-o<bb)=true:=decide_eq_true hxb;go_wp2_with (fail);go_quiet (fail);go_wp2_with (fail);go_quiet (fail);go_wp2_with (fail);go_roundw
         case rel=>exact⟨k+1,x-o,by go_num,rfl,by omega,HB2,YI.out.drewN _⟩
         case measure=>simp[intOf];omega
        ·rw[if_neg hxb] at HB2
         have t2:decide (x-o<bb)=false:=decide_eq_false hxb;go_wp2_with (fail);go_quiet (fail);go_wp2_with (fail);go_roundw
         case rel=>exact⟨k+1,bb,by go_num,rfl,by omega,HB2,YI.out.drewN _⟩
         case measure=>simp[intOf];omega
      ·have q3:¬(k:Int)<(ms.length:Int):=by omega
       have hbo:bb=cv:=by
        have h:=HB.out;rw[List.drop_of_length_le (by omega)] at h;exact h
       obtain rfl:=hbo;have nb:¬bb<0:=by omega
       have hw1:IntKind.i64.wrap (s0+s1+bb)=s0+s1+bb:=IntWalk.i64_in _ (by omega);clear HB hcv;go_wp2_with (fail);go_roundw
       case rel=>exact⟨c+1,by go_num,by rw[SN.out,Int.add_assoc],by omega,YP.out.tr YI.out⟩
       case measure=>simp[intOf];omega
    ·obtain rfl:c=L:=by omega
     have q2:¬(c:Int)<(c:Int):=by omega
     have FIN:Hid (s0+Zg (cols.take c)=tot):=Hd (by rw[TOT2.out,<-LC.out,List.take_length]);go_wp2_with (fail);go_ret;exact⟨Z3 FIN.out,Y.out.tr YP.out⟩
theorem ZhZ {w:World}{base n c:Nat}{C:Option Addr}{us:List Value}{rows:List (List Int)}(h3:OwV w base 22 1 C n c us)(h4:RowsO w base us rows)(hi:∀ r∈rows,Ints r) : RdE 1 RInts w C rows:=by
 rcases h3.read with h0 | ⟨b',off,cur,hA,hb,hc⟩
 ·left
  have:=h4.1;rw[h0] at this;exact List.eq_nil_of_length_eq_zero this.symm
 ·refine .inr ⟨b',off,hA,(Array.getElem?_eq_some_iff.1 hb).1,fun k r hr=>?_⟩
  obtain⟨A',c',hu,ho⟩:=h4.2 k r hr;refine⟨[.slice A' r.length c'],⟨A',c',rfl,ho.read,hi r (List.mem_of_getElem? hr),ho.le.1,ho.le.2⟩,rfl,fun j v hj=>?_⟩
  cases j with
  | zero =>
   simp at hj;subst hj;rw[cell_of_row w b' _ cur _ (0,0) hb]
   simpa using hc k _ hu
  | succ j=>simp at hj
def Qn (rows:List (List Int))(l:List Nat) : List (List Int):=rows.map fun row=>l.map fun c=>row.getD c 0
theorem ZcU (i:InstP)(us:List Value)(P:Option Addr)(pc:Nat)(p:List Int)(w:World)(H:RInst w us i)(ok:SquareOk i)(hP:RdI w P p)(lp:p.length<=1000000000) :
  Calls Tryz.prog 87 #[.agg (List.toArray us),.slice P p.length pc] w fun e w'=>e=.returned (.tuple #[.int .i64 (ZX i.cost p).1,.int .i64 (ZX i.cost p).2])/\Ext w w':=by
 have rok:=ZP ok;have l1:=rok.n1;have l2:=rok.n2;have hnn:i.n=(i.cost.length:Int):=ok.len.symm;have FR:=fun(W:World) (x:Ext w W)=>Zca i us P pc p W (H.ext x) i.cost.length hnn l1 l2 (hP.ext x) lp
 clear ok;obtain⟨kind,nn,cap,xw,xv,co⟩:=i;obtain⟨A,a,B,b,D,d,rfl,-,-,⟨hC,-,-⟩⟩:=H;simp only at *;subst hnn;obtain⟨r,hr⟩:∃ r,Hid (Ye co.length p=r):=⟨_,rfl⟩;rw[hr.out] at FR;replace hP:=Hd hP;replace hC:=Hd hC;have B1:Hid (Blk (w.alloc (.cells #[.int .i64 kind,.int .i64 co.length,.int .i64 cap,.slice A xw.length a,.slice B xv.length b,.slice D co.length d] 25)) w.heap.size 25 #[.int .i64 kind,.int .i64 co.length,.int .i64 cap,.slice A xw.length a,.slice B xv.length b,.slice D co.length d]):=.new rfl
 cases r with
 | none =>
  have e:ZX co p=(0,1):=by unfold ZX;rw[hr.out]
  rw[e];unfold Zf4 at FR;replace FR:=Hd FR;go_enter Tryz.func87,Tryz.ntmps87;go_wp2_with (fail);refine(FR.out _ XI).mono ?_;rintro e w1 ⟨rfl,x1⟩;have X1:=Hd (Ext.tr (a:=w) XI x1);clear x1;go_wp2_with (fail);go_ret2;exact⟨rfl,X1.out⟩
 | some m =>
  obtain⟨hpl,hin,hS⟩:=WG l2 hr.out;have hlen:=YN l2 hr.out;obtain⟨tot,ht⟩:∃ tot,Hid (tot=ZK co p+(if p.length<co.length then Z9 (co.drop p.length) (Zb m) else 0)):=⟨_,rfl⟩;have e:ZX co p=(tot,0):=by unfold ZX;rw[hr.out];simp only[<-ht.out]
  rw[e];clear e;have RB:=Hd (Ql (rows:=co.drop p.length) (m:=m) (by rw[List.length_drop];omega) (fun row hr c hc=>rok.get (List.mem_of_mem_drop hr) (hS.2 c hc)));have hsub:=Hd hS.2;replace FR:=fun(W:World) (x:Ext w W)=>(show Calls _ _ _ W (VS m W) from FR W x)
  unfold VS at FR;replace FR:=Hd FR;clear hr hS;generalize Zb m=l at *;replace hin:=Hd hin;replace rok:=Hd rok;go_enter Tryz.func87,Tryz.ntmps87;go_wp2_with (fail);refine(FR.out _ XI).mono ?_;rintro e w1 ⟨A1,c1,rfl,o1,x1⟩;have X1:=Hd (Ext.tr (a:=w) XI x1);have BB:=Hd (B1.out.ext x1);replace o1:=Hd o1.read;clear x1;go_wp2_with (fail);go_loopw [9,8] (fun v s wr=>∃ (k:Nat) (su:Int),v=.int .i64 k/\s=.int .i64 su/\k<=p.length/\Hid (ZK co (p.take k)=su)/\Hid (Ext w1 wr)) (fun v _ _=>p.length-(intOf v).toNat)
  case atStart=>exact⟨0,0,rfl,rfl,by omega,(by cases co<;>rfl:ZK co (p.take 0)=0),Ext.rf _⟩
  case round =>
   obtain⟨wo,rfl⟩:=Wq wr;obtain⟨k,su,rfl,rfl,hk,HS,Y⟩:=hrel;have bdS:Hid (0<=su/\su<=2147483647*24):=by
    have h1:=UH (B:=2147483647) (rows:=co) (p:=p.take k) (by omega) fun row hr c hc=>by
     have:=hin.out c (List.mem_of_mem_take hc);exact rok.out.get hr (by omega)
    have h2:(p.take k).length<=24:=by rw[List.length_take];omega
    have h:0<=su/\su<=2147483647*24:=by
     rw[<-HS.out];omega
    exact h
   have d5:wo.cell? ⟨w.heap.size,5,none⟩=some (.slice D co.length d):=(BB.out.ext Y.out).cell 5;have d1:wo.cell? ⟨w.heap.size,1,none⟩=some (.int .i64 co.length):=(BB.out.ext Y.out).cell 1;have XW:=Hd (X1.out.tr Y.out)
   by_cases hlt:k<p.length
   ·have hkr:k<co.length:=by omega
    obtain⟨cb,cof,D',row,d',rfl,_,cD,er,_,rD,iD,ld,md⟩:=(hC.out.ext XW.out fun _ _ h=>h.ext XW.out).ints hkr;have hmem:=List.mem_of_getElem? er.out;obtain⟨pb,po,c,rfl,zp,cp,ep,_⟩:=(hP.out.ext XW.out).at hlt;have hc:=hin.out c (List.mem_of_getElem? ep.out);obtain⟨i,rfl⟩:∃ i:Nat,c=(i:Int):=⟨c.toNat,by omega⟩;have lrow:=rok.out.row row hmem;obtain⟨rb,ro,y,rfl,zy,cy,ey,_⟩:=rD.at (k:=i) (by omega);have yb:=rok.out.get hmem (c:=i) (by omega);rw[getD_some ey.out] at yb;have b1:=bdS.out;have hw:IntKind.i64.wrap (su+y)=su+y:=IntWalk.i64_in _ (by omega);have HS2:Hid (ZK co (p.take (k+1))=su+y):=Hd (by
     rw[Qk er.out ep.out,HS.out,Int.toNat_natCast,getD_some ey.out])
    have q1:(k:Int)<(co.length:Int):=by omega
    have q2:(k:Int)<(p.length:Int):=by omega
    have q3:(i:Int)<(row.length:Int):=by omega
    clear er ep ey lrow b1 yb HS hc rD hmem d1;go_wp2_with (fail);go_quiet (fail);go_wp2_with (fail);go_roundw
    case rel=>exact⟨k+1,su+y,by go_num,rfl,by omega,HS2,Y.out.drewN _⟩
    case measure=>simp[intOf];omega
   ·obtain rfl:k=p.length:=by omega
    have HS2:Hid (ZK co p=su):=by
     have h:=HS.out;rw[List.take_length] at h;exact h
    have q0:¬((p.length:Int)<(p.length:Int)):=by omega
    obtain⟨i0,hi,hz0,hz1,hz2⟩:=info_parts (QO);replace hi:=Hd hi;replace hz0:=Hd hz0;replace hz1:=Hd hz1;replace hz2:=Hd hz2;have START:Hid (OwV wo w1.heap.size 22 1 none 0 0 []/\RowsO wo w1.heap.size [] ((Qn (co.drop p.length) l).take 0)/\Ext w1 wo):=⟨OwV.nil _ _ _ _,RowsO.nil _ _,Y.out⟩;clear HS d1 d5;go_wp2_with (fail);go_loopw [11,10] (fun v mv wr=>∃ (r k:Nat) (M':Option Addr) (mc:Nat) (ws:List Value),v=.int .i64 r/\mv=.slice M' k mc/\Hid (r=p.length+k)/\r<=co.length/\Hid (OwV wr w1.heap.size 22 1 M' k mc ws/\RowsO wr w1.heap.size ws ((Qn (co.drop p.length) l).take k)/\Ext w1 wr)) (fun v _ _=>co.length-(intOf v).toNat)
    case atStart=>exact⟨p.length,0,none,0,[],rfl,rfl,rfl,by omega,START⟩
    case round =>
     obtain⟨wp,rfl⟩:=Wq wr;obtain⟨r,k,M',mc,ws,rfl,rfl,hrk,hr,HH⟩:=hrel;clear START;obtain⟨oV,oR,YP⟩:=HH.out;have XP:=Hd (X1.out.tr YP);have d1:wp.cell? ⟨w.heap.size,1,none⟩=some (.int .i64 co.length):=(BB.out.ext YP).cell 1
     by_cases hrn:r<co.length
     ·have q1:(r:Int)<(co.length:Int):=by omega
      obtain⟨cb,cof,D',row,d',rfl,zcb,cD,er,_,rD,iD,ld,md⟩:=(hC.out.ext XP.out fun _ _ h=>h.ext XP.out).ints hrn;have hmem:=List.mem_of_getElem? er.out;have lrow:=Hd (rok.out.row row hmem);have etk:Hid ((Qn (co.drop p.length) l).take (k+1)=(Qn (co.drop p.length) l).take k++[l.map fun c=>row.getD c 0]):=by
       have e0:(Qn (co.drop p.length) l)[k]?=some (l.map fun c=>row.getD c 0):=by
        unfold Qn;rw[List.getElem?_map,List.getElem?_drop,<-hrk.out,er.out]
        rfl
       have h:(Qn (co.drop p.length) l).take (k+1)=(Qn (co.drop p.length) l).take k++[l.map fun c=>row.getD c 0]:=by rw[List.take_add_one,e0];rfl
       exact h
      have z1p:=YP.size;have S0:Hid (OwI (wp.alloc (.cells #[] 3)) wp.heap.size (some ⟨wp.heap.size,0,none⟩) 0 []):=OwI.new (xs:=[]) rfl (Nat.le_refl _) Ya;have X0:Hid (Ext wp (wp.alloc (.cells #[] 3))):=(Ext.rf _).alloc _;have hk24:k<=24:=by have:=hrk.out;omega
      replace oV:=Hd oV;replace oR:=Hd oR;replace YP:=Hd YP;replace rD:=Hd rD;have zD:=World.block_lt_of_cell? _ _ cD;clear er hmem HH;go_wp2_with (fail);go_loopw [13,12] (fun v rv wr=>∃ (j:Nat) (R':Option Addr) (rc:Nat) (xs:List Int),v=.int .i64 j/\rv=.slice R' xs.length rc/\j<=l.length/\Hid (xs=(l.take j).map fun c=>row.getD c 0)/\Hid (OwI wr wp.heap.size R' rc xs)/\Hid (Ext wp wr)) (fun v _ _=>l.length-(intOf v).toNat)
      case atStart=>exact⟨0,_,_,[],rfl,rfl,by omega,rfl,S0,X0⟩
      case round =>
       obtain⟨wi,rfl⟩:=Wq wr;obtain⟨j,R',rc,xs,rfl,rfl,hj,hxs,oX,YI⟩:=hrel;clear S0 X0;have lxs:xs.length=j:=by rw[hxs.out,List.length_map,List.length_take];omega
       by_cases hjl:j<l.length
       ·have YA:=Hd (YP.out.tr YI.out)
        have q2:(j:Int)<(l.length:Int):=by omega
        have e5:wp.cell? ⟨w.heap.size,5,none⟩=some (.slice (some ⟨cb,cof,none⟩) co.length d):=(BB.out.ext YP.out).cell 5;have z5:w.heap.size<wp.heap.size:=(BB.out.ext YP.out).lt;have d5:=Zd YI.out z5 e5;have cD':wi.cell? ⟨cb,cof+r,none⟩=some (.slice D' row.length d'):=Zd YI.out zD cD;have ej:l[j]?=some l[j]:=List.getElem?_eq_getElem hjl;have hjs:=hsub.out _ (List.getElem_mem hjl);have hxs2:Hid (xs++[row.getD l[j] 0]=(l.take (j+1)).map fun c=>row.getD c 0):=Hd (by
         rw[List.take_add_one,ej,List.map_append,<-hxs.out];rfl)
        generalize l[j]=c at *;obtain⟨lb,lo,xk,rfl,zl,ck,exk,_⟩:=(o1.out.ext YP.out).at (k:=j) (by rw[Zh];exact hjl);obtain rfl:xk=(c:Int):=by
         have h:=exk.out;rw[Z7 ej] at h;exact(Option.some.inj h).symm
        obtain⟨rb,ro,y,rfl,zy,cy,ey,_⟩:=rD.out.at (k:=c) (by rw[lrow.out];exact hjs);rw[getD_some ey.out] at hxs2;have q3:(c:Int)<(row.length:Int):=by rw[lrow.out];omega
        have ck':=Zd YI.out zl ck;have cy':=Zd YI.out zy cy;have zpi:=YI.out.size;replace lxs:=Hd lxs;have hj24:j<24:=by omega
        clear exk ej ey hjs;go_wp2_with (fail);go_region_held3 (fun w'=>w'.cell? ⟨w.heap.size,5,none⟩=some (.slice (some ⟨cb,cof,none⟩) co.length d)/\w'.cell? ⟨cb,cof+r,none⟩=some (.slice (some ⟨rb,ro,none⟩) row.length d')/\w'.cell? ⟨lb,lo+j,none⟩=some (.int .i64 (c:Int))/\w'.cell? ⟨rb,ro+c,none⟩=some (.int .i64 y)) (go_keep)
         (first | (refine W6 _ (by rfl) _ _ (by rfl) wp.heap.size R' xs.length rc xs [y] (some ⟨wi.heap.size,0,none⟩) 1 (by rfl) (by rfl) (by rfl) ?_ ?_ ?_ ?_ ?_;(refine OwI.ext oX.out ?_;exact XI);(exact .blk (by(first | exact .new (by simp) | exact .drew (.new (by simp)) | exact .alloc (.new (by simp)) _ | exact .drew (.alloc (.new (by simp)) _) | exact .alloc (.alloc (.new (by simp)) _) _ | exact .drew (.alloc (.alloc (.new (by simp)) _) _) | (repeat (first | assumption | (refine Blk.new ?_;(focus (simp;done))) | apply Blk.drew | apply Blk.drewN | apply Blk.alloc)))) rfl);(have h8:=lxs.out;simp;omega);(simp;omega);rintro A7 c7 w7 o7 g7 _;have Y7:Ext wp w7:=Ext.grow (a:=wp) (Ext.tr YI.out XI) g7 (fun kk hkk=>(oX.out.lt kk hkk).1);have s1:=Zd Y7 z5 e5;have s2:=Zd Y7 zD cD;have s3:=Zd Y7 zl ck;have s4:=Zd Y7 zy cy))
        have O7:Hid (OwI w7 wp.heap.size A7 c7 (xs++[y])):=o7;replace Y7:=Hd Y7;clear o7 g7 s1 s2 s3 s4;go_wp2_with (fail);go_roundw
        case rel=>exact⟨j+1,A7,c7,xs++[y],by go_num,by first | rfl | simp,by omega,hxs2,OwI.ext O7.out XI,Ext.tr Y7.out XI⟩
        case measure=>simp[intOf];omega
       ·obtain rfl:j=l.length:=by omega
        have q2:¬(l.length:Int)<(l.length:Int):=by omega
        have hxs2:Hid (xs=l.map fun c=>row.getD c 0):=by
         have h:=hxs.out;rw[List.take_length] at h;exact h
        have X6:=Hd ((Ext.tr YI.out ((Ext.rf wi).alloc (.cells #[.slice R' xs.length rc] 22))));have oV5:=oV.out.ext YI.out;have zz:=YI.out.size;have M5:=Hd (oV5.ext ((Ext.rf wi).alloc (.cells #[.slice R' xs.length rc] 22)));clear oV5 hxs;replace lxs:=Hd lxs;go_wp2_with (at_builtin;refine ZU _ (e:=22) Tryz.underlying23 hi.out hz0.out hz1.out hz2.out (by simp[Value.cells]) (by omega) rfl _ _ rfl w1.heap.size M' k mc ws (some ⟨wi.heap.size,0,none⟩) 1 1 [.slice R' xs.length rc] rfl rfl M5.out (RdV.blk (.new (by simp))).rdC (by simp) (by simp[Value.oneCell']) (by simp only[maxLen];omega) (by omega) (by simp;omega) ?_;rintro C6 c6 w6 o6 g6 _);have M6:=M5.out.grownT g6;have NEW:Hid (OwV w6 w1.heap.size 22 1 C6 (k+1) c6 (ws++[.slice R' xs.length rc])/\RowsO w6 w1.heap.size (ws++[.slice R' xs.length rc]) ((Qn (co.drop p.length) l).take (k+1))/\Ext w1 w6):=by
         refine⟨o6,?_,(YP.out.tr X6.out).modT M6 (Nat.le_refl _)⟩;rw[etk.out,<-hxs2.out];exact((oR.out.ext X6.out).modT M6 (by decide)).snoc (((oX.out.more z1p).ext ((Ext.rf _).alloc _)).modT M6 (by decide))
        clear o6 g6 M6;go_wp2_with (fail);go_roundw
        case rel=>exact⟨r+1,k+1,C6,c6,_,by go_num,rfl,by have:=hrk.out;show r+1=_+(k+1);omega,by omega,NEW⟩
        case measure=>simp[intOf];omega
     ·obtain rfl:r=co.length:=by omega
      have q1:¬(co.length:Int)<(co.length:Int):=by omega
      have hk:=hrk.out;have lsub:(Qn (co.drop p.length) l).length=k:=by unfold Qn;rw[List.length_map,List.length_drop];omega
      rw[<-lsub,List.take_length] at oR;have bd1:=bdS.out;have ht2:=ht.out;rw[HS2.out] at ht2
      by_cases hk0:k=0
      ·subst hk0
       have e0:tot=su:=by rw[ht2,if_neg (by omega)];omega
       have RN:=Hd (fun(W:World)=>ZdR M' mc W);have hw9:IntKind.i64.wrap (su+0)=su:=by rw[Int.add_zero];exact IntWalk.i64_in _ (by omega)
       replace e0:=Hd e0;have YP':=Hd YP;clear HH oV oR YP ht2 hk lsub;go_wp2_with (fail);refine(RN.out _).mono ?_;rintro e w9 ⟨rfl,x9⟩;go_wp2_with (fail);go_ret2;rw[e0.out];exact⟨by first | rfl | (congr 2;simp),XP.out.tr x9⟩
      ·have e0:tot=su+Z9 (co.drop p.length) l:=by rw[ht2,if_pos (by omega)]
       have RE:Hid (∀ W,Ext wp W->Calls Tryz.prog 107 #[.slice M' k mc] W fun e w'=>e=.returned (.int .i64 (Z9 (co.drop p.length) l))/\Ext W w'):=by
        intro W x;have hsm:∀ row∈Qn (co.drop p.length) l,∃ q∈co,row=l.map fun c=>q.getD c 0:=fun row h=>by
         obtain⟨q,hq,rfl⟩:=List.mem_map.1 h;exact⟨q,List.mem_of_mem_drop hq,rfl⟩
        have hnum:∀ row∈Qn (co.drop p.length) l,∀ x∈row,0<=x/\x<=2147483647:=fun row h x hx=>by
         obtain⟨q,hq,rfl⟩:=hsm row h;obtain⟨c,hc,rfl⟩:=List.mem_map.1 hx;exact rok.out.get hq (hsub.out c hc)
        have h:=ZdS (Qn (co.drop p.length) l) l.length M' mc W (ZhZ (oV.ext x) (oR.ext x) (fun r hr x hx=>by have:=hnum r hr x hx;omega)) (fun row h=>by obtain⟨q,_,rfl⟩:=hsm row h;simp) (by omega) (by omega) (by omega) (by omega) hnum;rw[show VU (Qn (co.drop p.length) l) l.length=Z9 (co.drop p.length) l from Ze1 _ _,lsub] at h;exact h
       have rb:=RB.out;generalize Z9 (co.drop p.length) l=rp at *;have hw9:IntKind.i64.wrap (su+rp)=su+rp:=IntWalk.i64_in _ (by omega);replace e0:=Hd e0;clear HH oV oR YP ht2 hk lsub;go_wp2_with (fail);refine(RE.out _ XI).mono ?_;rintro e w9 ⟨rfl,x9⟩;go_wp2_with (fail);go_ret2;rw[e0.out];exact⟨rfl,XP.out.tr x9⟩
theorem Ws {m c x:Nat}(h:m<18446744073709551616) : x∈Zb (YG m c)↔x∈Zb m/\x≠c:=by
 rw[Wc h,List.mem_filter]
 constructor
 ·rintro ⟨h1,h2⟩
  exact⟨h1,fun e=>by subst e;simp at h2⟩
 ·rintro ⟨h1,h2⟩
  exact⟨h1,by simp;exact fun e=>h2 e.symm⟩
theorem Qo {n:Nat} : ∀ {p:List Int} {m q:Nat},SubN n m->Yd m p=some q->∃ l:List Nat,p=Zf l/\l.Nodup/\(∀ x∈l,x∈Zb m)/\∀ x,x∈Zb q↔x∈Zb m/\x∉l
 | [],m,q,_,e=>by
  simp only[Yd,Option.some.injEq] at e;subst e;exact⟨[],rfl,List.Pairwise.nil,by simp,by simp⟩
 | c::p,m,q,h,e=>by
  unfold Yd at e;split at e
  ·rename_i hc
   obtain⟨l,rfl,h1,h2,h3⟩:=Qo (h.clr _) e;have hm:c.toNat∈Zb m:=Yl.2 ⟨by omega,hc.2.2⟩;have hnot:c.toNat∉l:=fun hl=>((Ws h.1).1 (h2 _ hl)).2 rfl
   refine⟨c.toNat::l,?_,List.nodup_cons.2 ⟨hnot,h1⟩,?_,fun x=>?_⟩
   ·simp only[Zf,List.map_cons,List.cons.injEq,and_true]
    omega
   ·intro x hx
    rcases List.mem_cons.1 hx with rfl | hx
    ·exact hm
    ·exact((Ws h.1).1 (h2 x hx)).1
   ·rw[h3 x,Ws h.1]
    simp only[List.mem_cons,not_or];exact⟨fun⟨⟨a,b⟩,c⟩=>⟨a,b,c⟩,fun⟨a,b,c⟩=>⟨⟨a,b⟩,c⟩⟩
  ·cases e
theorem Za2 {n:Nat}(h24:n<=24){p:List Int}{q:Nat}(e:Ye n p=some q) : ∃ l:List Nat,p=Zf l/\l.Nodup/\(∀ x∈l,x<n)/\∀ x,x∈Zb q↔x<n/\x∉l:=by
 unfold Ye at e;split at e
 ·cases e
 ·obtain⟨l,h1,h2,h3,h4⟩:=Qo (YM h24) e
  have hm:∀ x,x∈Zb (2^n-1)↔x<n:=fun x=>by rw[We (by omega),List.mem_range]
  exact⟨l,h1,h2,fun x hx=>(hm x).1 (h3 x hx),fun x=>by rw[h4 x,hm x]⟩
theorem Qp {n:Nat}(h24:n<=24){p:List Int}{m c:Nat}(e:Ye n p=some m)(hc:c∈Zb m) : Ye n (p++[(c:Int)])=some (YG m c):=by
 have hlen:=YN h24 e;have hpos:0<(Zb m).length:=List.length_pos_of_mem hc;unfold Ye at e ⊢;rw[if_neg (by omega)] at e;rw[if_neg (by rw[List.length_append,List.length_singleton];omega)];have key:∀ {p:List Int} {m0:Nat},Yd m0 p=some m->Yd m0 (p++[(c:Int)])=some (YG m c):=by
  intro p
  induction p with
  | nil =>
   intro m0 h;simp only[Yd,Option.some.injEq] at h;subst h;have:=Yl.1 hc;show Yd m0 ((c:Int)::[])=_;unfold Yd;rw[if_pos ⟨by omega,by omega,by rw[Int.toNat_natCast];exact this.2⟩,Int.toNat_natCast]
   rfl
  | cons d p ih =>
   intro m0 h;show Yd m0 (d::(p++[(c:Int)]))=_;unfold Yd at h ⊢;split at h
   ·rename_i hd
    rw[if_pos hd];exact ih h
   ·cases h
 exact key e
theorem Zcc : ∀ (rows:List (List Int)) (p q:List Int),ZK rows (p++q)=ZK rows p+ZK (rows.drop p.length) q
 | rows,[],q=>by cases rows<;>simp[ZK]
 | [],c::p,q=>by simp[ZK]
 | r::rows,c::p,q=>by
  have:=Zcc rows p q;simp only[List.cons_append,ZK,List.length_cons,List.drop_succ_cons];omega
theorem Zf6 {c:Nat} : ∀ {rows:List (List Int)} {off:List Int} {b:Int},(∀ (k:Nat) (x:List Int) (o:Int),rows[k]?=some x->off[k]?=some o->0<=x.getD c 0-o)->(0<=b->Xm c b rows off<=b)/\∀ (k:Nat) (x:List Int) (o:Int),rows[k]?=some x->off[k]?=some o->Xm c b rows off<=x.getD c 0-o
 | [],off,b,_=>⟨fun _=>by cases off<;>exact Int.le_refl _,fun k x o h=>by simp at h⟩
 | row::rows,[],b,_=>⟨fun _=>Int.le_refl _,fun k x o _ h=>by simp at h⟩
 | row::rows,o::off,b,h=>by
  have hx:=h 0 row o rfl rfl;have ih:=Zf6 (rows:=rows) (off:=off) (b:=if b<0 then row.getD c 0-o else if row.getD c 0-o<b then row.getD c 0-o else b) (fun k x o h1 h2=>h (k+1) x o h1 h2);unfold Xm;refine⟨fun hb=>?_,fun k x o' h1 h2=>?_⟩
  ·refine Int.le_trans (ih.1 ?_) ?_<;>split<;>(try split)<;>omega
  ·cases k with
   | zero =>
    simp only[List.getElem?_cons_zero,Option.some.injEq] at h1 h2;subst h1 h2;refine Int.le_trans (ih.1 ?_) ?_<;>split<;>(try split)<;>omega
   | succ k=>exact ih.2 k x o' (by simpa using h1) (by simpa using h2)
theorem Jv (row:List Int)(l:List Nat) : Zm (fun c=>row.getD c 0) (-1) l=Xn (-1) (l.map fun c=>row.getD c 0):=(Vf _ _ _).symm
theorem ZgS {rows:List (List Int)}{l q:List Nat}(hq:q.Perm l)(hl:rows.length=l.length)(num:∀ row∈rows,∀ c∈l,0<=row.getD c 0) : Z9 rows l<=ZK rows (Zf q):=by
 have ho:∀ (k:Nat) (x:List Int) (o:Int),rows[k]?=some x->(Ve rows l)[k]?=some o->∀ c∈l,0<=x.getD c 0-o:=fun k x o h1 h2 c hc=>by
  unfold Ve at h2;rw[List.getElem?_map,h1] at h2;obtain rfl:=Option.some.inj h2;have hx:=List.mem_of_getElem? h1;have h3:=(VT (l:=l.map fun c=>x.getD c 0) (b:=-1) fun y hy=>by
   obtain⟨c',hc',rfl⟩:=List.mem_map.1 hy;exact num x hx c' hc').1 (x.getD c 0) (List.mem_map.2 ⟨c,hc,rfl⟩)
  show 0<=x.getD c 0-Zm (fun c=>x.getD c 0) (-1) l;rw[Jv];omega
 have h:=Zdl (F:=fun c=>Xm c (-1) rows (Ve rows l)) (rows:=rows) (off:=Ve rows l) (q:=q) (by rw[hq.length_eq];exact hl) (by simp[Ve,hq.length_eq,hl]) fun k c x o h1 h2 h3=>by
  have hc:c∈l:=hq.mem_iff.1 (List.mem_of_getElem? h3);have:=(Zf6 (c:=c) (b:=-1) (rows:=rows) (off:=Ve rows l) fun k x o a b=>ho k x o a b c hc).2 k x o h1 h2;omega
 have e:=VG (hq.map fun c=>Xm c (-1) rows (Ve rows l));unfold Z9;omega
theorem Q1 {l:List Int}(h:∀ x∈l,0<=x) : 0<=Zg l:=Vo h
theorem Ze2 {rows:List (List Int)}{l:List Nat}(hl:l≠[])(hr:rows≠[])(num:∀ row∈rows,∀ c∈l,0<=row.getD c 0/\row.getD c 0<=2147483647) : 0<=Z9 rows l:=by
 have ho:∀ x∈Ve rows l,0<=x/\x<=2147483647:=fun x hx=>by
  obtain⟨row,h,rfl⟩:=List.mem_map.1 hx;rw[Jv];refine UZ (fun y hy=>?_) (by omega) (.inr (by simpa using hl));obtain⟨c,hc,rfl⟩:=List.mem_map.1 hy;exact num row h c hc
 have hc:∀ x∈l.map (fun c=>Xm c (-1) rows (Ve rows l)),0<=x:=fun x hx=>by
  obtain⟨c,hc,rfl⟩:=List.mem_map.1 hx;refine(Za0 (B:=2147483647) (fun k x o h1 h2=>?_) (by simp[Ve]) (by omega) (.inr hr)).1;have hx:=List.mem_of_getElem? h1;have hob:=ho o (List.mem_of_getElem? h2);unfold Ve at h2;rw[List.getElem?_map,h1] at h2;obtain rfl:=Option.some.inj h2;have h3:=(VT (l:=l.map fun c=>x.getD c 0) (b:=-1) fun y hy=>by
   obtain⟨c',hc',rfl⟩:=List.mem_map.1 hy;exact(num x hx c' hc').1).1 (x.getD c 0) (List.mem_map.2 ⟨c,hc,rfl⟩)
  have h4:=num x hx c hc;simp only[Jv] at hob ⊢;omega
 have h1:=Q1 fun x hx=>(ho x hx).1
 have h2:=Q1 hc;unfold Z9;omega
def Vt (rows:List (List Int))(n:Nat) : Nat->List Int->Int
 | 0,p=>ZK rows p
 | f+1,p=>YL (fun x=>Vt rows n f (p++[x])) (-1) (match Ye n p with | none=>[] | some m=>Zf (Zb m))
theorem U0 {f:Int->Int} : ∀ {l:List Int} {b:Int},(∀ x∈l,0<=f x)->(0<=b\/l≠[])->(YL f b l=b/\0<=b)\/∃ x∈l,YL f b l=f x
 | [],b,_,h=>by
  rcases h with h | h
  ·exact .inl ⟨rfl,h⟩
  ·exact absurd rfl h
 | x::l,b,h,_=>by
  have hx:=h x (by simp);have ih:=U0 (f:=f) (l:=l) (b:=if b<0 then f x else if f x<b then f x else b) (fun y hy=>h y (by simp[hy])) (.inl (by split<;>(try split)<;>omega));unfold YL;rcases ih with⟨e,_⟩ | ⟨y,hy,e⟩
  ·rw[e]
   split
   ·exact .inr ⟨x,by simp,rfl⟩
   ·split
    ·exact .inr ⟨x,by simp,rfl⟩
    ·exact .inl ⟨rfl,by omega⟩
  ·exact .inr ⟨y,by simp[hy],e⟩
theorem Zcd {rows:List (List Int)}(h24:rows.length<=24)(num:∀ row∈rows,∀ c,c<rows.length->0<=row.getD c 0) : ∀ (f:Nat) (p:List Int) (m:Nat),Ye rows.length p=some m->f=rows.length-p.length->∃ q:List Nat,q.Perm (Zb m)/\Vt rows rows.length f p=ZK rows (p++Zf q)
 | 0,p,m,hp,hf=>by
  have hlen:=YN h24 hp;refine⟨[],?_,by simp[Vt,Zf]⟩;rw[List.eq_nil_of_length_eq_zero (show (Zb m).length=0 by omega)]
 | f+1,p,m,hp,hf=>by
  have hlen:=YN h24 hp;have hsub:=(WG h24 hp).2.2;have ih:∀ c∈Zb m,∃ q:List Nat,q.Perm (Zb (YG m c))/\Vt rows rows.length f (p++[(c:Int)])=ZK rows (p++[(c:Int)]++Zf q):=fun c hc =>
   Zcd h24 num f _ _ (Qp h24 hp hc) (by rw[List.length_append,List.length_singleton];omega)
  have hpos:∀ x∈Zf (Zb m),0<=Vt rows rows.length f (p++[x]):=fun x hx=>by
   obtain⟨c,hc,rfl⟩:=List.mem_map.1 hx;obtain⟨q,h1,h2⟩:=ih c hc;rw[h2];have hin:=(WG h24 hp).2.1;have:∀ (rs:List (List Int)) (l:List Int),(∀ row∈rs,row∈rows)->(∀ x∈l,0<=x/\x<rows.length)->0<=ZK rs l:=by
    intro rs
    induction rs with
    | nil=>intro l _ _;simp[ZK]
    | cons r rs ihr =>
     intro l h3 h4
     cases l with
     | nil=>simp[ZK]
     | cons d l =>
      have h5:=h4 d (by simp);have h6:=num r (h3 r (by simp)) d.toNat (by omega);have h7:=ihr l (fun y hy=>h3 y (by simp[hy])) (fun y hy=>h4 y (by simp[hy]));simp only[ZK];omega
   refine this rows _ (fun _ h=>h) fun y hy=>?_
   rcases List.mem_append.1 hy with hy | hy
   ·rcases List.mem_append.1 hy with hy | hy
    ·exact hin y hy
    ·obtain rfl:=List.mem_singleton.1 hy
     have:=hsub.2 c hc;omega
   ·obtain⟨d,hd,rfl⟩:=List.mem_map.1 hy
    have:=hsub.2 d (((Ws hsub.1).1 (h1.mem_iff.1 hd)).1);omega
  have hne:Zb m≠[]:=by
   intro e;rw[e] at hlen;simp at hlen;omega
  have e:Vt rows rows.length (f+1) p=YL (fun x=>Vt rows rows.length f (p++[x])) (-1) (Zf (Zb m)):=by
   show YL _ (-1) (match Ye rows.length p with | none=>[] | some m=>Zf (Zb m))=_;rw[hp]
  rcases U0 (b:=-1) hpos (.inr (by simpa [Zf] using hne)) with⟨_,h⟩ | ⟨x,hx,h⟩
  ·omega
  ·obtain⟨c,hc,rfl⟩:=List.mem_map.1 hx
   obtain⟨q,h1,h2⟩:=ih c hc;refine⟨c::q,?_,?_⟩
   ·refine(h1.cons c).trans ?_
    refine(List.perm_ext_iff_of_nodup ?_ ((ZD m).imp fun h=>Nat.ne_of_lt h)).2 fun x=>?_
    ·refine List.nodup_cons.2 ⟨fun h=>((Ws hsub.1).1 h).2 rfl,(ZD _).imp fun h=>Nat.ne_of_lt h⟩
    ·rw[List.mem_cons,Ws hsub.1]
     constructor
     ·rintro (rfl | ⟨h,_⟩)
      ·exact hc
      ·exact h
     ·intro h
      by_cases e:x=c
      ·exact .inl e
      ·exact .inr ⟨h,e⟩
   ·rw[e,h,h2]
    simp[Zf]
theorem Uj {rows:List (List Int)}(ok:RowsOk rows){p:List Int}{m:Nat}(hp:Ye rows.length p=some m) : 0<=(ZX rows p).1/\(ZX rows p).1<=Vt rows rows.length (rows.length-p.length) p/\(ZX rows p).2=0:=by
 have h24:=ok.n2;have hlen:=YN h24 hp;obtain⟨hpl,hin,hsub⟩:=WG h24 hp;have num:∀ row∈rows,∀ c,c<rows.length->0<=row.getD c 0:=fun row hr c hc=>(ok.get hr hc).1
 obtain⟨q,h1,h2⟩:=Zcd h24 num _ p m hp rfl;have hb:ZX rows p=(ZK rows p+(if p.length<rows.length then Z9 (rows.drop p.length) (Zb m) else 0),0):=by unfold ZX;rw[hp]
 have hc:=(UH (B:=2147483647) (rows:=rows) (p:=p) (by omega) fun row hr c hc=>by
  have:=hin c hc;exact ok.get hr (by omega)).1
 rw[hb,h2,Zcc];simp only
 by_cases hlt:p.length<rows.length
 ·rw[if_pos hlt]
  have h3:=ZgS (rows:=rows.drop p.length) h1 (by rw[List.length_drop];omega) fun row hr c hc=>num row (List.mem_of_mem_drop hr) c (hsub.2 c hc)
  have h4:=Ze2 (rows:=rows.drop p.length) (l:=Zb m) (by intro e;rw[e] at hlen;simp at hlen;omega) (by intro e;have:=congrArg List.length e;rw[List.length_drop] at this;simp at this;omega) fun row hr c hc=>ok.get (List.mem_of_mem_drop hr) (hsub.2 c hc)
  exact⟨by omega,by omega,trivial⟩
 ·rw[if_neg hlt]
  have:q=[]:=List.eq_nil_of_length_eq_zero (by rw[h1.length_eq];omega);subst this;have e:ZK (rows.drop p.length) (Zf [])=0:=by cases rows.drop p.length<;>rfl
  rw[e];exact⟨by omega,by omega,trivial⟩
theorem Ze3 {n:Nat}(h24:n<=24){p:List Int}{m:Nat}(hp:Ye n p=some m)(hl:p.length=n) : ∃ l:List Nat,p=Zf l/\l.Perm (List.range n):=by
 obtain⟨l,h1,h2,h3,h4⟩:=Za2 h24 hp;have hlen:=YN h24 hp;have he:Zb m=[]:=List.eq_nil_of_length_eq_zero (by omega);refine⟨l,h1,(List.perm_ext_iff_of_nodup h2 List.nodup_range).2 fun x=>?_⟩;rw[List.mem_range];refine⟨h3 x,fun hx=>?_⟩
 by_cases hxl:x∈l
 ·exact hxl
 ·exfalso
  have:=(h4 x).2 ⟨hx,hxl⟩;rw[he] at this
  cases this
section
variable {rows:List (List Int)}
theorem Q2 {p:List Int}{m:Nat}(hp:Ye rows.length p=some m) : ∃ l:List Nat,(Xs rows p).1=Zf l/\l.Perm (Zb m)/\(Xs rows p).2=0:=by
 refine⟨Yh (ltC (cfR (rows.getD p.length []))) (Zb m),?_,Yb _ _ _,?_⟩<;>(unfold Xs;rw[hp])
theorem Ze4 {n:Nat} : Ye n []=some (2^n-1):=by
 unfold Ye;rw[if_neg (by simp)]
 rfl
end
end
section
def Xl (rows:List (List Int))(m last:Nat)(cost:Int) : List Int->Option (Nat×Nat×Int)
 | []=>some (m,last,cost)
 | c::p=>if 0<=c/\c<64/\m.testBit c.toNat=true then Xl rows (YG m c.toNat) c.toNat (cost+Za rows last c.toNat) p else none
def Yq (rows:List (List Int))(p:List Int) : Option (Nat×Nat×Int):=if rows.length-1<p.length then none else Xl rows (YG (2^rows.length-1) 0) 0 0 p
def Xu (rows:List (List Int))(p:List Int) : List Int×Int :=
 match Yq rows p with
 | none=>([],1)
 | some (m,last,_)=>(Zf (Yh (ltC (cfR (rows.getD last []))) (Zb m)),0)
def ZY (us:List Nat)(last src:Nat) : List Nat:=if src=last then us else 0::us.filter fun x=>decide (src≠x)
def Yt (rows:List (List Int))(us:List Nat)(last src:Nat) : Int:=max (Zm (fun dst=>Za rows src dst) (-1) (ZY us last src)) 0
def WJ (rows:List (List Int))(us:List Nat)(last dst:Nat) : Int:=Zm (fun src=>Za rows src dst-Yt rows us last src) (-1) ((last::us).filter fun src=>decide (dst∈ZY us last src))
def ZI (rows:List (List Int))(us:List Nat)(last:Nat) : Int:=Zg ((last::us).map fun src=>Yt rows us last src)+Zg ((0::us).map fun dst=>max (WJ rows us last dst) 0)
def Xe (p:Int×Int)(n:Int) : Int×Int:=if n<p.1 then(n,p.1) else if n<p.2 then(p.1,n) else p
def ZE (rows:List (List Int))(us:List Nat)(last u:Nat) : Int×Int :=
 (us.filter fun x=>decide (u≠x)).foldl (fun p v=>Xe p (Za rows u v)) (min (Za rows u last) (Za rows u 0),max (Za rows u last) (Za rows u 0))
def XL (rows:List (List Int))(us:List Nat)(last:Nat) : Int :=
 Zg (us.map fun u=>(ZE rows us last u).1+(ZE rows us last u).2)+Zm (fun u=>Za rows last u) (-1) us+Zm (fun u=>Za rows u 0) (-1) us
def ZZ (rows:List (List Int))(mirror:Bool)(p:List Int) : Int×Int :=
 match Yq rows p with
 | none=>(0,1)
 | some (m,last,c)=>(c+(if Zb m=[] then Za rows last 0 else if mirror=true then max (ZI rows (Zb m) last) ((XL rows (Zb m) last+1) / 2) else ZI rows (Zb m) last),0)
theorem WY {f:Nat->Int} : ∀ {l:List Nat} {b:Int},(∀ x∈l,0<=f x)->(∀ x∈l,Zm f b l<=f x)/\(0<=b->Zm f b l<=b):=fun {l b} h=>by
 have h1:=VT (l:=l.map f) (b:=b) fun y hy=>by
  obtain⟨x,hx,rfl⟩:=List.mem_map.1 hy;exact h x hx
 rw[Vf] at h1;exact⟨fun x hx=>h1.1 (f x) (List.mem_map.2 ⟨x,hx,rfl⟩),h1.2⟩
theorem Za3 {f:Nat->Int}{B:Int}{l:List Nat}(h:∀ x∈l,0<=f x/\f x<=B)(hl:l≠[])(hB:0<=B) : 0<=Zm f (-1) l/\Zm f (-1) l<=B:=by
 rw[<-Vf];refine UZ (fun y hy=>?_) (by omega) (.inr (by simpa using hl));obtain⟨x,hx,rfl⟩:=List.mem_map.1 hy;exact h x hx
section
variable {rows:List (List Int)} {us:List Nat} {last:Nat}
theorem ZjU {B:Int}(num:∀ a b,(a=last\/a∈us)->(b=0\/b∈us)->0<=Za rows a b/\Za rows a b<=B){src dst:Nat}(hs:src∈last::us)(hd:dst∈ZY us last src) : Yt rows us last src+max (WJ rows us last dst) 0<=Za rows src dst:=by
 have hcol:∀ {s d:Nat},d∈ZY us last s->d=0\/d∈us:=fun {s d} h=>by
  unfold ZY at h;split at h
  ·exact .inr h
  ·rcases List.mem_cons.1 h with h | h
   ·exact .inl h
   ·exact .inr (List.mem_filter.1 h).1
 have hsrc:∀ {s:Nat},s∈last::us->s=last\/s∈us:=fun {s} h=>List.mem_cons.1 h
 have hoff:∀ s∈last::us,∀ d∈ZY us last s,Yt rows us last s<=Za rows s d/\0<=Yt rows us last s:=fun s h1 d h2=>by
  have h3:=(WY (f:=fun dst=>Za rows s dst) (l:=ZY us last s) (b:=-1) fun x hx=>(num s x (hsrc h1) (hcol hx)).1).1 d h2;have h4:=(num s d (hsrc h1) (hcol h2)).1;unfold Yt;omega
 have h1:=hoff src hs dst hd;have h2:=(WY (f:=fun src=>Za rows src dst-Yt rows us last src) (l:=(last::us).filter fun src=>decide (dst∈ZY us last src)) (b:=-1) fun x hx=>by
  have h3:=List.mem_filter.1 hx;have h4:=hoff x h3.1 dst (of_decide_eq_true h3.2);omega).1 src (List.mem_filter.2 ⟨hs,decide_eq_true hd⟩)
 unfold WJ;omega
theorem Zf7 {F G:Nat->Int} : ∀ (q:List Nat) (s:Nat),(∀ a b,(a,b)∈(s::q).zip (q++[0])->F a+G b<=Za rows a b)->Zg ((s::q).map F)+Zg ((q++[0]).map G)<=Yn rows s q
 | [],s,h=>by
  have:=h s 0 (by simp);simp only[List.map_cons,List.map_nil,List.nil_append,Zg,Yn];omega
 | u::q,s,h=>by
  have h1:=h s u (by simp);have h2:=Zf7 q u fun a b hab=>h a b (by
   simp only[List.cons_append,List.zip_cons_cons,List.mem_cons];exact .inr hab)
  simp only[List.map_cons,List.cons_append,Zg,Yn] at h2 ⊢;omega
theorem Zf8 : ∀ (q:List Nat) (s a b:Nat),(a,b)∈(s::q).zip (q++[0])->(s::q).Nodup->a∈s::q/\(b=0\/b∈q)/\(a=s->q=[]\/b∈q)/\(b∈q->a≠b\/b=0)
 | [],s,a,b,h,_=>by
  simp at h;obtain⟨rfl,rfl⟩:=h;exact⟨by simp,.inl rfl,fun _=>.inl rfl,fun h=>by cases h⟩
 | u::q,s,a,b,h,hn=>by
  have hn':=List.nodup_cons.1 hn;simp only[List.cons_append,List.zip_cons_cons,List.mem_cons,Prod.mk.injEq] at h;rcases h with⟨rfl,rfl⟩ | h
  ·exact⟨by simp,.inr (by simp),fun _=>.inr (by simp),fun _=>.inl fun e=>hn'.1 (by simp[e])⟩
  ·have ih:=Zf8 q u a b h hn'.2
   refine⟨List.mem_cons_of_mem _ ih.1,?_,fun e=>?_,fun hb=>?_⟩
   ·rcases ih.2.1 with h | h
    ·exact .inl h
    ·exact .inr (by simp[h])
   ·subst e
    exact absurd ih.1 hn'.1
   ·rcases List.mem_cons.1 hb with rfl | hb
    ·rcases ih.2.1 with h0 | h0
     ·exact .inr h0
     ·exact absurd h0 (List.nodup_cons.1 hn'.2).1
    ·exact ih.2.2.2 hb
theorem Ze5 {B:Int}(num:∀ a b,(a=last\/a∈us)->(b=0\/b∈us)->0<=Za rows a b/\Za rows a b<=B)(hn:(last::us).Nodup)(hu:us≠[])(h0:0∉us){q:List Nat}(hq:q.Perm us) : ZI rows us last<=Yn rows last q:=by
 have hnq:(last::q).Nodup:=(hq.cons last).nodup_iff.2 hn;have h:=Zf7 (rows:=rows) (F:=fun src=>Yt rows us last src) (G:=fun dst=>max (WJ rows us last dst) 0) q last fun a b hab=>by
  obtain⟨z1,z2,z3,z4⟩:=Zf8 q last a b hab hnq;refine ZjU num ((hq.cons last).mem_iff.1 z1) ?_;unfold ZY
  by_cases e:a=last
  ·rw[if_pos e]
   rcases z3 e with h | h
   ·exfalso
    rw[h] at hq;exact hu (List.Perm.eq_nil (hq.symm))
   ·exact hq.mem_iff.1 h
  ·rw[if_neg e]
   rcases z2 with rfl | h
   ·simp
   ·refine List.mem_cons_of_mem _ (List.mem_filter.2 ⟨hq.mem_iff.1 h,decide_eq_true ?_⟩)
    rcases z4 h with h' | h'
    ·exact h'
    ·subst h'
     exact absurd (hq.mem_iff.1 h) h0
 have e1:=VG (((hq.cons last)).map fun src=>Yt rows us last src);have e2:Zg ((q++[0]).map fun dst=>max (WJ rows us last dst) 0)=Zg ((0::us).map fun dst=>max (WJ rows us last dst) 0) :=
  VG (((List.perm_append_comm (l₁:=q) (l₂:=[0])).trans (hq.cons 0)).map _)
 unfold ZI;rw[<-e1,<-e2];exact h
def Two (p:Int×Int)(l:List Int) : Prop:=p.1<=p.2/\(∀ x∈l,p.1<=x)/\l.Pairwise fun x y=>p.1+p.2<=x+y
theorem Two.put {p:Int×Int}{l:List Int}(h:Two p l)(n:Int) : Two (Xe p n) (l++[n]):=by
 obtain⟨h1,h2,h3⟩:=h;have key:∀ {q:Int×Int},q.1<=q.2->q.1<=p.1->q.1<=n->q.1+q.2<=p.1+p.2->(∀ x∈l,q.1+q.2<=x+n)->Two q (l++[n]):=by
  intro q k1 k2 k3 k4 k5;refine⟨k1,fun x hx=>?_,List.pairwise_append.2 ⟨h3.imp fun hxy=>by omega,List.pairwise_singleton _ _,fun x hx y hy=>?_⟩⟩
  ·rcases List.mem_append.1 hx with hx | hx
   ·have:=h2 x hx;omega
   ·obtain rfl:=List.mem_singleton.1 hx;exact k3
  ·obtain rfl:=List.mem_singleton.1 hy
   exact k5 x hx
 unfold Xe;split
 ·exact key (by simp only;omega) (by simp only;omega) (by simp only;omega) (by simp only;omega) fun x hx=>by have:=h2 x hx;simp only;omega
 ·split
  ·exact key (by simp only;omega) (by simp only;omega) (by simp only;omega) (by simp only;omega) fun x hx=>by have:=h2 x hx;simp only;omega
  ·exact key (by omega) (by omega) (by omega) (by omega) fun x hx=>by have:=h2 x hx;omega
theorem ZdT (f:Nat->Int) : ∀ (vs:List Nat) (p:Int×Int) (l:List Int),Two p l->Two (vs.foldl (fun p v=>Xe p (f v)) p) (l++vs.map f)
 | [],p,l,h=>by simpa using h
 | v::vs,p,l,h=>by
  have:=ZdT f vs (Xe p (f v)) (l++[f v]) (h.put (f v))
  simpa using this
theorem ZgT (rows:List (List Int))(us:List Nat)(last u:Nat) : Two (ZE rows us last u) ([Za rows u last,Za rows u 0]++(us.filter fun x=>decide (u≠x)).map fun v=>Za rows u v):=by
 refine ZdT (fun v=>Za rows u v) _ _ _ ⟨by simp only;omega,fun x hx=>?_,?_⟩
 ·simp at hx
  rcases hx with rfl | rfl<;>(simp only;omega)
 ·simp only[List.pairwise_cons,List.mem_singleton,forall_eq,List.not_mem_nil,false_imp_iff,implies_true,List.Pairwise.nil,and_true]
  omega
theorem Zf9 {u a b:Nat}(hu:us.Nodup)(ha:a=last\/(a∈us/\u≠a))(hb:b=0\/(b∈us/\u≠b))(hab:a∈us->b∈us->a≠b)(hl:last∉us)(h0:0∉us) : (ZE rows us last u).1+(ZE rows us last u).2<=Za rows u a+Za rows u b:=by
 obtain⟨_,_,h3⟩:=ZgT rows us last u;rw[List.pairwise_append] at h3;obtain⟨k1,k2,k3⟩:=h3;have m:∀ {x:Nat},x∈us->u≠x->Za rows u x∈(us.filter fun x=>decide (u≠x)).map fun v=>Za rows u v:=fun {x} h1 h2=>List.mem_map.2 ⟨x,List.mem_filter.2 ⟨h1,decide_eq_true h2⟩,rfl⟩
 rcases ha with rfl | ⟨a1,a2⟩
 ·rcases hb with rfl | ⟨b1,b2⟩
  ·simp only[List.pairwise_cons,List.mem_singleton,forall_eq] at k1
   exact k1.1
  ·exact k3 _ (by simp) _ (m b1 b2)
 ·rcases hb with rfl | ⟨b1,b2⟩
  ·have:=k3 (Za rows u 0) (by simp) _ (m a1 a2)
   omega
  ·have hne:=hab a1 b1
   rw[List.pairwise_map] at k2;have hfn:(us.filter fun x=>decide (u≠x)).Nodup:=List.Pairwise.filter _ hu;obtain⟨i,hi,ei⟩:=List.mem_iff_getElem.1 (List.mem_filter.2 ⟨a1,decide_eq_true a2⟩:a∈us.filter fun x=>decide (u≠x));obtain⟨j,hj,ej⟩:=List.mem_iff_getElem.1 (List.mem_filter.2 ⟨b1,decide_eq_true b2⟩:b∈us.filter fun x=>decide (u≠x));rcases Nat.lt_trichotomy i j with h | h | h
   ·have:=List.pairwise_iff_getElem.1 k2 i j hi hj h
    rw[ei,ej] at this;exact this
   ·subst h
    exact absurd (ei.symm.trans ej) hne
   ·have:=List.pairwise_iff_getElem.1 k2 j i hj hi h
    rw[ei,ej] at this;omega
end
end
section
section
variable {rows:List (List Int)} {us:List Nat} {last:Nat}
def ZdU (rows:List (List Int))(us:List Nat)(last u:Nat) : Int:=(ZE rows us last u).1+(ZE rows us last u).2
def Zh0 (rows:List (List Int))(us:List Nat)(last:Nat) : Nat->List Nat->Prop
 | _,[]=>True
 | s,[u]=>ZdU rows us last u<=Za rows s u+Za rows u 0
 | s,u::v::q=>ZdU rows us last u<=Za rows s u+Za rows u v/\Zh0 rows us last u (v::q)
theorem Zce : ∀ (q:List Nat) (s u:Nat),Zh0 rows us last s (u::q)->Zg ((u::q).map (ZdU rows us last))+Za rows s u+Za rows ((u::q).getLast (by simp)) 0<=2*Yn rows s (u::q)
 | [],s,u,h=>by
  simp only[Zh0] at h;simp only[List.map_cons,List.map_nil,Zg,List.getLast_singleton,Yn];omega
 | v::q,s,u,h=>by
  simp only[Zh0] at h;have ih:=Zce q u v h.2;have e:(u::v::q).getLast (by simp)=(v::q).getLast (by simp):=List.getLast_cons (by simp);rw[e];simp only[List.map_cons,Zg,Yn] at ih ⊢;omega
theorem Zga (sym:∀ a b,(a=last\/a∈us)->(b=last\/b∈us)->Za rows a b=Za rows b a)(hu:us.Nodup)(hl:last∉us)(h0:0∉us) : ∀ (q:List Nat) (s:Nat),q.Nodup->(∀ x∈q,x∈us)->s∉q->(s=last\/s∈us)->Zh0 rows us last s q
 | [],_,_,_,_,_=>trivial
 | [u],s,_,hq,hs,hsl=>by
  have huu:=hq u (by simp);have hne:u≠s:=fun e=>hs (by simp[e])
  have:=Zf9 (rows:=rows) (us:=us) (last:=last) (u:=u) (a:=s) (b:=0) hu (hsl.imp id fun h=>⟨h,hne⟩) (.inl rfl) (fun _ h=>absurd h h0) hl h0;rw[sym u s (.inr huu) hsl] at this;exact this
 | u::v::q,s,hn,hq,hs,hsl=>by
  have huu:=hq u (by simp);have hvv:=hq v (by simp);have hne:u≠s:=fun e=>hs (by simp[e])
  have hn':=List.nodup_cons.1 hn;have huv:u≠v:=fun e=>hn'.1 (by simp[e])
  have hsv:s≠v:=fun e=>hs (by simp[e])
  have:=Zf9 (rows:=rows) (us:=us) (last:=last) (u:=u) (a:=s) (b:=v) hu (hsl.imp id fun h=>⟨h,hne⟩) (.inr ⟨hvv,huv⟩) (fun _ _=>hsv) hl h0;rw[sym u s (.inr huu) hsl] at this;exact⟨this,Zga sym hu hl h0 (v::q) u hn'.2 (fun x hx=>hq x (by simp[hx])) hn'.1 (.inr huu)⟩
theorem Zh1 (num:∀ a b,(a=last\/a∈us)->(b=0\/b∈us)->0<=Za rows a b)(sym:∀ a b,(a=last\/a∈us)->(b=last\/b∈us)->Za rows a b=Za rows b a)(hu:us.Nodup)(hl:last∉us)(h0:0∉us){q:List Nat}(hq:q.Perm us)(hne:us≠[]) : XL rows us last<=2*Yn rows last q:=by
 match q,hq with
 | [],hq=>exact absurd (List.Perm.eq_nil hq.symm) hne
 | u::q,hq =>
  have hsub:∀ x∈u::q,x∈us:=fun x hx=>hq.mem_iff.1 hx
  have h1:=Zce q last u (Zga sym hu hl h0 (u::q) last (hq.nodup_iff.2 hu) hsub (fun h=>hl (hsub _ h)) (.inl rfl));have h2:=(WY (f:=fun u=>Za rows last u) (l:=us) (b:=-1) fun x hx=>num last x (.inl rfl) (.inr hx)).1 u (hsub u (by simp));have h3:=(WY (f:=fun u=>Za rows u 0) (l:=us) (b:=-1) fun x hx=>num x 0 (.inr hx) (.inl rfl)).1 _ (hsub _ (List.getLast_mem (l:=u::q) (by simp)));have e:=VG (hq.map (ZdU rows us last));have e2:Zg (us.map (ZdU rows us last))=Zg (us.map fun u=>(ZE rows us last u).1+(ZE rows us last u).2):=rfl;unfold XL;rw[<-e2,<-e];omega
end
def UK : Nat->List Int->Nat
 | s,[]=>s
 | _,c::p=>UK c.toNat p
def UM (rows:List (List Int)) : Nat->List Int->Int
 | _,[]=>0
 | s,c::p=>Za rows s c.toNat+UM rows c.toNat p
theorem ZdV (rows:List (List Int)) : ∀ (p:List Int) (m last:Nat) (cost:Int),Xl rows m last cost p=(Yd m p).map fun q=>(q,UK last p,cost+UM rows last p)
 | [],m,last,cost=>by simp[Xl,Yd,UK,UM]
 | c::p,m,last,cost=>by
  unfold Xl Yd;split
  ·rw[ZdV rows p]
   cases Yd (YG m c.toNat) p with
   | none=>rfl
   | some q =>
    simp only[Option.map_some,UK,UM,Option.some.injEq,Prod.mk.injEq,true_and];omega
  ·rfl
theorem VW : ∀ (l:List Nat) (s:Nat),UK s (Zf l)=s\/UK s (Zf l)∈l
 | [],s=>.inl rfl
 | c::l,s=>by
  have ih:=VW l c;simp only[Zf,List.map_cons,UK,Int.toNat_natCast] at ih ⊢;rcases ih with h | h
  ·right;rw[h];simp
  ·right;simp[h]
theorem Jw (rows:List (List Int)) : ∀ (l q:List Nat) (s:Nat),Yn rows s (l++q)=UM rows s (Zf l)+Yn rows (UK s (Zf l)) q
 | [],q,s=>by simp[UM,Zf,UK]
 | c::l,q,s=>by
  have:=Jw rows l q c;simp only[List.cons_append,Yn,Zf,List.map_cons,UM,UK,Int.toNat_natCast] at this ⊢;omega
def Vi (n:Nat) : Nat:=YG (2^n-1) 0
theorem Jy {n:Nat}(h:n<=24) : SubN n (Vi n):=(YM h).clr 0
theorem Zcf {n:Nat}(h:n<=24){x:Nat} : x∈Zb (Vi n)↔x<n/\x≠0:=by
 unfold Vi;rw[Ws (YM h).1,We (by omega),List.mem_range]
theorem ZgU {n:Nat}(h1:1<=n)(h:n<=24) : (Zb (Vi n)).length=n-1:=by
 have h2:=Vy (ZD (2^n-1)) (i:=0) (by rw[We (by omega)];simp;omega);rw[<-Wc (YM h).1,We (by omega),List.length_range] at h2;unfold Vi;omega
structure WalkOk (rows:List (List Int))(p:List Int)(m last:Nat)(cost:Int)(l:List Nat) : Prop where
 eq:p=Zf l
 nodup:l.Nodup
 inn:∀ x∈l,x<rows.length/\x≠0
 rest:∀ x,x∈Zb m↔(x<rows.length/\x≠0)/\x∉l
 len:(Zb m).length+l.length=rows.length-1
 sub:SubN rows.length m
 last:last=UK 0 (Zf l)
 cost:cost=UM rows 0 (Zf l)
theorem XM {rows:List (List Int)}(h1:1<=rows.length)(h24:rows.length<=24){p:List Int}{m last:Nat}{cost:Int}(h:Yq rows p=some (m,last,cost)) : ∃ l,WalkOk rows p m last cost l:=by
 unfold Yq at h;split at h
 ·cases h
 ·rw[ZdV] at h
  cases hf:Yd (YG (2^rows.length-1) 0) p with
  | none=>rw[hf] at h;cases h
  | some q =>
   rw[hf] at h;simp only[Option.map_some,Option.some.injEq,Prod.mk.injEq] at h;obtain⟨rfl,rfl,rfl⟩:=h;have hs:=Jy h24;obtain⟨l,rfl,a1,a2,a3⟩:=Qo hs hf;have a4:=Jt hs hf;rw[ZgU h1 h24,Zh] at a4;exact⟨l,rfl,a1,fun x hx=>(Zcf h24).1 (a2 x hx),fun x=>by rw[a3 x,Zcf h24],a4,Jq hs hf,rfl,by omega⟩
theorem Za4 (rows:List (List Int)){c:Nat}(hc64:c<64) : ∀ {p:List Int} {m0 m s last:Nat} {c0 cost:Int},Xl rows m0 s c0 p=some (m,last,cost)->m.testBit c=true->Xl rows m0 s c0 (p++[(c:Int)])=some (YG m c,c,cost+Za rows last c)
 | [],m0,m,s,last,c0,cost,h,hb=>by
  simp only[Xl,Option.some.injEq,Prod.mk.injEq] at h;obtain⟨rfl,rfl,rfl⟩:=h;show Xl rows m0 s c0 ((c:Int)::[])=_;unfold Xl;rw[if_pos ⟨by omega,by omega,by rw[Int.toNat_natCast];exact hb⟩,Int.toNat_natCast]
  rfl
 | d::p,m0,m,s,last,c0,cost,h,hb=>by
  show Xl rows m0 s c0 (d::(p++[(c:Int)]))=_;unfold Xl at h ⊢;split at h
  ·rename_i hd
   rw[if_pos hd];exact Za4 rows hc64 h hb
  ·cases h
theorem Qq {rows:List (List Int)}(h1:1<=rows.length)(h24:rows.length<=24){p:List Int}{m last:Nat}{cost:Int}(h:Yq rows p=some (m,last,cost)){c:Nat}(hc:c∈Zb m) : Yq rows (p++[(c:Int)])=some (YG m c,c,cost+Za rows last c):=by
 obtain⟨l,W⟩:=XM h1 h24 h;have hpos:0<(Zb m).length:=List.length_pos_of_mem hc;have hlen:=W.len;have hpl:p.length=l.length:=by rw[W.eq,Zh]
 have hb:=Yl.1 hc;unfold Yq at h ⊢;rw[if_neg (by omega)] at h;rw[if_neg (by rw[List.length_append,List.length_singleton];omega)];exact Za4 rows hb.1 h hb.2
def Vu (rows:List (List Int)) : Nat->List Int->Int
 | 0,p=>Yn rows 0 (p.map Int.toNat)
 | f+1,p=>YL (fun x=>Vu rows f (p++[x])) (-1) (match Yq rows p with | none=>[] | some (m,_,_)=>Zf (Zb m))
theorem Vj : ∀ l:List Nat,(Zf l).map Int.toNat=l
 | []=>rfl
 | c::l=>by
  have:=Vj l;simp only[Zf,List.map_cons,Int.toNat_natCast] at this ⊢;rw[this]
theorem Zcg {rows:List (List Int)}(num:∀ a b,a<rows.length->b<rows.length->0<=Za rows a b) : ∀ (q:List Nat) (s:Nat),s<rows.length->(∀ x∈q,x<rows.length)->0<=Yn rows s q
 | [],s,hs,_=>num s 0 hs (by omega)
 | u::q,s,hs,h=>by
  have h1:=num s u hs (h u (by simp));have h2:=Zcg num q u (h u (by simp)) fun x hx=>h x (by simp[hx])
  simp only[Yn];omega
theorem Za5 {rows:List (List Int)}(h1:1<=rows.length)(h24:rows.length<=24)(num:∀ a b,a<rows.length->b<rows.length->0<=Za rows a b) : ∀ (f:Nat) (p:List Int) (m last:Nat) (cost:Int) (l:List Nat),Yq rows p=some (m,last,cost)->WalkOk rows p m last cost l->f=rows.length-1-p.length->∃ q:List Nat,q.Perm (Zb m)/\Vu rows f p=Yn rows 0 (l++q)
 | 0,p,m,last,cost,l,hp,W,hf=>by
  have hlen:=W.len;have hpl:p.length=l.length:=by rw[W.eq,Zh]
  refine⟨[],?_,by rw[List.append_nil];show Yn rows 0 (p.map Int.toNat)=_;rw[W.eq,Vj]⟩;rw[List.eq_nil_of_length_eq_zero (show (Zb m).length=0 by omega)]
 | f+1,p,m,last,cost,l,hp,W,hf=>by
  have hlen:=W.len;have hpl:p.length=l.length:=by rw[W.eq,Zh]
  have ih:∀ c∈Zb m,∃ q:List Nat,q.Perm (Zb (YG m c))/\Vu rows f (p++[(c:Int)])=Yn rows 0 ((l++[c])++q):=fun c hc=>by
   have hs:=Qq h1 h24 hp hc;obtain⟨l',W'⟩:=XM h1 h24 hs;have e:l'=l++[c]:=by
    have:=W'.eq;rw[W.eq] at this;have h2:=congrArg (List.map Int.toNat) this;rw[Vj] at h2;rw[<-h2,List.map_append,Vj]
    rfl
   subst e;exact Za5 h1 h24 num f _ _ _ _ _ hs W' (by rw[List.length_append,List.length_singleton];omega)
  have hpos:∀ x∈Zf (Zb m),0<=Vu rows f (p++[x]):=fun x hx=>by
   obtain⟨c,hc,rfl⟩:=List.mem_map.1 hx;obtain⟨q,a1,a2⟩:=ih c hc;rw[a2];refine Zcg num _ _ (by omega) fun y hy=>?_
   rcases List.mem_append.1 hy with hy | hy
   ·rcases List.mem_append.1 hy with hy | hy
    ·exact(W.inn y hy).1
    ·obtain rfl:=List.mem_singleton.1 hy
     exact((W.rest y).1 hc).1.1
   ·exact((W.rest y).1 ((Ws W.sub.1).1 (a1.mem_iff.1 hy)).1).1.1
  have hne:Zb m≠[]:=by
   intro e;rw[e] at hlen;simp at hlen;omega
  have e:Vu rows (f+1) p=YL (fun x=>Vu rows f (p++[x])) (-1) (Zf (Zb m)):=by
   show YL _ (-1) (match Yq rows p with | none=>[] | some (m,_,_)=>Zf (Zb m))=_;rw[hp]
  rcases U0 (b:=-1) hpos (.inr (by simpa [Zf] using hne)) with⟨_,h⟩ | ⟨x,hx,h⟩
  ·omega
  ·obtain⟨c,hc,rfl⟩:=List.mem_map.1 hx
   obtain⟨q,a1,a2⟩:=ih c hc;refine⟨c::q,?_,?_⟩
   ·refine(a1.cons c).trans ?_
    refine(List.perm_ext_iff_of_nodup ?_ ((ZD m).imp fun h=>Nat.ne_of_lt h)).2 fun x=>?_
    ·refine List.nodup_cons.2 ⟨fun h=>((Ws W.sub.1).1 h).2 rfl,(ZD _).imp fun h=>Nat.ne_of_lt h⟩
    ·rw[List.mem_cons,Ws W.sub.1]
     constructor
     ·rintro (rfl | ⟨h,_⟩)
      ·exact hc
      ·exact h
     ·intro h
      by_cases e:x=c
      ·exact .inl e
      ·exact .inr ⟨h,e⟩
   ·rw[e,h,a2]
    simp
theorem Q3 {rows:List (List Int)}{mirror:Bool}(h1:1<=rows.length)(h24:rows.length<=24)(num:∀ a b,a<rows.length->b<rows.length->0<=Za rows a b/\Za rows a b<=2147483647)(sym:mirror=true->∀ a b,a<rows.length->b<rows.length->Za rows a b=Za rows b a){p:List Int}{m last:Nat}{cost:Int}(hp:Yq rows p=some (m,last,cost)) :
  0<=(ZZ rows mirror p).1/\(ZZ rows mirror p).1<=Vu rows (rows.length-1-p.length) p/\(ZZ rows mirror p).2=0:=by
 obtain⟨l,W⟩:=XM h1 h24 hp;obtain⟨q,a1,a2⟩:=Za5 h1 h24 (fun a b x y=>(num a b x y).1) _ p m last cost l hp W rfl;have hll:last<rows.length:=by
  rw[W.last];rcases VW l 0 with h | h
  ·rw[h];omega
  ·exact(W.inn _ h).1
 have hus:∀ x∈Zb m,x<rows.length:=fun x hx=>((W.rest x).1 hx).1.1
 have h0:0∉Zb m:=fun h=>((W.rest 0).1 h).1.2 rfl
 have hnl:last∉Zb m:=fun h=>by
  have h2:=(W.rest last).1 h;rcases VW l 0 with h3 | h3
  ·exact h2.1.2 (by rw[W.last,h3])
  ·exact h2.2 (by rw[W.last];exact h3)
 have hnd:(Zb m).Nodup:=(ZD m).imp fun h=>Nat.ne_of_lt h
 have hA:∀ a,(a=last\/a∈Zb m)->a<rows.length:=fun a h=>h.elim (fun e=>by rw[e];exact hll) (hus a)
 have num':∀ a b,(a=last\/a∈Zb m)->(b=0\/b∈Zb m)->0<=Za rows a b/\Za rows a b<=2147483647:=fun a b ha hb=>num a b (hA a ha) (hb.elim (fun e=>by omega) (hus b))
 have hway:0<=cost:=by
  rw[W.cost];have key:∀ (l:List Nat) (s:Nat),s<rows.length->(∀ x∈l,x<rows.length)->0<=UM rows s (Zf l):=by
   intro l
   induction l with
   | nil=>intro s _ _;simp[UM,Zf]
   | cons c l ih =>
    intro s hs h;have h2:=(num s c hs (h c (by simp))).1;have h3:=ih c (h c (by simp)) fun x hx=>h x (by simp[hx])
    simp only[Zf,List.map_cons,UM,Int.toNat_natCast] at h3 ⊢;omega
  exact key l 0 (by omega) fun x hx=>(W.inn x hx).1
 have hb:ZZ rows mirror p=(cost+(if Zb m=[] then Za rows last 0 else if mirror=true then max (ZI rows (Zb m) last) ((XL rows (Zb m) last+1) / 2) else ZI rows (Zb m) last),0):=by unfold ZZ;rw[hp]
 rw[hb,a2,Jw,<-W.last,<-W.cost];simp only
 by_cases he:Zb m=[]
 ·rw[if_pos he]
  have:q=[]:=List.Perm.eq_nil (he ▸ a1);subst this;have:=(num' last 0 (.inl rfl) (.inl rfl)).1;exact⟨by omega,by simp only[Yn];omega,trivial⟩
 ·rw[if_neg he]
  have r1:=Ze5 num' (List.nodup_cons.2 ⟨hnl,hnd⟩) he h0 a1;have r0:0<=ZI rows (Zb m) last:=by
   have k1:0<=Zg ((last::Zb m).map fun src=>Yt rows (Zb m) last src):=Q1 fun x hx=>by
    obtain⟨y,_,rfl⟩:=List.mem_map.1 hx;unfold Yt;omega
   have k2:0<=Zg ((0::Zb m).map fun dst=>max (WJ rows (Zb m) last dst) 0):=Q1 fun x hx=>by
    obtain⟨y,_,rfl⟩:=List.mem_map.1 hx;omega
   unfold ZI;omega
  cases hm:mirror with
  | false=>exact⟨by simp only[if_neg (show ¬(false=true) by simp)];omega,by simp only[if_neg (show ¬(false=true) by simp)];omega,trivial⟩
  | true =>
   have r2:=Zh1 (fun a b x y=>(num' a b x y).1) (fun a b ha hb=>sym hm a b (hA a ha) (hA b hb)) hnd hnl h0 a1 he;simp only[if_true];refine⟨by omega,by omega,trivial⟩
end
section
open Go.RowKit Go.ChangeShapes Go.WideShapes Go.ChangeAt Go.Deep
def WT : Int->List Int->Int
 | b,[]=>b
 | b,x::l=>WT (if 0<=x/\(b<0\/x<b) then x else b) l
theorem Zch {B:Int} : ∀ {l:List Int} {b:Int},(∀ x∈l,x<=B)->b<=B->WT b l<=B
 | [],b,_,h=>h
 | x::l,b,h,hb=>by
  unfold WT;refine Zch (fun y hy=>h y (by simp[hy])) ?_;have:=h x (by simp);split<;>omega
def Zad (c:Nat)(b:Int) : List (List Int)->List Int->Int
 | row::rows,o::off=>Zad c (if 0<=row.getD c 0/\(b<0\/row.getD c 0-o<b) then row.getD c 0-o else b) rows off
 | _,_=>b
theorem Zgb {c:Nat}{B:Int} : ∀ {rows:List (List Int)} {off:List Int} {b:Int},(∀ row∈rows,row.getD c 0<=B)->(∀ o∈off,0<=o)->b<=B->Zad c b rows off<=B
 | [],off,b,_,_,h=>by cases off<;>exact h
 | _::_,[],b,_,_,h=>h
 | row::rows,o::off,b,hr,ho,hb=>by
  have h1:=hr row (by simp);have h2:=ho o (by simp);unfold Zad;refine Zgb (fun q hq=>hr q (by simp[hq])) (fun q hq=>ho q (by simp[hq])) ?_;split<;>omega
def Qr (ms:List (List Int)) : List Int:=ms.map fun row=>max (WT (-1) row) 0
def Qa (ms:List (List Int))(L:Nat) : List Int:=(List.range L).map fun c=>max (Zad c (-1) ms (Qr ms)) 0
def UN (ms:List (List Int))(L:Nat) : Int:=Zg (Qr ms)+Zg (Qa ms L)
theorem ZcV (ms:List (List Int))(L:Nat)(M:Option Addr)(mc:Nat)(w:World)(hM:RdE 1 RInts w M ms)(hl:∀ row∈ms,row.length=L)(h0:0<L)(hL:L<=24)(hn0:0<ms.length)(hn:ms.length<=24)(num:∀ row∈ms,∀ x∈row,x<=2147483647) :
  Calls Tryz.prog 107 #[.slice M ms.length mc] w fun e w'=>e=.returned (.int .i64 (UN ms L))/\Ext w w':=by
 have LO:(Qr ms).length=ms.length:=by simp[Qr]
 have OB:∀ x∈Qr ms,0<=x/\x<=2147483647:=fun x hx=>by
  obtain⟨row,hr,rfl⟩:=List.mem_map.1 hx;have:=Zch (b:=-1) (num row hr) (by omega);omega
 have OG:∀ k row,ms[k]?=some row->(Qr ms)[k]?=some (max (WT (-1) row) 0):=fun k row h=>by unfold Qr;rw[List.getElem?_map,h];rfl
 have CB:∀ x∈Qa ms L,0<=x/\x<=2147483647:=fun x hx=>by
  obtain⟨c,hc,rfl⟩:=List.mem_map.1 hx;have:=Zgb (c:=c) (b:=-1) (B:=2147483647) (rows:=ms) (off:=Qr ms) (fun row hr=>by
   have hcl:c<row.length:=by rw[hl row hr];exact List.mem_range.1 hc
   have e:row.getD c 0=row[c]:=by simp[List.getD,hcl]
   rw[e];exact num row hr _ (List.getElem_mem hcl)) (fun o ho=>(OB o ho).1) (by omega)
  omega
 have CG:∀ c,c<L->(Qa ms L)[c]?=some (max (Zad c (-1) ms (Qr ms)) 0):=fun c hc=>by simp[Qa,hc]
 have LC:(Qa ms L).length=L:=by simp[Qa]
 have TOT:Hid (UN ms L=Zg (Qr ms)+Zg (Qa ms L)):=rfl;generalize UN ms L=tot at *;have SB:=WH OB (by omega);have SC:=WH CB (by omega);have LZ:=Za1 (Qr ms);generalize Qr ms=off at *;generalize Qa ms L=cols at *;have START:Hid (Ext w (w.alloc (.cells #[.int .i64 0,.int .i64 0,.int .i64 0,.int .i64 0,.int .i64 0,.int .i64 0,.int .i64 0,.int .i64 0,.int .i64 0,.int .i64 0,.int .i64 0,.int .i64 0,.int .i64 0,.int .i64 0,.int .i64 0,.int .i64 0,.int .i64 0,.int .i64 0,.int .i64 0,.int .i64 0,.int .i64 0,.int .i64 0,.int .i64 0,.int .i64 0,.int .i64 0,.int .i64 0,.int .i64 0,.int .i64 0,.int .i64 0,.int .i64 0] 166))/\Blk (w.alloc (.cells #[.int .i64 0,.int .i64 0,.int .i64 0,.int .i64 0,.int .i64 0,.int .i64 0,.int .i64 0,.int .i64 0,.int .i64 0,.int .i64 0,.int .i64 0,.int .i64 0,.int .i64 0,.int .i64 0,.int .i64 0,.int .i64 0,.int .i64 0,.int .i64 0,.int .i64 0,.int .i64 0,.int .i64 0,.int .i64 0,.int .i64 0,.int .i64 0,.int .i64 0,.int .i64 0,.int .i64 0,.int .i64 0,.int .i64 0,.int .i64 0] 166)) w.heap.size 166 (Vg off 0)) :=
  ⟨(Ext.rf _).alloc _,by rw[LZ];exact .new rfl⟩
 replace LO:=Hd LO;replace OB:=Hd OB;replace OG:=Hd OG;replace CB:=Hd CB;replace CG:=Hd CG;replace LC:=Hd LC;replace SB:=Hd SB;replace SC:=Hd SC;replace hl:=Hd hl;replace num:=Hd num;replace hM:=Hd hM;clear LZ;go_enter Tryz.func107,Tryz.ntmps107;go_wp2_with (fail);go_loopw [5,3] (fun v s wr=>∃ k:Nat,v=.int .i64 k/\s=.int .i64 (Zg (off.take k))/\k<=ms.length/\Hid (Ext w wr/\Blk wr w.heap.size 166 (Vg off k))) (fun v _ _=>ms.length-(intOf v).toNat)
 case atStart=>exact⟨0,rfl,rfl,by omega,START⟩
 case round =>
  obtain⟨wo,rfl⟩:=Wq wr;obtain⟨k,rfl,rfl,hk,HH⟩:=hrel;clear START
  by_cases hlt:k<ms.length
  ·obtain⟨Y,bL⟩:=HH.out
   obtain⟨mb,mo,D,row,d,rfl,_,cD,er,_,rD,iD,ld,md⟩:=(hM.out.ext Y fun _ _ h=>h.ext Y).ints hlt;have hr:=List.mem_of_getElem? er.out;have eo:=OG.out k row er.out;have ob:=OB.out _ (List.mem_of_getElem? eo);have hrl:Hid (row.length=L):=hl.out row hr;have q1:(k:Int)<(ms.length:Int):=by omega
   obtain⟨o0,ho⟩:∃ o0,Hid (WT (-1) row=o0):=⟨_,rfl⟩;rw[ho.out] at eo ob;obtain⟨o,hoo⟩:∃ o,Hid (o=max o0 0):=⟨_,rfl⟩;rw[<-hoo.out] at eo ob;have SN:=Xt eo;have sb1:=SB.out k;obtain⟨s,hs⟩:∃ s,Hid (s=Zg (off.take k)):=⟨_,rfl⟩;rw[<-hs.out] at SN sb1 ⊢;have hnum:=Hd (num.out row hr);have zD:=World.block_lt_of_cell? _ _ cD;replace SN:=Hd SN;replace eo:=Hd eo;replace Y:=Hd Y;replace bL:=Hd bL;replace rD:=Hd rD;replace iD:=Hd iD;clear er HH hr;go_wp2_with (fail);go_loopw [7,6] (fun v bv wr=>∃ (j:Nat) (bb:Int),v=.int .i64 j/\bv=.int .i64 bb/\j<=row.length/\Hid (WT bb (row.drop j)=o0)/\Hid (Ext wo wr)) (fun v _ _=>row.length-(intOf v).toNat)
   case atStart=>exact⟨0,-1,rfl,rfl,by omega,ho,Ext.rf _⟩
   case round =>
    obtain⟨wi,rfl⟩:=Wq wr;obtain⟨j,bb,rfl,rfl,hj,HB,YI⟩:=hrel;have cD':wi.cell? ⟨mb,mo+k,none⟩=some (.slice D row.length d):=Zd YI.out zD cD
    by_cases hjl:j<row.length
    ·obtain⟨rb,ro,x,rfl,_,cx,ex,dx⟩:=(rD.out.ext YI.out).at hjl
     have q2:(j:Int)<(row.length:Int):=by omega
     have hx:=hnum.out x (List.mem_of_getElem? ex.out);have HB2:Hid (WT (if 0<=x/\(bb<0\/x<bb) then x else bb) (row.drop (j+1))=o0):=by
      have h:=HB.out;rw[dx.out] at h;exact h
     clear HB ex dx hx
     by_cases hx0:0<=x
     ·by_cases hb0:bb<0
      ·rw[if_pos ⟨hx0,.inl hb0⟩] at HB2
       go_wp2_with (fail);go_roundw
       case rel=>exact⟨j+1,x,by go_num,rfl,by omega,HB2,YI⟩
       case measure=>simp[intOf];omega
      ·by_cases hxb:x<bb
       ·rw[if_pos ⟨hx0,.inr hxb⟩] at HB2
        go_wp2_with (fail);go_roundw
        case rel=>exact⟨j+1,x,by go_num,rfl,by omega,HB2,YI⟩
        case measure=>simp[intOf];omega
       ·rw[if_neg (by omega)] at HB2
        go_wp2_with (fail);go_roundw
        case rel=>exact⟨j+1,bb,by go_num,rfl,by omega,HB2,YI⟩
        case measure=>simp[intOf];omega
     ·rw[if_neg (by omega)] at HB2
      go_wp2_with (fail);go_roundw
      case rel=>exact⟨j+1,bb,by go_num,rfl,by omega,HB2,YI⟩
      case measure=>simp[intOf];omega
    ·have q2:¬(j:Int)<(row.length:Int):=by omega
     have hbo:bb=o0:=by
      have h:=HB.out;rw[List.drop_of_length_le (by omega)] at h;exact h
     obtain rfl:=hbo;have bI:=bL.out.ext YI.out;have fl:=bI.free k;have k30:(k:Int)<30:=by omega
     have hw1:IntKind.i64.wrap (s+o)=s+o:=IntWalk.i64_in _ (by omega);have NX:Hid (Ext w (wi.setCell ⟨w.heap.size,k,none⟩ (.int .i64 o))/\Blk (wi.setCell ⟨w.heap.size,k,none⟩ (.int .i64 o)) w.heap.size 166 (Vg off (k+1))):=by
      refine⟨(Y.out.tr YI.out).setNew (p:=⟨w.heap.size,k,none⟩) (Nat.le_refl _) _,?_⟩;rw[<-Zcb (by omega) eo.out];exact bI.set k _
     have cl:wi.cell? ⟨w.heap.size,k,none⟩=some (.int .i64 (if k<k then off.getD k 0 else 0)):=by rw[bI.cell,Vh (by omega)]
     clear HB bI ho
     by_cases nb:bb<0
     ·obtain rfl:o=0:=by rw[hoo.out];omega
      clear hoo;go_wp2_with (first | go_quiet (fail) | go_region);go_roundw
      case rel=>exact⟨k+1,by go_num,by rw[SN.out];first | rfl | (congr 1;omega) | simp,by omega,NX.out⟩
      case measure=>simp[intOf];omega
     ·obtain rfl:o=bb:=by rw[hoo.out];omega
      clear hoo;go_wp2_with (first | go_quiet (fail) | go_region);go_roundw
      case rel=>exact⟨k+1,by go_num,by rw[SN.out],by omega,NX.out⟩
      case measure=>simp[intOf];omega
  ·obtain rfl:k=ms.length:=by omega
   have q1:¬(ms.length:Int)<(ms.length:Int):=by omega
   have SO:Hid (Zg (off.take ms.length)=Zg off):=Hd (by rw[<-LO.out,List.take_length]);have so:=SB.out ms.length;rw[SO.out] at so ⊢;obtain⟨Y,bL⟩:=HH.out;replace Y:=Hd Y;replace bL:=Hd bL;have TOT2:Hid (tot=Zg off+Zg cols):=TOT.out;obtain⟨s0,hs0⟩:∃ s0,Hid (s0=Zg off):=⟨_,rfl⟩;rw[<-hs0.out] at so TOT2 ⊢;clear HH SO TOT SB;go_wp2_with (fail);go_loopw [8,3] (fun v s wr=>∃ c:Nat,v=.int .i64 c/\s=.int .i64 (s0+Zg (cols.take c))/\c<=L/\Hid (Ext wo wr)) (fun v _ _=>L-(intOf v).toNat)
   case atStart=>exact⟨0,rfl,by rw[List.take_zero];simp[Zg],by omega,Ext.rf _⟩
   case round =>
    obtain⟨wp,rfl⟩:=Wq wr;obtain⟨c,rfl,rfl,hc,YP⟩:=hrel;have sc1:=SC.out c;obtain⟨mb,mo,D0,row0,d0,rfl,zb,cD0,er0,_,_,_,_,_⟩:=(hM.out.ext (Y.out.tr YP.out) fun _ _ h=>h.ext (Y.out.tr YP.out)).ints (r:=0) hn0;have hl0:row0.length=L:=hl.out row0 (List.mem_of_getElem? er0.out);rw[hl0] at cD0;rw[Nat.add_zero] at cD0;clear er0 hl0
    by_cases hcl:c<L
    ·have q2:(c:Int)<(L:Int):=by omega
     have ec:=CG.out c hcl;obtain⟨c0v,hcv⟩:∃ cv,Hid (Zad c (-1) ms off=cv):=⟨_,rfl⟩;rw[hcv.out] at ec;obtain⟨cv,hcc⟩:∃ cv,Hid (cv=max c0v 0):=⟨_,rfl⟩;rw[<-hcc.out] at ec;have cb:=CB.out _ (List.mem_of_getElem? ec);have SN:=Xt ec;obtain⟨s1,hs1⟩:∃ s1,Hid (s1=Zg (cols.take c)):=⟨_,rfl⟩;rw[<-hs1.out] at SN sc1 ⊢;replace SN:=Hd SN;clear ec;go_wp2_with (fail);go_loopw [10,9] (fun v bv wr=>∃ (k:Nat) (bb:Int),v=.int .i64 k/\bv=.int .i64 bb/\k<=ms.length/\Hid (Zad c bb (ms.drop k) (off.drop k)=c0v)/\Hid (Ext wp wr)) (fun v _ _=>ms.length-(intOf v).toNat)
     case atStart=>exact⟨0,-1,rfl,rfl,by omega,hcv,Ext.rf _⟩
     case round =>
      obtain⟨wi,rfl⟩:=Wq wr;obtain⟨k,bb,rfl,rfl,hk,HB,YI⟩:=hrel
      by_cases hkl:k<ms.length
      ·have YA:=(Y.out.tr YP.out).tr YI.out
       obtain⟨mb',mo',D,row,d,hq,_,cD,er,dr,rD,iD,ld,md⟩:=(hM.out.ext YA fun _ _ h=>h.ext YA).ints hkl;obtain⟨rfl,rfl⟩:mb=mb'/\mo=mo':=by simpa using hq
       have hr:=List.mem_of_getElem? er.out;have eo:=OG.out k row er.out;have hrl:=hl.out row hr;obtain⟨rb,ro,x,rfl,_,cx,ex,_⟩:=rD.at (k:=c) (by omega);have hx:=num.out row hr x (List.mem_of_getElem? ex.out);have ob:=OB.out _ (List.mem_of_getElem? eo);obtain⟨o,ho⟩:∃ o,Hid (max (WT (-1) row) 0=o):=⟨_,rfl⟩;rw[ho.out] at eo ob;have dof:off.drop k=o::off.drop (k+1):=by
        have hkl2:k<off.length:=by rw[LO.out];exact hkl
        rw[List.drop_eq_getElem_cons hkl2];rw[List.getElem?_eq_getElem hkl2] at eo;rw[Option.some.inj eo]
       have HB2:Hid (Zad c (if 0<=x/\(bb<0\/x-o<bb) then x-o else bb) (ms.drop (k+1)) (off.drop (k+1))=c0v):=by
        have h:=HB.out;rw[dr.out,dof,Zad,getD_some ex.out] at h;exact h
       have cl:wi.cell? ⟨w.heap.size,k,none⟩=some (.int .i64 o):=by
        rw[((bL.out.ext YP.out).ext YI.out).cell,Vh (by omega),if_pos hkl,getD_some eo]
       have q3:(k:Int)<(ms.length:Int):=by omega
       have q4:(c:Int)<(row.length:Int):=by omega
       have k30:(k:Int)<30:=by omega
       replace hrl:=Hd hrl;clear HB ex er dr eo dof hr hq rD
       by_cases hx0:0<=x
       ·have t0:decide (0<=x)=true:=decide_eq_true hx0
        have hw2:IntKind.i64.wrap (x-o)=x-o:=IntWalk.i64_in _ (by omega)
        by_cases hb0:bb<0
        ·rw[if_pos ⟨hx0,.inl hb0⟩] at HB2
         have t1:decide (bb<0)=true:=decide_eq_true hb0;go_wp2_with (fail);go_quiet (fail);go_wp2_with (fail);go_quiet (fail);go_wp2_with (fail);go_roundw
         case rel=>exact⟨k+1,x-o,by go_num,rfl,by omega,HB2,YI.out.drewN _⟩
         case measure=>simp[intOf];omega
        ·have t1:decide (bb<0)=false:=decide_eq_false hb0
         by_cases hxb:x-o<bb
         ·rw[if_pos ⟨hx0,.inr hxb⟩] at HB2
          have t2:decide (x-o<bb)=true:=decide_eq_true hxb;go_wp2_with (fail);go_quiet (fail);go_wp2_with (fail);go_quiet (fail);go_wp2_with (fail);go_roundw
          case rel=>exact⟨k+1,x-o,by go_num,rfl,by omega,HB2,YI.out.drewN _⟩
          case measure=>simp[intOf];omega
         ·rw[if_neg (by omega)] at HB2
          have t2:decide (x-o<bb)=false:=decide_eq_false hxb;go_wp2_with (fail);go_quiet (fail);go_wp2_with (fail);go_roundw
          case rel=>exact⟨k+1,bb,by go_num,rfl,by omega,HB2,YI.out.drewN _⟩
          case measure=>simp[intOf];omega
       ·have t0:decide (0<=x)=false:=decide_eq_false hx0
        rw[if_neg (by omega)] at HB2;go_wp2_with (fail);go_quiet (fail);go_wp2_with (fail);go_roundw
        case rel=>exact⟨k+1,bb,by go_num,rfl,by omega,HB2,YI.out.drewN _⟩
        case measure=>simp[intOf];omega
      ·have q3:¬(k:Int)<(ms.length:Int):=by omega
       have hbo:bb=c0v:=by
        have h:=HB.out;rw[List.drop_of_length_le (by omega)] at h;exact h
       obtain rfl:=hbo;have hw1:IntKind.i64.wrap (s0+s1+cv)=s0+s1+cv:=IntWalk.i64_in _ (by omega);clear HB hcv
       by_cases nb:bb<0
       ·obtain rfl:cv=0:=by rw[hcc.out];omega
        clear hcc;go_wp2_with (fail);go_roundw
        case rel=>exact⟨c+1,by go_num,by rw[SN.out];first | (rw[Int.add_zero]) | rfl | simp,by omega,YP.out.tr YI.out⟩
        case measure=>simp[intOf];omega
       ·obtain rfl:cv=bb:=by rw[hcc.out];omega
        clear hcc;go_wp2_with (fail);go_roundw
        case rel=>exact⟨c+1,by go_num,by rw[SN.out,Int.add_assoc],by omega,YP.out.tr YI.out⟩
        case measure=>simp[intOf];omega
    ·obtain rfl:c=L:=by omega
     have q2:¬(c:Int)<(c:Int):=by omega
     have FIN:Hid (s0+Zg (cols.take c)=tot):=Hd (by rw[TOT2.out,<-LC.out,List.take_length]);go_wp2_with (fail);go_ret;exact⟨Z3 FIN.out,Y.out.tr YP.out⟩
theorem Qs {f:Nat->Int} : ∀ {l:List Nat} {b:Int},(∀ x∈l,0<=f x)->(0<=b\/l≠[])->(Zm f b l=b/\0<=b)\/∃ x∈l,Zm f b l=f x
 | [],b,_,h=>by
  rcases h with h | h
  ·exact .inl ⟨rfl,h⟩
  ·exact absurd rfl h
 | x::l,b,h,_=>by
  have hx:=h x (by simp);have ih:=Qs (f:=f) (l:=l) (b:=if b<0 then f x else if f x<b then f x else b) (fun y hy=>h y (by simp[hy])) (.inl (by split<;>(try split)<;>omega));have e:Zm f b (x::l)=Zm f (if b<0 then f x else if f x<b then f x else b) l:=rfl;rw[e];rcases ih with⟨e,_⟩ | ⟨y,hy,e⟩
  ·rw[e]
   split
   ·exact .inr ⟨x,by simp,rfl⟩
   ·split
    ·exact .inr ⟨x,by simp,rfl⟩
    ·exact .inl ⟨rfl,by omega⟩
  ·exact .inr ⟨y,by simp[hy],e⟩
theorem ZdW {f:Nat->Int}{l l':List Nat}(hp:l.Perm l')(h:∀ x∈l,0<=f x) : Zm f (-1) l=Zm f (-1) l':=by
 by_cases hl:l=[]
 ·subst hl
  rw[List.Perm.eq_nil hp.symm]
 ·have h':∀ x∈l',0<=f x:=fun x hx=>h x (hp.mem_iff.2 hx)
  have hl':l'≠[]:=fun e=>hl (List.Perm.eq_nil (e ▸ hp))
  rcases Qs h (b:=-1) (.inr hl) with⟨_,h1⟩ | ⟨x,hx,h1⟩
  ·omega
  ·rcases Qs h' (b:=-1) (.inr hl') with⟨_,h2⟩ | ⟨y,hy,h2⟩
   ·omega
   ·have a1:=(WY (b:=-1) h).1 y (hp.mem_iff.2 hy)
    have a2:=(WY (b:=-1) h').1 x (hp.mem_iff.1 hx);omega
theorem Uk {f g:Nat->Int} : ∀ {l:List Nat} {b:Int},(∀ x∈l,f x=g x)->Zm f b l=Zm g b l
 | [],_,_=>rfl
 | x::l,b,h=>by
  show Zm f (if b<0 then f x else if f x<b then f x else b) l=Zm g (if b<0 then g x else if g x<b then g x else b) l;rw[h x (by simp)];exact Uk fun y hy=>h y (by simp[hy])
theorem Za6 (f:Nat->Int) : ∀ (l:List Nat) (b:Int),WT b (l.map f)=Zm f b (l.filter fun x=>decide (0<=f x))
 | [],b=>rfl
 | x::l,b=>by
  show WT (if 0<=f x/\(b<0\/f x<b) then f x else b) (l.map f)=_;rw[Za6 f l]
  by_cases h:0<=f x
  ·rw[List.filter_cons_of_pos (by simpa using h)]
   show _=Zm f (if b<0 then f x else if f x<b then f x else b) _
   congr 1
   split<;>split<;>(try split)<;>omega
  ·rw[List.filter_cons_of_neg (by simpa using h),if_neg (fun h2=>h h2.1)]
theorem ZdX (r:Nat->List Int)(o:Nat->Int)(c:Nat) : ∀ (S:List Nat) (b:Int),Zad c b (S.map r) (S.map o)=Zm (fun s=>(r s).getD c 0-o s) b (S.filter fun s=>decide (0<=(r s).getD c 0))
 | [],b=>rfl
 | s::S,b=>by
  simp only[List.map_cons,Zad];rw[ZdX r o c S]
  by_cases h:0<=(r s).getD c 0
  ·rw[List.filter_cons_of_pos (by simpa using h)]
   show _=Zm _ (if b<0 then(r s).getD c 0-o s else if (r s).getD c 0-o s<b then(r s).getD c 0-o s else b) _
   congr 1
   split<;>split<;>(try split)<;>omega
  ·rw[List.filter_cons_of_neg (by simpa using h),if_neg (fun h2=>h h2.1)]
section
variable {rows:List (List Int)} {us:List Nat} {last:Nat}
def UO (rows:List (List Int))(us:List Nat)(last src dst:Nat) : Int:=if dst∈ZY us last src then Za rows src dst else -1
def Q4 (rows:List (List Int))(us:List Nat)(last:Nat) : List (List Int):=(last::us).map fun src=>(us++[0]).map fun dst=>UO rows us last src dst
theorem J1 (num:∀ a b,(a=last\/a∈us)->(b=0\/b∈us)->0<=Za rows a b){src dst:Nat}(hs:src∈last::us)(hd:dst∈us++[0]) : decide (0<=UO rows us last src dst)=decide (dst∈ZY us last src):=by
 have h:=num src dst (List.mem_cons.1 hs) (by
  rcases List.mem_append.1 hd with h | h
  ·exact .inr h
  ·exact .inl (List.mem_singleton.1 h))
 unfold UO
 by_cases hc:dst∈ZY us last src
 ·rw[if_pos hc,decide_eq_true hc,decide_eq_true h]
 ·rw[if_neg hc,decide_eq_false hc]
  rfl
theorem Zh2 (num:∀ a b,(a=last\/a∈us)->(b=0\/b∈us)->0<=Za rows a b)(hl:last∉us)(h0:0∉us) : Qr (Q4 rows us last)=(last::us).map fun src=>Yt rows us last src:=by
 unfold Qr Q4;rw[List.map_map];refine List.map_congr_left fun src hs=>?_
 show max (WT (-1) ((us++[0]).map fun dst=>UO rows us last src dst)) 0=Yt rows us last src;have hf:(us++[0]).filter (fun x=>decide (0<=UO rows us last src x))=(us++[0]).filter fun x=>decide (x∈ZY us last src):=List.filter_congr fun x hx=>J1 num hs hx
 rw[Za6,hf];have e1:Zm (fun dst=>UO rows us last src dst) (-1) ((us++[0]).filter fun x=>decide (x∈ZY us last src))=Zm (fun dst=>Za rows src dst) (-1) ((us++[0]).filter fun x=>decide (x∈ZY us last src)):=Uk fun x hx=>by
  unfold UO;rw[if_pos (of_decide_eq_true (List.mem_filter.1 hx).2)]
 have e2:((us++[0]).filter fun x=>decide (x∈ZY us last src)).Perm (ZY us last src):=by
  unfold ZY
  by_cases e:src=last
  ·rw[if_pos e,List.filter_append,List.filter_eq_self.2 (fun x hx=>decide_eq_true hx),List.filter_cons_of_neg (by simpa using h0)]
   simp
  ·rw[if_neg e,List.filter_append]
   have a1:us.filter (fun x=>decide (x∈0::us.filter fun x=>decide (src≠x)))=us.filter fun x=>decide (src≠x):=List.filter_congr fun x hx=>by
    rw[decide_eq_decide,List.mem_cons,List.mem_filter]
    constructor
    ·rintro (h | h)
     ·subst h;exact absurd hx h0
     ·exact of_decide_eq_true h.2
    ·exact fun h=>.inr ⟨hx,decide_eq_true h⟩
   have a2:[0].filter (fun x=>decide (x∈0::us.filter fun x=>decide (src≠x)))=[0]:=by simp
   rw[a1,a2];exact List.perm_append_comm (l₂:=[0])
 rw[e1,ZdW e2 fun x hx=>num src x (List.mem_cons.1 hs) (by
  rcases List.mem_append.1 (List.mem_filter.1 hx).1 with h | h
  ·exact .inr h
  ·exact .inl (List.mem_singleton.1 h))]
 rfl
theorem Q5 {f:Nat->Int}{D:List Nat}{c d:Nat}(h:D[c]?=some d) : (D.map f).getD c 0=f d:=by
 simp[List.getD,h]
theorem ZdY (num:∀ a b,(a=last\/a∈us)->(b=0\/b∈us)->0<=Za rows a b)(hl:last∉us)(h0:0∉us) : UN (Q4 rows us last) (us.length+1)=ZI rows us last:=by
 have ho:=Zh2 num hl h0;have hc:∀ (c d:Nat),(us++[0])[c]?=some d->Zad c (-1) (Q4 rows us last) (Qr (Q4 rows us last))=WJ rows us last d:=fun c d hd=>by
  rw[ho];unfold Q4;refine Eq.trans (ZdX (fun src=>(us++[0]).map fun dst=>UO rows us last src dst) (fun src=>Yt rows us last src) c (last::us) (-1)) ?_;have hdm:=List.mem_of_getElem? hd;have e1:(last::us).filter (fun s=>decide (0<=((us++[0]).map fun dst=>UO rows us last s dst).getD c 0))=(last::us).filter fun s=>decide (d∈ZY us last s):=List.filter_congr fun s hs=>by
   rw[Q5 hd];exact J1 num hs hdm
  rw[e1];unfold WJ;refine Uk fun s hs=>?_
  rw[Q5 hd];unfold UO;rw[if_pos (of_decide_eq_true (List.mem_filter.1 hs).2)]
 unfold UN ZI;rw[ho]
 congr 1
 have e2:Qa (Q4 rows us last) (us.length+1)=(us++[0]).map fun dst=>max (WJ rows us last dst) 0:=by
  have hr:(List.range (us.length+1)).map (fun c=>(us++[0]).getD c 0)=us++[0]:=by
   apply List.ext_getElem
   ·simp
   ·intro k h1 h2
    rw[List.getElem_map,List.getElem_range];simp only[List.getD];rw[List.getElem?_eq_getElem h2]
    rfl
  refine Eq.trans ?_ (congrArg (List.map fun dst=>max (WJ rows us last dst) 0) hr);rw[List.map_map];unfold Qa;refine List.map_congr_left fun c hcr=>?_
  have hk:c<(us++[0]).length:=by
   have:=List.mem_range.1 hcr;simp only[List.length_append,List.length_singleton];exact this
  obtain⟨d,hd⟩:∃ d,(us++[0])[c]?=some d:=⟨_,List.getElem?_eq_getElem hk⟩;have e3:(us++[0]).getD c 0=d:=getD_some hd;simp only[Function.comp_apply];rw[hc c d hd,e3]
 rw[e2];exact VG ((List.perm_append_comm (l₁:=us) (l₂:=[0])).map _)
theorem Zji : (Q4 rows us last).length=us.length+1:=by simp[Q4]
theorem Zjj : ∀ row∈Q4 rows us last,row.length=us.length+1:=fun row h=>by
 obtain⟨s,_,rfl⟩:=List.mem_map.1 h;simp
theorem Zjk {B:Int}(hB:0<=B)(num:∀ a b,(a=last\/a∈us)->(b=0\/b∈us)->0<=Za rows a b/\Za rows a b<=B) : ∀ row∈Q4 rows us last,∀ x∈row,-1<=x/\x<=B:=fun row h x hx=>by
 obtain⟨s,hs,rfl⟩:=List.mem_map.1 h;obtain⟨d,hd,rfl⟩:=List.mem_map.1 hx;have h2:=num s d (List.mem_cons.1 hs) (by
  rcases List.mem_append.1 hd with h | h
  ·exact .inr h
  ·exact .inl (List.mem_singleton.1 h))
 unfold UO;split<;>omega
end
section
variable {rows:List (List Int)}
theorem Q6 {p:List Int}{m last:Nat}{cost:Int}(hp:Yq rows p=some (m,last,cost)) : ∃ l:List Nat,(Xu rows p).1=Zf l/\l.Perm (Zb m)/\(Xu rows p).2=0:=by
 refine⟨Yh (ltC (cfR (rows.getD last []))) (Zb m),?_,Yb _ _ _,?_⟩<;>(unfold Xu;rw[hp])
theorem Jz (h1:1<=rows.length)(h24:rows.length<=24){p:List Int}{m last:Nat}{cost:Int}(h:Yq rows p=some (m,last,cost)) : (Zb m).length+p.length=rows.length-1:=by
 obtain⟨l,W⟩:=XM h1 h24 h;have:=W.len;rw[W.eq,Zh];exact this
theorem Ze6 : Yq rows []=some (Vi rows.length,0,0):=by
 unfold Yq;rw[if_neg (by simp)]
 rfl
end
end
section
open Go.RowKit Go.ChangeShapes Go.WideShapes Go.ChangeAt Go.Deep
abbrev Q7 (m last:Nat)(cost:Int) : Value:=.agg #[.int .u64 m,.int .u64 0,.int .i64 last,.int .i64 cost]
def ZgV : Option (Nat×Nat×Int)->Value
 | none=>.tuple #[Q7 0 0 0,.bool false]
 | some (m,last,cost)=>.tuple #[Q7 m last cost,.bool true]
theorem Za7 (rows:List (List Int))(m last:Nat)(cost c:Int)(p:List Int) : Xl rows m last cost (c::p)=if 0<=c/\c<64/\m.testBit c.toNat=true then Xl rows (YG m c.toNat) c.toNat (cost+Za rows last c.toNat) p else none:=rfl
theorem Zci {base g:Nat}{rows:List (List Int)}{mi:Bool}(P:Option Addr)(pc:Nat)(p:List Int)(w:World)(H:KernT w base g rows mi)(ok:RowsOk rows)(hP:RdI w P p)(lp:p.length<=1000000000) :
  Calls Tryz.prog 210 #[.pointer (some ⟨g,0,none⟩),.slice P p.length pc] w fun e w'=>e=.returned (ZgV (Yq rows p))/\Ext w w':=by
 have h1:=ok.n1;have h24:=ok.n2;have DE:=Hd (fun(W:World) (x:Ext w W)=>ZaT W (H.ext x) h1 h24);have FU:=Hd (fun(W:World)=>Ux rows.length (by omega) W);have UF:=Jy h24;have WO0:=fun(W:World)=>WF (2^rows.length-1) 0 (YM h24).1 (by omega) W
 obtain⟨r,hr⟩:∃ r,Hid (Yq rows p=r):=⟨_,rfl⟩;rw[hr.out];obtain⟨C,cc,us,hB,_,hV,hR⟩:=H;have lus:Hid (us.length=rows.length):=hR.1;replace hV:=Hd hV;replace hR:=Hd hR;replace hB:=Hd hB;unfold Yq at hr;replace hP:=Hd hP;have B1:Hid (Blk (w.alloc (.cells #[.int .u64 0,.int .u64 0,.int .i64 0,.int .i64 0] 238)) w.heap.size 238 #[.int .u64 0,.int .u64 0,.int .i64 0,.int .i64 0]):=.new rfl
 by_cases hlen:rows.length-1<p.length
 ·have hr2:Hid (r=none):=by
   have h:=hr.out;rw[if_pos hlen] at h;exact h.symm
  have hlb:decide ((rows.length:Int)-1<(p.length:Int))=true:=decide_eq_true (by omega);rw[hr2.out];unfold ZgV;clear hr hr2 FU WO0 UF;go_enter Tryz.func210,Tryz.ntmps210;go_wp2_with (fail);refine(DE.out _ XI).mono ?_;rintro e w1 ⟨rfl,x1⟩;have X1:=Hd (Ext.tr (a:=w) XI x1);have b1:=B1.out.ext x1;have c0:=b1.c0;have c1:=b1.c1;have c2:=b1.c2;have c3:=b1.c3;have f0:=b1.free 0;have f1:=b1.free 1;have f2:=b1.free 2;have f3:=b1.free 3;clear x1 b1;go_wp2_with (fail);refine bodyPost_ret (v:=.tuple #[Q7 0 0 0,.bool false]) (by simp[results,Tryz.results210,go_sem, *]) rfl ⟨rfl,?_⟩;exact(((X1.out.setNew (p:=⟨w.heap.size,0,none⟩) (Nat.le_refl _) _).setNew (p:=⟨w.heap.size,1,none⟩) (Nat.le_refl _) _).setNew (p:=⟨w.heap.size,2,none⟩) (Nat.le_refl _) _).setNew (p:=⟨w.heap.size,3,none⟩) (Nat.le_refl _) _
 ·have hr2:Hid (Xl rows (Vi rows.length) 0 0 p=r):=by
   have h:=hr.out;rw[if_neg hlen] at h;exact h
  have hlb:decide ((rows.length:Int)-1<(p.length:Int))=false:=decide_eq_false (by omega);have hpl:p.length<=24:=by omega
  replace WO0:=fun(W:World)=>(show Calls Tryz.prog 194 #[ZS (2^rows.length-1),.int .i64 ((0:Nat):Int)] W fun e w'=>e=.returned (ZS (Vi rows.length))/\Ext W w' from WO0 W)
  generalize Vi rows.length=m0 at *;generalize 2^rows.length-1=mf at *;unfold ZS at FU WO0;replace WO0:=Hd WO0;clear hr;go_enter Tryz.func210,Tryz.ntmps210;go_wp2_with (fail);refine(DE.out _ XI).mono ?_;rintro e w1 ⟨rfl,x1⟩;have X1:=Hd (Ext.tr (a:=w) XI x1);have b1:=Hd (B1.out.ext x1);have cK:w1.cell? ⟨g,0,none⟩=some (.slice C rows.length cc):=(hB.out.ext X1.out).cell 0;clear x1;go_wp2_with (fail);refine(FU.out _).mono ?_;rintro e w2 ⟨rfl,x2⟩;have X2:=Hd (X1.out.tr x2);have b2:=Hd (b1.out.ext x2);clear x2 b1 cK;go_wp2_with (fail);refine(WO0.out _).mono ?_;rintro e w3 ⟨rfl,x3⟩;have z12:=x3.size;have zw1:=b2.out.lt;have X3:Ext w (w3.alloc (.cells #[.int .u64 m0,.int .u64 0,.int .i64 0,.int .i64 0] 238)):=(X2.out.tr x3).alloc _;have b3:Blk (w3.alloc (.cells #[.int .u64 m0,.int .u64 0,.int .i64 0,.int .i64 0] 238)) w.heap.size 238 #[.int .u64 0,.int .u64 0,.int .i64 0,.int .i64 0]:=(b2.out.ext x3).alloc _;have s3:Blk (w3.alloc (.cells #[.int .u64 m0,.int .u64 0,.int .i64 0,.int .i64 0] 238)) w3.heap.size 238 #[.int .u64 m0,.int .u64 0,.int .i64 0,.int .i64 0]:=.new rfl;have START:=Hd (And.intro X3 (And.intro b3 s3));obtain⟨sb,hsb⟩:∃ sb,Hid (sb=w3.heap.size):=⟨_,rfl⟩;have zsb:w.heap.size<sb:=by rw[hsb.out];omega
  clear X3 b3 s3 x3 b2 FU WO0;go_wp2_with (fail);rw[<-hsb.out] at START ⊢;go_loopw [29] (fun v wr=>∃ (k m last:Nat) (cost:Int),v=.int .i64 k/\k<=p.length/\Hid (Xl rows m last cost (p.drop k)=r)/\Hid (SubN rows.length m)/\Hid (last<rows.length/\0<=cost/\cost<=2147483647*(k:Int))/\Hid (Ext w wr/\Blk wr w.heap.size 238 #[.int .u64 0,.int .u64 0,.int .i64 0,.int .i64 0]/\Blk wr sb 238 #[.int .u64 m,.int .u64 0,.int .i64 last,.int .i64 cost])) (fun v _=>p.length-(intOf v).toNat)
  case atStart=>exact⟨0,m0,0,0,rfl,by omega,hr2,UF,by exact(show 0<rows.length/\(0:Int)<=0/\(0:Int)<=2147483647*((0:Nat):Int) from⟨by omega,by omega,by omega⟩),START⟩
  case round =>
   obtain⟨wo,rfl⟩:=Wq wr;clear START;obtain⟨k,m,last,cost,rfl,hk,HF,HU,HL,HH⟩:=hrel;obtain⟨Y,b1,bs⟩:=HH.out;have c0:=bs.c0;have c1:=bs.c1;have c2:=bs.c2;have c3:=bs.c3;replace Y:=Hd Y;replace b1:=Hd b1;replace bs:=Hd bs;clear HH
   by_cases hlt:k<p.length
   ·obtain⟨pb,po,c,rfl,zp,cp,ep,dp⟩:=(hP.out.ext Y.out).at hlt
    have HF2:Hid (r=if 0<=c/\c<64/\m.testBit c.toNat=true then Xl rows (YG m c.toNat) c.toNat (cost+Za rows last c.toNat) (p.drop (k+1)) else none):=by
     have h:=HF.out;rw[dp.out,Za7] at h;exact h.symm
    have HA:=Hd (fun(W:World)=>ZcJ m c HU.out.1 W);unfold ZS at HA;clear HF ep dp;go_wp2_with (fail);refine(HA.out _).mono ?_;rintro e w3 ⟨rfl,x3⟩;have Y3:=Hd (Y.out.tr x3);have b13:=Hd (b1.out.ext x3);have bs3:=Hd (bs.out.ext x3);clear x3 c0 c1 c2 c3 cp
    by_cases hin:0<=c/\c<64/\m.testBit c.toNat=true
    ·have e1:(decide (0<=c/\c<64)&&m.testBit c.toNat)=true:=by rw[decide_eq_true ⟨hin.1,hin.2.1⟩,hin.2.2];rfl
     rw[e1];have HF3:Hid (Xl rows (YG m c.toNat) c.toNat (cost+Za rows last c.toNat) (p.drop (k+1))=r):=by
      have h:=HF2.out;rw[if_pos hin] at h;exact h.symm
     obtain⟨i,rfl⟩:∃ i:Nat,c=(i:Int):=⟨c.toNat,by omega⟩;rw[Int.toNat_natCast] at HF3 hin;have hic:i<rows.length:=HU.out.2 i (Yl.2 ⟨by omega,hin.2.2⟩);have WO:=Hd (fun(W:World)=>WF m i HU.out.1 (by omega) W);have HU2:=Hd (HU.out.clr i);generalize YG m i=m2 at *;unfold ZS at WO;have hla:=HL.out.1;have er:rows[last]?=some rows[last]:=List.getElem?_eq_getElem hla;obtain⟨D,d,hu,oD⟩:=hR.out.2 _ _ er;have hmem:rows[last]∈rows:=List.getElem_mem hla;have lrow:=ok.row _ hmem;have nrow:=ok.num _ hmem;have ecost:Za rows last i=(rows[last]).getD i 0:=by unfold Za;rw[getD_some er]
     generalize rows[last]=row at *;obtain⟨ab,ao,vv,hC,zv,cv,ev⟩:=(hV.out.read.ext Y3.out).at (j:=last) (by rw[lus.out];exact hla);subst hC;obtain rfl:.slice D row.length d=vv:=by
      have h:=ev.out;rw[hu] at h;exact Option.some.inj h
     obtain⟨rb,ro,x,rfl,zx,cx,ex,_⟩:=(oD.read.ext Y3.out).at (k:=i) (by omega);rw[getD_some ex.out] at ecost;rw[ecost] at HF3;have nx:=nrow x (List.mem_of_getElem? ex.out);have HL2:Hid (i<rows.length/\0<=cost+x/\cost+x<=2147483647*((k+1:Nat):Int)):=by
      have h:=HL.out;have:i<rows.length/\0<=cost+x/\cost+x<=2147483647*((k+1:Nat):Int):=⟨hic,by omega,by omega⟩;exact this
     have hw:IntKind.i64.wrap (cost+x)=cost+x:=IntWalk.i64_in _ (by have:=HL2.out;omega);have cK:w3.cell? ⟨g,0,none⟩=some (.slice (some ⟨ab,ao,none⟩) rows.length cc):=(hB.out.ext Y3.out).cell 0;have c2:=bs3.out.c2;have c3:=bs3.out.c3;have f3:w3.frozen? ⟨sb,3,none⟩=false:=bs3.out.free 3;have q1:(last:Int)<(rows.length:Int):=by omega
     have q2:(i:Int)<(row.length:Int):=by omega
     have NB:Hid (Blk (w3.setCell ⟨sb,3,none⟩ (.int .i64 (cost+x))) sb 238 #[.int .u64 m,.int .u64 0,.int .i64 last,.int .i64 (cost+x)]):=bs3.out.set 3 (.int .i64 (cost+x));have NY:Hid (Ext w (w3.setCell ⟨sb,3,none⟩ (.int .i64 (cost+x)))):=Y3.out.setNew (p:=⟨sb,3,none⟩) (Nat.le_of_lt zsb) _;have NZ:Hid (Blk (w3.setCell ⟨sb,3,none⟩ (.int .i64 (cost+x))) w.heap.size 238 #[.int .u64 0,.int .u64 0,.int .i64 0,.int .i64 0]):=b13.out.far (p:=⟨sb,3,none⟩) (Nat.ne_of_lt zsb) _;clear hin e1 HF2 HA er hu oD hmem lrow nrow ecost ev ex nx hla;go_upto_region 9 with(fail);refine wp_region_any (by kernel_rfl) ?_
     change wpAny _ _ _ _ _ _ _ (World.drew _)
     refine Zc (i:=0) (op:=Op.fieldAddr 238 (Operand.tmp 6) 2) (t:=0) (d:=some 39) (v:=_) rfl (by decide +kernel) (fun _ _ _ h=>h) (by intro _;unfold Ze;go_simp;try with_reducible rfl) ?_
     try simp only[lay]
     refine Zc (i:=2) (op:=Op.move (Operand.tmp 0)) (t:=71) (d:=some 41) (v:=_) rfl (by decide +kernel) (fun _ _ _ h=>h) (by intro _;unfold Ze;go_simp;try with_reducible rfl) ?_
     try simp only[lay]
     refine Zc (i:=3) (op:=Op.nilCheck (Operand.tmp 41)) (t:=0) (d:=some 42) (v:=_) rfl (by decide +kernel) (fun _ _ _ h=>h) (by intro _;unfold Ze;go_simp;try with_reducible rfl) ?_
     try simp only[lay]
     refine Zc (i:=4) (op:=Op.fieldAddr 104 (Operand.tmp 42) 0) (t:=0) (d:=some 43) (v:=_) rfl (by decide +kernel) (fun _ _ _ h=>h) (by intro _;unfold Ze;go_simp;try with_reducible rfl) ?_
     try simp only[lay]
     refine Zc (i:=6) (op:=Op.fieldAddr 238 (Operand.tmp 6) 1) (t:=0) (d:=some 45) (v:=_) rfl (by decide +kernel) (fun _ _ _ h=>h) (by intro _;unfold Ze;go_simp;try with_reducible rfl) ?_
     try simp only[lay]
     refine Zc (i:=10) (op:=Op.move (Operand.tmp 8)) (t:=3) (d:=some 49) (v:=_) rfl (by decide +kernel) (fun _ _ _ h=>h) (by intro _;unfold Ze;go_simp;try with_reducible rfl) ?_
     try simp only[lay]
     refine Wx (n:=2) [(1,some 40),(5,some 44),(7,some 46),(8,some 47),(9,some 48),(11,some 50),(12,some 51),(13,some 52)] (fun | 1=>.int .i64 cost | 5=>.slice (some ⟨ab,ao,none⟩) rows.length cc | 7=>.int .i64 last | 8=>.pointer (some ⟨ab,ao+last,none⟩) | 9=>.slice (some ⟨rb,ro,none⟩) row.length d | 11=>.pointer (some ⟨rb,ro+i,none⟩) | 12=>.int .i64 x | 13=>.int .i64 (cost+x) | _=>undef) #[true,true,true,true,true,true,true,true,true,true,true,true,true,true,false,false] (by decide +kernel) ?_ ?_
     ·intro pS hpm uS hD K hK
      simp only[List.mem_cons,List.not_mem_nil,or_false] at hpm;rcases hpm with rfl | rfl | rfl | rfl | rfl | rfl | rfl | rfl
      ·exact Zv (T:=3) (x:=Operand.tmp 39) (t:=3) (d:=some 40) rfl (.pointer (some ⟨sb,3,none⟩)) (by kernel_rfl) (.int .i64 cost) (by go_simp) hK
      ·exact Zv (T:=23) (x:=Operand.tmp 43) (t:=23) (d:=some 44) rfl (.pointer (some ⟨g,0,none⟩)) (by kernel_rfl) (.slice (some ⟨ab,ao,none⟩) rows.length cc) (by go_simp) hK
      ·exact Zv (T:=3) (x:=Operand.tmp 45) (t:=3) (d:=some 46) rfl (.pointer (some ⟨sb,2,none⟩)) (by kernel_rfl) (.int .i64 last) (by go_simp) hK
      ·exact XY (T:=23) (x:=Operand.tmp 44) (y:=Operand.tmp 46) (t:=0) (d:=some 47) rfl (.slice (some ⟨ab,ao,none⟩) rows.length cc) (.int .i64 last) (Eq.trans (b:=uS 5) (by kernel_rfl) (hD 5 (Zp (by kernel_rfl)))) (Eq.trans (b:=uS 7) (by kernel_rfl) (hD 7 (Zp (by kernel_rfl)))) (.pointer (some ⟨ab,ao+last,none⟩)) (by go_simp) hK
      ·exact Zv (T:=22) (x:=Operand.tmp 47) (t:=22) (d:=some 48) rfl (.pointer (some ⟨ab,ao+last,none⟩)) (Eq.trans (b:=uS 8) (by kernel_rfl) (hD 8 (Zp (by kernel_rfl)))) (.slice (some ⟨rb,ro,none⟩) row.length d) (by go_simp) hK
      ·exact XY (T:=22) (x:=Operand.tmp 48) (y:=Operand.tmp 49) (t:=0) (d:=some 50) rfl (.slice (some ⟨rb,ro,none⟩) row.length d) (.int .i64 i) (Eq.trans (b:=uS 9) (by kernel_rfl) (hD 9 (Zp (by kernel_rfl)))) (by kernel_rfl) (.pointer (some ⟨rb,ro+i,none⟩)) (by go_simp) hK
      ·exact Zv (T:=3) (x:=Operand.tmp 50) (t:=3) (d:=some 51) rfl (.pointer (some ⟨rb,ro+i,none⟩)) (Eq.trans (b:=uS 11) (by kernel_rfl) (hD 11 (Zp (by kernel_rfl)))) (.int .i64 x) (by go_simp) hK
      ·(have e1:uS 1=.int .i64 cost:=hD 1 (Zp (by kernel_rfl));have e12:uS 12=.int .i64 x:=hD 12 (Zp (by kernel_rfl));exact Z5 (op:=Op.binOp BinOp.add 3 (Operand.tmp 40) (Operand.tmp 51) 3) (t:=3) (d:=some 52) rfl (.int .i64 (cost+x)) (by simp only[Zn,Act.put,List.setIfInBounds_toArray,List.set_cons_zero,List.set_cons_succ];unfold Ze;go_simp;try simp only[e1,e12];try go_simp) hK)
     simp only[Zn,Act.put,List.setIfInBounds_toArray,List.set_cons_zero,List.set_cons_succ];refine Zc (i:=14) (op:=Op.fieldAddr 238 (Operand.tmp 6) 2) (t:=0) (d:=some 53) (v:=_) rfl (by decide +kernel) (fun _ _ _ h=>h) (by intro _;unfold Ze;go_simp;try with_reducible rfl) ?_
     try simp only[lay]
     refine Zl 15 (by decide +kernel) (Xq rfl (.pointer (some ⟨sb,3,none⟩)) (.int .i64 (cost+x)) (by kernel_rfl) (by kernel_rfl) (by go_simp;rfl) ?_);refine wpAny_done (by kernel_rfl) ?_ _;clear c2 c3 cK cv cx f3 Y3 b13 bs3;generalize w3.setCell ⟨sb,3,none⟩ (.int .i64 (cost+x))=w4 at *;have d0:=NB.out.c0;have d1:=NB.out.c1;have d2:=NB.out.c2;have f2:w4.frozen? ⟨sb,2,none⟩=false:=NB.out.free 2;have MB:Hid (Blk (w4.setCell ⟨sb,2,none⟩ (.int .i64 i)) sb 238 #[.int .u64 m,.int .u64 0,.int .i64 i,.int .i64 (cost+x)]):=NB.out.set 2 (.int .i64 i);have MY:Hid (Ext w (w4.setCell ⟨sb,2,none⟩ (.int .i64 i))):=NY.out.setNew (p:=⟨sb,2,none⟩) (Nat.le_of_lt zsb) _;have MZ:Hid (Blk (w4.setCell ⟨sb,2,none⟩ (.int .i64 i)) w.heap.size 238 #[.int .u64 0,.int .u64 0,.int .i64 0,.int .i64 0]):=NZ.out.far (p:=⟨sb,2,none⟩) (Nat.ne_of_lt zsb) _;go_simp;go_wp2_with (fail);refine(WO.out _).mono ?_;rintro e w5 ⟨rfl,x5⟩;have bs5:=MB.out.drew.ext x5;have b15:=MZ.out.drew.ext x5;have k0:=bs5.c0;have k1:=bs5.c1;have g0:=bs5.free 0;have g1:=bs5.free 1;have NEW:Hid (Ext w ((w5.setCell ⟨sb,0,none⟩ (.int .u64 m2)).setCell ⟨sb,1,none⟩ (.int .u64 0))/\Blk ((w5.setCell ⟨sb,0,none⟩ (.int .u64 m2)).setCell ⟨sb,1,none⟩ (.int .u64 0)) w.heap.size 238 #[.int .u64 0,.int .u64 0,.int .i64 0,.int .i64 0]/\Blk ((w5.setCell ⟨sb,0,none⟩ (.int .u64 m2)).setCell ⟨sb,1,none⟩ (.int .u64 0)) sb 238 #[.int .u64 m2,.int .u64 0,.int .i64 i,.int .i64 (cost+x)]) :=
      ⟨((MY.out.drew.tr x5).setNew (p:=⟨sb,0,none⟩) (Nat.le_of_lt zsb) _).setNew (p:=⟨sb,1,none⟩) (Nat.le_of_lt zsb) _,(b15.far (p:=⟨sb,0,none⟩) (Nat.ne_of_lt zsb) _).far (p:=⟨sb,1,none⟩) (Nat.ne_of_lt zsb) _,(bs5.set 0 (.int .u64 m2)).set 1 (.int .u64 0)⟩
     clear bs5 b15 x5 d0 d1 d2;go_wp2_with (fail);go_roundw
     case rel=>exact⟨k+1,m2,i,cost+x,by go_num,by omega,HF3,HU2,HL2,NEW⟩
     case measure=>simp[intOf];omega
    ·have e1:(decide (0<=c/\c<64)&&m.testBit c.toNat)=false:=by
      by_cases h2:0<=c/\c<64
      ·cases h3:m.testBit c.toNat with
       | false=>simp
       | true=>exact absurd ⟨h2.1,h2.2,h3⟩ hin
      ·rw[decide_eq_false h2];rfl
     rw[e1];have HF3:Hid (r=none):=by
      have h:=HF2.out;rw[if_neg hin] at h;exact h
     have d0:=b13.out.c0;have d1:=b13.out.c1;have d2:=b13.out.c2;have d3:=b13.out.c3;have f0:=b13.out.free 0;have f1:=b13.out.free 1;have f2:=b13.out.free 2;have f3:=b13.out.free 3;clear hin e1 HF2 HA;go_wp2_with (fail);refine bodyPost_ret (v:=.tuple #[Q7 0 0 0,.bool false]) (by simp[results,Tryz.results210,go_sem, *]) rfl ⟨by rw[HF3.out];rfl,?_⟩;exact(((Y3.out.setNew (p:=⟨w.heap.size,0,none⟩) (Nat.le_refl _) _).setNew (p:=⟨w.heap.size,1,none⟩) (Nat.le_refl _) _).setNew (p:=⟨w.heap.size,2,none⟩) (Nat.le_refl _) _).setNew (p:=⟨w.heap.size,3,none⟩) (Nat.le_refl _) _
   ·obtain rfl:k=p.length:=by omega
    have HF3:Hid (r=some (m,last,cost)):=by
     have h:=HF.out;rw[List.drop_length] at h;exact h.symm
    have d0:=b1.out.c0;have d1:=b1.out.c1;have d2:=b1.out.c2;have d3:=b1.out.c3;have f0:=b1.out.free 0;have f1:=b1.out.free 1;have f2:=b1.out.free 2;have f3:=b1.out.free 3;go_wp2_with (fail);refine bodyPost_ret (v:=.tuple #[Q7 m last cost,.bool true]) (by simp[results,Tryz.results210,go_sem, *]) rfl ⟨by rw[HF3.out];rfl,?_⟩;exact(((Y.out.setNew (p:=⟨w.heap.size,0,none⟩) (Nat.le_refl _) _).setNew (p:=⟨w.heap.size,1,none⟩) (Nat.le_refl _) _).setNew (p:=⟨w.heap.size,2,none⟩) (Nat.le_refl _) _).setNew (p:=⟨w.heap.size,3,none⟩) (Nat.le_refl _) _
end
section
open Go
section
variable {P:Program} {ops:Array Oper} {Q:Exit->Act->World->Prop}
theorem Ul (rem:List (Nat×Option Tmp))(f:Nat->Value){listed0:Array Bool}(listed1:Array Bool)(hok:Ud ops listed0 listed1 rem=true){a0:Act}{w:World}{n:Nat}
  (step:∀ p∈rem,∀ u:Nat->Value,(∀ j∈WM ops rem p.1,u j=f j)->∀ K:Act->World->Prop,K ((Zn a0 rem u).put p.2 (f p.1)) w->wpOp P ops Q p.1 K (Zn a0 rem u) w)
  (done:wpAny P .any ops Q n listed1 (Zn a0 rem f) w):wpAny P .any ops Q (rem.length+n) listed0 a0 w:=by
 refine ZM rem (fun w'=>w'=w) (fun i v _=>v=f i) (fun _ _=>True) listed1 hok (fun _ _ _ _ h _=>h) ?_ n ?_ rfl
 ·rintro p hp u w' rfl hD K hK
  exact step p hp u hD K (hK _ _ rfl rfl trivial)
 ·rintro u w' rfl hV
  have:∀ qs:List (Nat×Option Tmp),(∀ p∈qs,u p.1=f p.1)->Zn a0 qs u=Zn a0 qs f:=by
   intro qs
   induction qs with
   | nil=>intro _;rfl
   | cons q qs ih =>
    intro h;simp only[Zn,ih (fun p hp=>h p (List.mem_cons_of_mem _ hp)),h q List.mem_cons_self]
  rw[this rem hV];exact done
end
end
section
open Go
def UP (K:Act->World->Prop) : Exit->Act->World->Prop
 | .normal,a,w=>K a w
 | _,_,_=>False
theorem Qt {K:Act->World->Prop}{a:Act}{w:World}(h:K a w) : UP K .normal a w:=h
theorem Q8 {K:Act->World->Prop}(h:LetsOut (UP K)) : False:=by
 obtain⟨a,w,h⟩:=h;exact h
section
variable {F:Fence} {n:Nat} {P:Program} {ops:Array Oper} {Q:Exit->Act->World->Prop} {K:Act->World->Prop}
theorem UQ (h1:∀ f,F.fn f)(h2:F.depth=none)(h3:F.alive=false)(m:Machine) : m.fenced P F:=by
 intro g _;refine⟨fun h=>?_,Or.inl (h1 _),fun _ _=>h1 _,fun _ h=>?_⟩
 ·rw[h3] at h;cases h
 ·rw[h2] at h;cases h
theorem XO (h1:∀ f,F.fn f)(h2:F.depth=none)(h3:F.alive=false){f:FuncId}{args:Array Value}{w:World}{R:Ending->World->Prop}(h:Calls P f args w R) : CallsIn F n P f args w R:=by
 refine⟨h1 _,fun cs _=>?_⟩;obtain⟨e,w',fr,r,s,x⟩:=h cs;refine⟨e,w',fr,r,?_,x⟩
 cases e with
 | returned v=>exact(StepsIn.of_steps s).mono fun m _=>UQ h1 h2 h3 m
 | panicked chain=>exact(StepsIn.of_steps s).mono fun m _=>UQ h1 h2 h3 m
 | outgrown=>exact s
theorem ZdZ (h1:∀ f,F.fn f)(h2:F.depth=none)(h3:F.alive=false){row:String}{args:Array Value}{w:World}{R:Value->World->Prop}(h:Rows P row args w R) : RowsIn F n P row args w R:=by
 intro c cs _;obtain⟨v,w',r,s⟩:=h c cs;exact⟨v,w',r,(StepsIn.of_steps s).mono fun m _=>UQ h1 h2 h3 m⟩
theorem Ze7 {o:Oper}{a:Act}{w:World}{K1 K2:Act->World->Prop}(hd:∀ c,o.op≠.defer c)(h1:∀ f,F.fn f)(h2:F.depth=none)(h3:F.alive=false)(hK:∀ a w,K1 a w->K2 a w)
  (h:o.wp P a w K1 (UP K)):o.wpIn F n P a w K2 Q:=by
 unfold Oper.wpIn;refine⟨fun f _=>h1 f,?_⟩;rw[Oper.semAt_eq _ _ _ hd];unfold Oper.wp at h;generalize (execOp a.eval o).run P w=r at *
 cases r with
 | ok x w' =>
  cases x<;>simp only[Oper.upon] at h<;>simp only[Oper.uponIn]
  case value=>exact hK _ _ h
  case skip=>exact hK _ _ h
  case defer=>exact hK _ _ h
  case enter f args =>
   refine⟨fun h=>(by rw[h2] at h;cases h),(XO h1 h2 h3 h).mono fun e w'' he=>?_⟩
   cases e with
   | returned v=>exact hK _ _ he
   | panicked chain=>exact he.elim
   | outgrown=>exact(Q8 he).elim
  case row row args =>
   exact⟨fun h=>(by rw[h2] at h;cases h),(ZdZ h1 h2 h3 h).mono fun v w'' he=>hK _ _ he⟩
 | halt x w' =>
  cases x<;>simp only[Oper.upon] at h
  exact h.elim
theorem Xj {md:Region.Mode}(hd:∀ (i:Nat) (o:Oper),ops[i]?=some o->∀ c,o.op≠.defer c)(h1:∀ f,F.fn f)(h2:F.depth=none)(h3:F.alive=false) :
  ∀ (fuel:Nat) (listed:Array Bool) (a:Act) (w:World),wpAny P md ops (UP (Q .normal)) fuel listed a w->wpAnyIn F n P md ops Q fuel listed a w
 | 0,_,_,_,h=>⟨h.1,h.2⟩
 | fuel+1,_,_,_,h=>by
  refine⟨fun h0=>h.1 h0,fun i hi=>?_⟩;have h4:=h.2 i hi;unfold wpOp at h4;unfold wpOpIn;split
  ·rename_i ho
   simp only[ho] at h4;exact Xj hd h1 h2 h3 fuel _ _ _ h4
  ·rename_i o ho
   simp only[ho] at h4;split
   ·rename_i hw
    simp only[hw,if_true] at h4;rcases h4 with h4 | h4
    ·exact Ze7 (hd i o ho) h1 h2 h3 (fun a w h=>Xj hd h1 h2 h3 fuel _ a w h) h4
    ·exact(Q8 h4.2).elim
   ·rename_i hw
    simp only[hw] at h4;exact⟨fun f _=>h1 f,Xj hd h1 h2 h3 fuel _ _ _ h4⟩
theorem Wk {id:Nat}{a:Act}{w:World}{l:List Oper}(hm:P.follows .mixedOrders=true)(hd:l.all (fun o => !Zaj o)=true)(h1:∀ f,F.fn f)(h2:F.depth=none)(h3:F.alive=false)
  (h:wpAny P .any l.toArray (UP (Q .normal)) l.toArray.size (Array.replicate l.toArray.size false) a w.drew):(Code.region id l.toArray true).wpIn F n P Q a w:=by
 refine wpIn_region_any hm (Xj ?_ h1 h2 h3 _ _ _ _ h);intro i o ho c hc;have h1:o∈l:=by
  have h2:l[i]?=some o:=by simpa using ho
  exact List.mem_of_getElem? h2
 have h3:=List.all_eq_true.1 hd o h1;obtain⟨dst,op,ty,pos,af,gu⟩:=o;simp only at hc;subst hc;simp[Zaj] at h3
end
end
end Go.Proofs.YtnbcmiaaleambaaGreatDoor
