/- packed and squeezed by programs (see wip/) -/
import Derived.Test.YtmojhhlcocjoaaaGreatDoorShowLinesP3
set_option maxRecDepth 100000
set_option maxHeartbeats 16000000
set_option linter.unusedVariables false
set_option linter.unusedSimpArgs false
namespace Go.Proofs.YtmojhhlcocjoaaaGreatDoor
open Go.RowKit Go.ChangeShapes Go.WideShapes Go.ChangeAt Go.Deep
def YB : Int->List Int->Int
 | b,[]=>b
 | b,x::l=>YB (if b<0 then x else if x<b then x else b) l
theorem V9 {B:Int} : ∀ {l:List Int} {b:Int},(∀ x∈l,0<=x/\x<=B)->b<=B->(0<=b\/l≠[])->0<=YB b l/\YB b l<=B
 | [],b,_,h1,h2=>by
  rcases h2 with h2 | h2
  ·exact⟨h2,h1⟩
  ·exact absurd rfl h2
 | x::l,b,h,h1,h2=>by
  have hx:=h x (by simp);unfold YB;refine V9 (fun y hy=>h y (by simp[hy])) ?_ (.inl ?_)<;>split<;>(try split)<;>omega
theorem Ua : ∀ {l:List Int} {b:Int},(∀ x∈l,0<=x)->(∀ x∈l,YB b l<=x)/\(0<=b->YB b l<=b)
 | [],b,_=>⟨fun x hx=>absurd hx List.not_mem_nil,fun _=>Int.le_refl _⟩
 | x::l,b,h=>by
  have hx:=h x (by simp);have ih:=Ua (l:=l) (b:=if b<0 then x else if x<b then x else b) fun y hy=>h y (by simp[hy])
  unfold YB;refine⟨fun y hy=>?_,fun hb=>?_⟩
  ·rcases List.mem_cons.1 hy with rfl | hy
   ·refine Int.le_trans (ih.2 ?_) ?_<;>split<;>(try split)<;>omega
   ·exact ih.1 y hy
  ·refine Int.le_trans (ih.2 ?_) ?_<;>split<;>(try split)<;>omega
theorem Wn (f:Nat->Int) : ∀ (l:List Nat) (b:Int),YB b (l.map f)=Zk f b l
 | [],b=>rfl
 | x::l,b=>by
  show YB _ (l.map f)=_;rw[Wn f l]
  rfl
def offs (ms:List (List Int)) : List Int:=ms.map (YB (-1))
def VG (ms:List (List Int))(L:Nat) : List Int:=(List.range L).map fun c=>YT c (-1) ms (offs ms)
def XR (ms:List (List Int))(L:Nat) : Int:=Zi (offs ms)+Zi (VG ms L)
theorem JL {g:Nat->Nat}{h:List Int->List Int}{c:Nat} : ∀ (rows:List (List Int)) (o:List Int) (b:Int),(∀ row∈rows,(h row).getD c 0=row.getD (g c) 0)->YT c b (rows.map h) o=YT (g c) b rows o
 | [],o,b,_=>by cases o<;>rfl
 | row::rows,[],b,_=>rfl
 | row::rows,x::o,b,hh=>by
  have h1:=hh row (by simp);simp only[List.map_cons,YT];rw[h1];exact JL rows o _ fun q hq=>hh q (by simp[hq])
theorem Zav (rows:List (List Int))(l:List Nat) : XR (rows.map fun row=>l.map fun c=>row.getD c 0) l.length=ZY rows l:=by
 have ho:offs (rows.map fun row=>l.map fun c=>row.getD c 0)=Uw rows l:=by
  unfold offs Uw;rw[List.map_map];refine List.map_congr_left fun row _=>?_
  exact Wn (fun c=>row.getD c 0) l (-1)
 unfold XR ZY VG;rw[ho]
 congr 2
 apply List.ext_getElem
 ·simp
 intro k h1 h2;simp only[List.length_map,List.length_range] at h1 h2;rw[List.getElem_map,List.getElem_map,List.getElem_range];have:=JL (g:=fun k=>l.getD k 0) (h:=fun row=>l.map fun c=>row.getD c 0) (c:=k) rows (Uw rows l) (-1) (fun row _=>by
  simp[List.getD,h2])
 rw[this];simp[List.getD,h2]
theorem JM {c:Nat}{B:Int} : ∀ {rows:List (List Int)} {off:List Int} {b:Int},(∀ (k:Nat) (x:List Int) (o:Int),rows[k]?=some x->off[k]?=some o->0<=x.getD c 0-o/\x.getD c 0-o<=B)->rows.length=off.length->b<=B->(0<=b\/rows≠[])->0<=YT c b rows off/\YT c b rows off<=B
 | [],off,b,_,_,h1,h2=>by
  rcases h2 with h2 | h2
  ·cases off<;>exact⟨h2,h1⟩
  ·exact absurd rfl h2
 | row::rows,[],b,_,hl,_,_=>by simp at hl
 | row::rows,o::off,b,h,hl,h1,h2=>by
  have hx:=h 0 row o rfl rfl;unfold YT;refine JM (fun k x o h3 h4=>h (k+1) x o h3 h4) (by simpa using hl) ?_ (.inl ?_)<;>split<;>(try split)<;>omega
theorem Yw {l:List Int}{k:Nat}{x:Int}(h:l[k]?=some x) : Zi (l.take (k+1))=Zi (l.take k)+x:=by
 rw[List.take_add_one,h,Jo];simp[Zi]
theorem Xd {B:Int}{l:List Int}(h:∀ x∈l,0<=x/\x<=B)(hB:0<=B) : ∀ k:Nat,0<=Zi (l.take k)/\Zi (l.take k)<=B*k
 | 0=>by simp[Zi]
 | k+1=>by
  have h1:=Xd h hB k;have e:B*((k+1:Nat):Int)=B*k+B:=by rw[Int.natCast_add,Int.mul_add];simp
  rw[e]
  by_cases hk:k<l.length
  ·have ek:l[k]?=some l[k]:=List.getElem?_eq_getElem hk
   rw[Yw ek];have:=h _ (List.getElem_mem hk);omega
  ·rw[List.take_of_length_le (by omega)]
   rw[List.take_of_length_le (by omega)] at h1;omega
def Xu (off:List Int)(k:Nat) : Array Value:=((List.range 30).map fun j=>Value.int .i64 (if j<k then off.getD j 0 else 0)).toArray
theorem Xv {off:List Int}{k j:Nat}(hj:j<30) : (Xu off k)[j]?=some (.int .i64 (if j<k then off.getD j 0 else 0)):=by
 unfold Xu;simp[hj]
theorem QO {off:List Int}{k:Nat}{x:Int}(hk:k<30)(hx:off[k]?=some x) : (Xu off k).setIfInBounds k (.int .i64 x)=Xu off (k+1):=by
 apply Array.ext_getElem?;intro i
 by_cases hi:i<30
 ·rw[Xv hi]
  by_cases e:k=i
  ·subst e
   rw[Array.getElem?_setIfInBounds_self_of_lt (by unfold Xu;simp;omega),if_pos (by omega),getD_some hx]
  ·rw[Array.getElem?_setIfInBounds_ne e,Xv hi]
   by_cases hik:i<k
   ·rw[if_pos hik,if_pos (by omega)]
   ·rw[if_neg hik,if_neg (by omega)]
 ·rw[Array.getElem?_eq_none (by unfold Xu;simp;omega),Array.getElem?_eq_none (by unfold Xu;simp;omega)]
abbrev ZdR : Array Value:=#[.int .i64 0,.int .i64 0,.int .i64 0,.int .i64 0,.int .i64 0,.int .i64 0,.int .i64 0,.int .i64 0,.int .i64 0,.int .i64 0,.int .i64 0,.int .i64 0,.int .i64 0,.int .i64 0,.int .i64 0,.int .i64 0,.int .i64 0,.int .i64 0,.int .i64 0,.int .i64 0,.int .i64 0,.int .i64 0,.int .i64 0,.int .i64 0,.int .i64 0,.int .i64 0,.int .i64 0,.int .i64 0,.int .i64 0,.int .i64 0]
theorem Qd (off:List Int) : Xu off 0=ZdR:=by
 apply Array.ext_getElem?;intro i
 by_cases hi:i<30
 ·rw[Xv hi,if_neg (by omega)]
  have:i=0\/i=1\/i=2\/i=3\/i=4\/i=5\/i=6\/i=7\/i=8\/i=9\/i=10\/i=11\/i=12\/i=13\/i=14\/i=15\/i=16\/i=17\/i=18\/i=19\/i=20\/i=21\/i=22\/i=23\/i=24\/i=25\/i=26\/i=27\/i=28\/i=29:=by omega
  rcases this with rfl | rfl | rfl | rfl | rfl | rfl | rfl | rfl | rfl | rfl | rfl | rfl | rfl | rfl | rfl | rfl | rfl | rfl | rfl | rfl | rfl | rfl | rfl | rfl | rfl | rfl | rfl | rfl | rfl | rfl<;>rfl
 ·rw[Array.getElem?_eq_none (by unfold Xu;simp;omega),Array.getElem?_eq_none (by simp;omega)]
theorem JN (A:Option Addr)(mc:Nat)(w:World) : Calls Tryz.prog 152 #[.slice A 0 mc] w fun e w'=>e=.returned (.int .i64 0)/\Ext w w':=by
 go_enter Tryz.func152,Tryz.ntmps152;go_wp2_with (fail);refine wp_loop_rounds 1 ?_;rw[rounds_succ];go_wp2_with (fail);refine wp_loop_rounds 1 ?_;rw[rounds_succ];go_wp2_with (fail);go_ret;exact⟨rfl,by(repeat (first | assumption | exact Ext.rf _ | apply Ext.drew | apply Ext.drewN | apply Ext.alloc))⟩
theorem JO (ms:List (List Int))(L:Nat)(M:Option Addr)(mc:Nat)(w:World)(hM:RdE 1 RInts w M ms)(hl:∀ row∈ms,row.length=L)(h0:0<L)(hL:L<=24)(hn0:0<ms.length)(hn:ms.length<=24)(num:∀ row∈ms,∀ x∈row,0<=x/\x<=2147483647) :
  Calls Tryz.prog 152 #[.slice M ms.length mc] w fun e w'=>e=.returned (.int .i64 (XR ms L))/\Ext w w':=by
 have LO:(offs ms).length=ms.length:=by simp[offs]
 have OB:∀ x∈offs ms,0<=x/\x<=2147483647:=fun x hx=>by
  obtain⟨row,hr,rfl⟩:=List.mem_map.1 hx;exact V9 (num row hr) (by omega) (.inr (by intro e;have:=hl row hr;rw[e] at this;simp at this;omega))
 have OG:∀ k row,ms[k]?=some row->(offs ms)[k]?=some (YB (-1) row):=fun k row h=>by unfold offs;rw[List.getElem?_map,h];rfl
 have CB:∀ x∈VG ms L,0<=x/\x<=2147483647:=fun x hx=>by
  obtain⟨c,hc,rfl⟩:=List.mem_map.1 hx;have hc:=List.mem_range.1 hc;refine JM (fun k row o h1 h2=>?_) LO.symm (by omega) (.inr (by intro e;rw[e] at hn0;simp at hn0));rw[OG k row h1] at h2;obtain rfl:=Option.some.inj h2;have hr:=List.mem_of_getElem? h1;have hcl:c<row.length:=by rw[hl row hr];exact hc
  have e:row.getD c 0=row[c]:=by simp[List.getD,hcl]
  have h3:=(Ua (b:=-1) fun x hx=>(num row hr x hx).1).1 _ (List.getElem_mem hcl);have h4:=num row hr _ (List.getElem_mem hcl);have h5:=OB _ (List.mem_map.2 ⟨row,hr,rfl⟩);rw[e];omega
 have CG:∀ c,c<L->(VG ms L)[c]?=some (YT c (-1) ms (offs ms)):=fun c hc=>by simp[VG,hc]
 have LC:(VG ms L).length=L:=by simp[VG]
 have TOT:Hid (XR ms L=Zi (offs ms)+Zi (VG ms L)):=rfl;generalize XR ms L=tot at *;have SB:=Xd OB (by omega);have SC:=Xd CB (by omega);have LZ:=Qd (offs ms);generalize offs ms=off at *;generalize VG ms L=cols at *;have START:Hid (Ext w (w.alloc (.cells #[.int .i64 0,.int .i64 0,.int .i64 0,.int .i64 0,.int .i64 0,.int .i64 0,.int .i64 0,.int .i64 0,.int .i64 0,.int .i64 0,.int .i64 0,.int .i64 0,.int .i64 0,.int .i64 0,.int .i64 0,.int .i64 0,.int .i64 0,.int .i64 0,.int .i64 0,.int .i64 0,.int .i64 0,.int .i64 0,.int .i64 0,.int .i64 0,.int .i64 0,.int .i64 0,.int .i64 0,.int .i64 0,.int .i64 0,.int .i64 0] 229))/\Blk (w.alloc (.cells #[.int .i64 0,.int .i64 0,.int .i64 0,.int .i64 0,.int .i64 0,.int .i64 0,.int .i64 0,.int .i64 0,.int .i64 0,.int .i64 0,.int .i64 0,.int .i64 0,.int .i64 0,.int .i64 0,.int .i64 0,.int .i64 0,.int .i64 0,.int .i64 0,.int .i64 0,.int .i64 0,.int .i64 0,.int .i64 0,.int .i64 0,.int .i64 0,.int .i64 0,.int .i64 0,.int .i64 0,.int .i64 0,.int .i64 0,.int .i64 0] 229)) w.heap.size 229 (Xu off 0)) :=
  ⟨(Ext.rf _).alloc _,by rw[LZ];exact .new rfl⟩
 replace LO:=Hd LO;replace OB:=Hd OB;replace OG:=Hd OG;replace CB:=Hd CB;replace CG:=Hd CG;replace LC:=Hd LC;replace SB:=Hd SB;replace SC:=Hd SC;replace hl:=Hd hl;replace num:=Hd num;replace hM:=Hd hM;clear LZ;go_enter Tryz.func152,Tryz.ntmps152;go_wp2_with (fail);go_loopw [5,3] (fun v s wr=>∃ k:Nat,v=.int .i64 k/\s=.int .i64 (Zi (off.take k))/\k<=ms.length/\Hid (Ext w wr/\Blk wr w.heap.size 229 (Xu off k))) (fun v _ _=>ms.length-(intOf v).toNat)
 case atStart=>exact⟨0,rfl,rfl,by omega,START⟩
 case round =>
  obtain⟨wo,rfl⟩:∃ wo:World,wo=wr:=⟨_,rfl⟩;obtain⟨k,rfl,rfl,hk,HH⟩:=hrel;clear START
  by_cases hlt:k<ms.length
  ·obtain⟨Y,bL⟩:=HH.out
   obtain⟨mb,mo,D,row,d,rfl,_,cD,er,_,rD,iD,ld,md⟩:=(hM.out.ext Y fun _ _ h=>h.ext Y).ints hlt;have hr:=List.mem_of_getElem? er.out;have eo:=OG.out k row er.out;have ob:=OB.out _ (List.mem_of_getElem? eo);have hrl:Hid (row.length=L):=hl.out row hr;have q1:(k:Int)<(ms.length:Int):=by omega
   obtain⟨o,ho⟩:∃ o,Hid (YB (-1) row=o):=⟨_,rfl⟩;rw[ho.out] at eo ob;have SN:=Yw eo;have sb1:=SB.out k;obtain⟨s,hs⟩:∃ s,Hid (s=Zi (off.take k)):=⟨_,rfl⟩;rw[<-hs.out] at SN sb1 ⊢;have hnum:=Hd (num.out row hr);have zD:=World.block_lt_of_cell? _ _ cD;replace SN:=Hd SN;replace eo:=Hd eo;replace Y:=Hd Y;replace bL:=Hd bL;replace rD:=Hd rD;replace iD:=Hd iD;clear er HH hr;go_wp2_with (fail);go_loopw [7,6] (fun v bv wr=>∃ (j:Nat) (bb:Int),v=.int .i64 j/\bv=.int .i64 bb/\j<=row.length/\Hid (YB bb (row.drop j)=o)/\Hid (Ext wo wr)) (fun v _ _=>row.length-(intOf v).toNat)
   case atStart=>exact⟨0,-1,rfl,rfl,by omega,ho,Ext.rf _⟩
   case round =>
    obtain⟨wi,rfl⟩:∃ wi:World,wi=wr:=⟨_,rfl⟩;obtain⟨j,bb,rfl,rfl,hj,HB,YI⟩:=hrel;have cD':wi.cell? ⟨mb,mo+k,none⟩=some (.slice D row.length d):=Ze YI.out zD cD
    by_cases hjl:j<row.length
    ·obtain⟨rb,ro,x,rfl,_,cx,ex,dx⟩:=(rD.out.ext YI.out).at hjl
     have q2:(j:Int)<(row.length:Int):=by omega
     have hx:=hnum.out x (List.mem_of_getElem? ex.out);have x0:(0:Int)<=x:=hx.1;have HB2:Hid (YB (if bb<0 then x else if x<bb then x else bb) (row.drop (j+1))=o):=by
      have h:=HB.out;rw[dx.out] at h;exact h
     clear HB ex dx hx
     by_cases hb0:bb<0
     ·rw[if_pos hb0] at HB2
      go_wp2_with (fail);go_roundw
      case rel=>exact⟨j+1,x,by go_num,rfl,by omega,HB2,YI⟩
      case measure=>simp[intOf];omega
     ·rw[if_neg hb0] at HB2
      by_cases hxb:x<bb
      ·rw[if_pos hxb] at HB2
       go_wp2_with (fail);go_roundw
       case rel=>exact⟨j+1,x,by go_num,rfl,by omega,HB2,YI⟩
       case measure=>simp[intOf];omega
      ·rw[if_neg hxb] at HB2
       go_wp2_with (fail);go_roundw
       case rel=>exact⟨j+1,bb,by go_num,rfl,by omega,HB2,YI⟩
       case measure=>simp[intOf];omega
    ·have q2:¬(j:Int)<(row.length:Int):=by omega
     have hbo:bb=o:=by
      have h:=HB.out;rw[List.drop_of_length_le (by omega)] at h;exact h
     obtain rfl:=hbo;have nb:¬bb<0:=by omega
     have bI:=bL.out.ext YI.out;have fl:=bI.free k;have k30:(k:Int)<30:=by omega
     have hw1:IntKind.i64.wrap (s+bb)=s+bb:=IntWalk.i64_in _ (by omega);have NX:Hid (Ext w (wi.setCell ⟨w.heap.size,k,none⟩ (.int .i64 bb))/\Blk (wi.setCell ⟨w.heap.size,k,none⟩ (.int .i64 bb)) w.heap.size 229 (Xu off (k+1))):=by
      refine⟨(Y.out.tr YI.out).setNew (p:=⟨w.heap.size,k,none⟩) (Nat.le_refl _) _,?_⟩;rw[<-QO (by omega) eo.out];exact bI.set k _
     have cl:wi.cell? ⟨w.heap.size,k,none⟩=some (.int .i64 (if k<k then off.getD k 0 else 0)):=by rw[bI.cell,Xv (by omega)]
     clear HB bI ho;go_wp2_with (first | go_quiet (fail) | go_region);go_roundw
     case rel=>exact⟨k+1,by go_num,by rw[SN.out],by omega,NX.out⟩
     case measure=>simp[intOf];omega
  ·obtain rfl:k=ms.length:=by omega
   have q1:¬(ms.length:Int)<(ms.length:Int):=by omega
   have SO:Hid (Zi (off.take ms.length)=Zi off):=Hd (by rw[<-LO.out,List.take_length]);have so:=SB.out ms.length;rw[SO.out] at so ⊢;obtain⟨Y,bL⟩:=HH.out;replace Y:=Hd Y;replace bL:=Hd bL;have TOT2:Hid (tot=Zi off+Zi cols):=TOT.out;obtain⟨s0,hs0⟩:∃ s0,Hid (s0=Zi off):=⟨_,rfl⟩;rw[<-hs0.out] at so TOT2 ⊢;clear HH SO TOT SB;go_wp2_with (fail);go_loopw [8,3] (fun v s wr=>∃ c:Nat,v=.int .i64 c/\s=.int .i64 (s0+Zi (cols.take c))/\c<=L/\Hid (Ext wo wr)) (fun v _ _=>L-(intOf v).toNat)
   case atStart=>exact⟨0,rfl,by rw[List.take_zero];simp[Zi],by omega,Ext.rf _⟩
   case round =>
    obtain⟨wp,rfl⟩:∃ wp:World,wp=wr:=⟨_,rfl⟩;obtain⟨c,rfl,rfl,hc,YP⟩:=hrel;have sc1:=SC.out c;obtain⟨mb,mo,D0,row0,d0,rfl,zb,cD0,er0,_,_,_,_,_⟩:=(hM.out.ext (Y.out.tr YP.out) fun _ _ h=>h.ext (Y.out.tr YP.out)).ints (r:=0) hn0;have hl0:row0.length=L:=hl.out row0 (List.mem_of_getElem? er0.out);rw[hl0] at cD0;rw[Nat.add_zero] at cD0;clear er0 hl0
    by_cases hcl:c<L
    ·have q2:(c:Int)<(L:Int):=by omega
     have ec:=CG.out c hcl;obtain⟨cv,hcv⟩:∃ cv,Hid (YT c (-1) ms off=cv):=⟨_,rfl⟩;rw[hcv.out] at ec;have cb:=CB.out _ (List.mem_of_getElem? ec);have SN:=Yw ec;obtain⟨s1,hs1⟩:∃ s1,Hid (s1=Zi (cols.take c)):=⟨_,rfl⟩;rw[<-hs1.out] at SN sc1 ⊢;replace SN:=Hd SN;clear ec;go_wp2_with (fail);go_loopw [10,9] (fun v bv wr=>∃ (k:Nat) (bb:Int),v=.int .i64 k/\bv=.int .i64 bb/\k<=ms.length/\Hid (YT c bb (ms.drop k) (off.drop k)=cv)/\Hid (Ext wp wr)) (fun v _ _=>ms.length-(intOf v).toNat)
     case atStart=>exact⟨0,-1,rfl,rfl,by omega,hcv,Ext.rf _⟩
     case round =>
      obtain⟨wi,rfl⟩:∃ wi:World,wi=wr:=⟨_,rfl⟩;obtain⟨k,bb,rfl,rfl,hk,HB,YI⟩:=hrel
      by_cases hkl:k<ms.length
      ·have YA:=(Y.out.tr YP.out).tr YI.out
       obtain⟨mb',mo',D,row,d,hq,_,cD,er,dr,rD,iD,ld,md⟩:=(hM.out.ext YA fun _ _ h=>h.ext YA).ints hkl;obtain⟨rfl,rfl⟩:mb=mb'/\mo=mo':=by simpa using hq
       have hr:=List.mem_of_getElem? er.out;have eo:=OG.out k row er.out;have hrl:=hl.out row hr;obtain⟨rb,ro,x,rfl,_,cx,ex,_⟩:=rD.at (k:=c) (by omega);have hx:=num.out row hr x (List.mem_of_getElem? ex.out);have x0:(0:Int)<=x:=hx.1;have ob:=OB.out _ (List.mem_of_getElem? eo);obtain⟨o,ho⟩:∃ o,Hid (YB (-1) row=o):=⟨_,rfl⟩;rw[ho.out] at eo ob;have dof:off.drop k=o::off.drop (k+1):=by
        have hkl2:k<off.length:=by rw[LO.out];exact hkl
        rw[List.drop_eq_getElem_cons hkl2];rw[List.getElem?_eq_getElem hkl2] at eo;rw[Option.some.inj eo]
       have HB2:Hid (YT c (if bb<0 then x-o else if x-o<bb then x-o else bb) (ms.drop (k+1)) (off.drop (k+1))=cv):=by
        have h:=HB.out;rw[dr.out,dof,YT,getD_some ex.out] at h;exact h
       have cl:wi.cell? ⟨w.heap.size,k,none⟩=some (.int .i64 o):=by
        rw[((bL.out.ext YP.out).ext YI.out).cell,Xv (by omega),if_pos hkl,getD_some eo]
       have q3:(k:Int)<(ms.length:Int):=by omega
       have q4:(c:Int)<(row.length:Int):=by omega
       have k30:(k:Int)<30:=by omega
       have hw2:IntKind.i64.wrap (x-o)=x-o:=IntWalk.i64_in _ (by omega);replace hrl:=Hd hrl;clear HB ex er dr eo dof hr hq rD
       by_cases hb0:bb<0
       ·rw[if_pos hb0] at HB2
        have t1:decide (bb<0)=true:=decide_eq_true hb0;go_wp2_with (fail);go_quiet (fail);go_wp2_with (fail);go_quiet (fail);go_wp2_with (fail);go_roundw
        case rel=>exact⟨k+1,x-o,by go_num,rfl,by omega,HB2,YI.out.drewN _⟩
        case measure=>simp[intOf];omega
       ·rw[if_neg hb0] at HB2
        have t1:decide (bb<0)=false:=decide_eq_false hb0
        by_cases hxb:x-o<bb
        ·rw[if_pos hxb] at HB2
         have t2:decide (x-o<bb)=true:=decide_eq_true hxb;go_wp2_with (fail);go_quiet (fail);go_wp2_with (fail);go_quiet (fail);go_wp2_with (fail);go_roundw
         case rel=>exact⟨k+1,x-o,by go_num,rfl,by omega,HB2,YI.out.drewN _⟩
         case measure=>simp[intOf];omega
        ·rw[if_neg hxb] at HB2
         have t2:decide (x-o<bb)=false:=decide_eq_false hxb;go_wp2_with (fail);go_quiet (fail);go_wp2_with (fail);go_roundw
         case rel=>exact⟨k+1,bb,by go_num,rfl,by omega,HB2,YI.out.drewN _⟩
         case measure=>simp[intOf];omega
      ·have q3:¬(k:Int)<(ms.length:Int):=by omega
       have hbo:bb=cv:=by
        have h:=HB.out;rw[List.drop_of_length_le (by omega)] at h;exact h
       obtain rfl:=hbo;have nb:¬bb<0:=by omega
       have hw1:IntKind.i64.wrap (s0+s1+bb)=s0+s1+bb:=IntWalk.i64_in _ (by omega);clear HB hcv;go_wp2_with (fail);go_roundw
       case rel=>exact⟨c+1,by go_num,by rw[SN.out,Int.add_assoc],by omega,YP.out.tr YI.out⟩
       case measure=>simp[intOf];omega
    ·obtain rfl:c=L:=by omega
     have q2:¬(c:Int)<(c:Int):=by omega
     have FIN:Hid (s0+Zi (cols.take c)=tot):=Hd (by rw[TOT2.out,<-LC.out,List.take_length]);go_wp2_with (fail);go_ret;exact⟨ZW FIN.out,Y.out.tr YP.out⟩
theorem Zcx {w:World}{base n c:Nat}{C:Option Addr}{us:List Value}{rows:List (List Int)}(h3:OwV w base 22 1 C n c us)(h4:RowsO w base us rows)(hi:∀ r∈rows,Ints r) : RdE 1 RInts w C rows:=by
 rcases h3.read with h0 | ⟨b',off,cur,hA,hb,hc⟩
 ·left
  have:=h4.1;rw[h0] at this;exact List.eq_nil_of_length_eq_zero this.symm
 ·refine .inr ⟨b',off,hA,(Array.getElem?_eq_some_iff.1 hb).1,fun k r hr=>?_⟩
  obtain⟨A',c',hu,ho⟩:=h4.2 k r hr;refine⟨[.slice A' r.length c'],⟨A',c',rfl,ho.read,hi r (List.mem_of_getElem? hr),ho.le.1,ho.le.2⟩,rfl,fun j v hj=>?_⟩
  cases j with
  | zero =>
   simp at hj;subst hj;rw[cell_of_row w b' _ cur _ (0,0) hb]
   simpa using hc k _ hu
  | succ j=>simp at hj
def Vi (rows:List (List Int))(l:List Nat) : List (List Int):=rows.map fun row=>l.map fun c=>row.getD c 0
theorem Q8 (i:InstP)(us:List Value)(P:Option Addr)(pc:Nat)(p:List Int)(w:World)(H:RInst w us i)(ok:SquareOk i)(hP:RdI w P p)(lp:p.length<=1000000000) :
  Calls Tryz.prog 98 #[.agg (List.toArray us),.slice P p.length pc] w fun e w'=>e=.returned (.tuple #[.int .i64 (Yj i.cost p).1,.int .i64 (Yj i.cost p).2])/\Ext w w':=by
 have rok:=Yx ok;have l1:=rok.n1;have l2:=rok.n2;have hnn:i.n=(i.cost.length:Int):=ok.len.symm;have FR:=fun(W:World) (x:Ext w W)=>ZbE i us P pc p W (H.ext x) i.cost.length hnn l1 l2 (hP.ext x) lp
 clear ok;obtain⟨kind,nn,cap,xw,xv,co⟩:=i;obtain⟨A,a,B,b,D,d,rfl,-,-,⟨hC,-,-⟩⟩:=H;simp only at *;subst hnn;obtain⟨r,hr⟩:∃ r,Hid (XE co.length p=r):=⟨_,rfl⟩;rw[hr.out] at FR;replace hP:=Hd hP;replace hC:=Hd hC;have B1:Hid (Blk (w.alloc (.cells #[.int .i64 kind,.int .i64 co.length,.int .i64 cap,.slice A xw.length a,.slice B xv.length b,.slice D co.length d] 25)) w.heap.size 25 #[.int .i64 kind,.int .i64 co.length,.int .i64 cap,.slice A xw.length a,.slice B xv.length b,.slice D co.length d]):=.new rfl
 cases r with
 | none =>
  have e:Yj co p=(0,1):=by unfold Yj;rw[hr.out]
  rw[e];unfold Zcw at FR;replace FR:=Hd FR;go_enter Tryz.func98,Tryz.ntmps98;go_wp2_with (fail);refine(FR.out _ (by(repeat (first | assumption | exact Ext.rf _ | apply Ext.drew | apply Ext.drewN | apply Ext.alloc)))).mono ?_;rintro e w1 ⟨rfl,x1⟩;have X1:=Hd (Ext.tr (a:=w) (by(repeat (first | assumption | exact Ext.rf _ | apply Ext.drew | apply Ext.drewN | apply Ext.alloc))) x1);clear x1;go_wp2_with (fail);go_ret2;exact⟨rfl,X1.out⟩
 | some m =>
  obtain⟨hpl,hin,hS⟩:=Qb l2 hr.out;have hlen:=ZbD l2 hr.out;obtain⟨tot,ht⟩:∃ tot,Hid (tot=Z1 co p+(if p.length<co.length then ZY (co.drop p.length) (Zb m) else 0)):=⟨_,rfl⟩;have e:Yj co p=(tot,0):=by unfold Yj;rw[hr.out];simp only[<-ht.out]
  rw[e];clear e;have RB:=Hd (Vh (rows:=co.drop p.length) (m:=m) (by rw[List.length_drop];omega) (fun row hr c hc=>rok.get (List.mem_of_mem_drop hr) (hS.2 c hc)));have hsub:=Hd hS.2;replace FR:=fun(W:World) (x:Ext w W)=>(show Calls _ _ _ W (VE m W) from FR W x)
  unfold VE at FR;replace FR:=Hd FR;clear hr hS;generalize Zb m=l at *;replace hin:=Hd hin;replace rok:=Hd rok;go_enter Tryz.func98,Tryz.ntmps98;go_wp2_with (fail);refine(FR.out _ (by(repeat (first | assumption | exact Ext.rf _ | apply Ext.drew | apply Ext.drewN | apply Ext.alloc)))).mono ?_;rintro e w1 ⟨A1,c1,rfl,o1,x1⟩;have X1:=Hd (Ext.tr (a:=w) (by(repeat (first | assumption | exact Ext.rf _ | apply Ext.drew | apply Ext.drewN | apply Ext.alloc))) x1);have BB:=Hd (B1.out.ext x1);replace o1:=Hd o1.read;clear x1;go_wp2_with (fail);go_loopw [9,8] (fun v s wr=>∃ (k:Nat) (su:Int),v=.int .i64 k/\s=.int .i64 su/\k<=p.length/\Hid (Z1 co (p.take k)=su)/\Hid (Ext w1 wr)) (fun v _ _=>p.length-(intOf v).toNat)
  case atStart=>exact⟨0,0,rfl,rfl,by omega,(by cases co<;>rfl:Z1 co (p.take 0)=0),Ext.rf _⟩
  case round =>
   obtain⟨wo,rfl⟩:∃ wo:World,wo=wr:=⟨_,rfl⟩;obtain⟨k,su,rfl,rfl,hk,HS,Y⟩:=hrel;have bdS:Hid (0<=su/\su<=2147483647*24):=by
    have h1:=VD (B:=2147483647) (rows:=co) (p:=p.take k) (by omega) fun row hr c hc=>by
     have:=hin.out c (List.mem_of_mem_take hc);exact rok.out.get hr (by omega)
    have h2:(p.take k).length<=24:=by rw[List.length_take];omega
    have h:0<=su/\su<=2147483647*24:=by
     rw[<-HS.out];omega
    exact h
   have d5:wo.cell? ⟨w.heap.size,5,none⟩=some (.slice D co.length d):=(BB.out.ext Y.out).cell 5;have d1:wo.cell? ⟨w.heap.size,1,none⟩=some (.int .i64 co.length):=(BB.out.ext Y.out).cell 1;have XW:=Hd (X1.out.tr Y.out)
   by_cases hlt:k<p.length
   ·have hkr:k<co.length:=by omega
    obtain⟨cb,cof,D',row,d',rfl,_,cD,er,_,rD,iD,ld,md⟩:=(hC.out.ext XW.out fun _ _ h=>h.ext XW.out).ints hkr;have hmem:=List.mem_of_getElem? er.out;obtain⟨pb,po,c,rfl,zp,cp,ep,_⟩:=(hP.out.ext XW.out).at hlt;have hc:=hin.out c (List.mem_of_getElem? ep.out);obtain⟨i,rfl⟩:∃ i:Nat,c=(i:Int):=⟨c.toNat,by omega⟩;have lrow:=rok.out.row row hmem;obtain⟨rb,ro,y,rfl,zy,cy,ey,_⟩:=rD.at (k:=i) (by omega);have yb:=rok.out.get hmem (c:=i) (by omega);rw[getD_some ey.out] at yb;have b1:=bdS.out;have hw:IntKind.i64.wrap (su+y)=su+y:=IntWalk.i64_in _ (by omega);have HS2:Hid (Z1 co (p.take (k+1))=su+y):=Hd (by
     rw[Vg er.out ep.out,HS.out,Int.toNat_natCast,getD_some ey.out])
    have q1:(k:Int)<(co.length:Int):=by omega
    have q2:(k:Int)<(p.length:Int):=by omega
    have q3:(i:Int)<(row.length:Int):=by omega
    clear er ep ey lrow b1 yb HS hc rD hmem d1;go_wp2_with (fail);go_quiet (fail);go_wp2_with (fail);go_roundw
    case rel=>exact⟨k+1,su+y,by go_num,rfl,by omega,HS2,Y.out.drewN _⟩
    case measure=>simp[intOf];omega
   ·obtain rfl:k=p.length:=by omega
    have HS2:Hid (Z1 co p=su):=by
     have h:=HS.out;rw[List.take_length] at h;exact h
    have q0:¬((p.length:Int)<(p.length:Int)):=by omega
    obtain⟨i0,hi,hz0,hz1,hz2⟩:=info_parts (Vu);replace hi:=Hd hi;replace hz0:=Hd hz0;replace hz1:=Hd hz1;replace hz2:=Hd hz2;have START:Hid (OwV wo w1.heap.size 22 1 none 0 0 []/\RowsO wo w1.heap.size [] ((Vi (co.drop p.length) l).take 0)/\Ext w1 wo):=⟨OwV.nil _ _ _ _,RowsO.nil _ _,Y.out⟩;clear HS d1 d5;go_wp2_with (fail);go_loopw [11,10] (fun v mv wr=>∃ (r k:Nat) (M':Option Addr) (mc:Nat) (ws:List Value),v=.int .i64 r/\mv=.slice M' k mc/\Hid (r=p.length+k)/\r<=co.length/\Hid (OwV wr w1.heap.size 22 1 M' k mc ws/\RowsO wr w1.heap.size ws ((Vi (co.drop p.length) l).take k)/\Ext w1 wr)) (fun v _ _=>co.length-(intOf v).toNat)
    case atStart=>exact⟨p.length,0,none,0,[],rfl,rfl,rfl,by omega,START⟩
    case round =>
     obtain⟨wp,rfl⟩:∃ wp:World,wp=wr:=⟨_,rfl⟩;obtain⟨r,k,M',mc,ws,rfl,rfl,hrk,hr,HH⟩:=hrel;clear START;obtain⟨oV,oR,YP⟩:=HH.out;have XP:=Hd (X1.out.tr YP);have d1:wp.cell? ⟨w.heap.size,1,none⟩=some (.int .i64 co.length):=(BB.out.ext YP).cell 1
     by_cases hrn:r<co.length
     ·have q1:(r:Int)<(co.length:Int):=by omega
      obtain⟨cb,cof,D',row,d',rfl,zcb,cD,er,_,rD,iD,ld,md⟩:=(hC.out.ext XP.out fun _ _ h=>h.ext XP.out).ints hrn;have hmem:=List.mem_of_getElem? er.out;have lrow:=Hd (rok.out.row row hmem);have etk:Hid ((Vi (co.drop p.length) l).take (k+1)=(Vi (co.drop p.length) l).take k++[l.map fun c=>row.getD c 0]):=by
       have e0:(Vi (co.drop p.length) l)[k]?=some (l.map fun c=>row.getD c 0):=by
        unfold Vi;rw[List.getElem?_map,List.getElem?_drop,<-hrk.out,er.out]
        rfl
       have h:(Vi (co.drop p.length) l).take (k+1)=(Vi (co.drop p.length) l).take k++[l.map fun c=>row.getD c 0]:=by rw[List.take_add_one,e0];rfl
       exact h
      have z1p:=YP.size;have S0:Hid (OwI (wp.alloc (.cells #[] 3)) wp.heap.size (some ⟨wp.heap.size,0,none⟩) 0 []):=OwI.new (xs:=[]) rfl (Nat.le_refl _) ZK;have X0:Hid (Ext wp (wp.alloc (.cells #[] 3))):=(Ext.rf _).alloc _;have hk24:k<=24:=by have:=hrk.out;omega
      replace oV:=Hd oV;replace oR:=Hd oR;replace YP:=Hd YP;replace rD:=Hd rD;have zD:=World.block_lt_of_cell? _ _ cD;clear er hmem HH;go_wp2_with (fail);go_loopw [13,12] (fun v rv wr=>∃ (j:Nat) (R':Option Addr) (rc:Nat) (xs:List Int),v=.int .i64 j/\rv=.slice R' xs.length rc/\j<=l.length/\Hid (xs=(l.take j).map fun c=>row.getD c 0)/\Hid (OwI wr wp.heap.size R' rc xs)/\Hid (Ext wp wr)) (fun v _ _=>l.length-(intOf v).toNat)
      case atStart=>exact⟨0,_,_,[],rfl,rfl,by omega,rfl,S0,X0⟩
      case round =>
       obtain⟨wi,rfl⟩:∃ wi:World,wi=wr:=⟨_,rfl⟩;obtain⟨j,R',rc,xs,rfl,rfl,hj,hxs,oX,YI⟩:=hrel;clear S0 X0;have lxs:xs.length=j:=by rw[hxs.out,List.length_map,List.length_take];omega
       by_cases hjl:j<l.length
       ·have YA:=Hd (YP.out.tr YI.out)
        have q2:(j:Int)<(l.length:Int):=by omega
        have e5:wp.cell? ⟨w.heap.size,5,none⟩=some (.slice (some ⟨cb,cof,none⟩) co.length d):=(BB.out.ext YP.out).cell 5;have z5:w.heap.size<wp.heap.size:=(BB.out.ext YP.out).lt;have d5:=Ze YI.out z5 e5;have cD':wi.cell? ⟨cb,cof+r,none⟩=some (.slice D' row.length d'):=Ze YI.out zD cD;have ej:l[j]?=some l[j]:=List.getElem?_eq_getElem hjl;have hjs:=hsub.out _ (List.getElem_mem hjl);have hxs2:Hid (xs++[row.getD l[j] 0]=(l.take (j+1)).map fun c=>row.getD c 0):=Hd (by
         rw[List.take_add_one,ej,List.map_append,<-hxs.out];rfl)
        generalize l[j]=c at *;obtain⟨lb,lo,xk,rfl,zl,ck,exk,_⟩:=(o1.out.ext YP.out).at (k:=j) (by rw[Zq];exact hjl);obtain rfl:xk=(c:Int):=by
         have h:=exk.out;rw[Yr ej] at h;exact(Option.some.inj h).symm
        obtain⟨rb,ro,y,rfl,zy,cy,ey,_⟩:=rD.out.at (k:=c) (by rw[lrow.out];exact hjs);rw[getD_some ey.out] at hxs2;have q3:(c:Int)<(row.length:Int):=by rw[lrow.out];omega
        have ck':=Ze YI.out zl ck;have cy':=Ze YI.out zy cy;have zpi:=YI.out.size;replace lxs:=Hd lxs;have hj24:j<24:=by omega
        clear exk ej ey hjs;go_wp2_with (fail);go_region_held3 (fun w'=>w'.cell? ⟨w.heap.size,5,none⟩=some (.slice (some ⟨cb,cof,none⟩) co.length d)/\w'.cell? ⟨cb,cof+r,none⟩=some (.slice (some ⟨rb,ro,none⟩) row.length d')/\w'.cell? ⟨lb,lo+j,none⟩=some (.int .i64 (c:Int))/\w'.cell? ⟨rb,ro+c,none⟩=some (.int .i64 y)) (go_keep)
         (first | (refine Xn _ (by rfl) _ _ (by rfl) wp.heap.size R' xs.length rc xs [y] (some ⟨wi.heap.size,0,none⟩) 1 (by rfl) (by rfl) (by rfl) ?_ ?_ ?_ ?_ ?_;(refine OwI.ext oX.out ?_;(repeat (first | assumption | exact Ext.rf _ | apply Ext.drew | apply Ext.drewN | apply Ext.alloc)));(exact .blk (by(first | exact .new (by simp) | exact .drew (.new (by simp)) | exact .alloc (.new (by simp)) _ | exact .drew (.alloc (.new (by simp)) _) | exact .alloc (.alloc (.new (by simp)) _) _ | exact .drew (.alloc (.alloc (.new (by simp)) _) _) | (repeat (first | assumption | (refine Blk.new ?_;(focus (simp;done))) | apply Blk.drew | apply Blk.drewN | apply Blk.alloc)))) rfl);(have h8:=lxs.out;simp;omega);(simp;omega);rintro A7 c7 w7 o7 g7 _;have Y7:Ext wp w7:=Ext.grow (a:=wp) (Ext.tr YI.out (by(repeat (first | assumption | exact Ext.rf _ | apply Ext.drew | apply Ext.drewN | apply Ext.alloc)))) g7 (fun kk hkk=>(oX.out.lt kk hkk).1);have s1:=Ze Y7 z5 e5;have s2:=Ze Y7 zD cD;have s3:=Ze Y7 zl ck;have s4:=Ze Y7 zy cy))
        have O7:Hid (OwI w7 wp.heap.size A7 c7 (xs++[y])):=o7;replace Y7:=Hd Y7;clear o7 g7 s1 s2 s3 s4;go_wp2_with (fail);go_roundw
        case rel=>exact⟨j+1,A7,c7,xs++[y],by go_num,by first | rfl | simp,by omega,hxs2,OwI.ext O7.out (by(repeat (first | assumption | exact Ext.rf _ | apply Ext.drew | apply Ext.drewN | apply Ext.alloc))),Ext.tr Y7.out (by(repeat (first | assumption | exact Ext.rf _ | apply Ext.drew | apply Ext.drewN | apply Ext.alloc)))⟩
        case measure=>simp[intOf];omega
       ·obtain rfl:j=l.length:=by omega
        have q2:¬(l.length:Int)<(l.length:Int):=by omega
        have hxs2:Hid (xs=l.map fun c=>row.getD c 0):=by
         have h:=hxs.out;rw[List.take_length] at h;exact h
        have X6:=Hd ((Ext.tr YI.out ((Ext.rf wi).alloc (.cells #[.slice R' xs.length rc] 22))));have oV5:=oV.out.ext YI.out;have zz:=YI.out.size;have M5:=Hd (oV5.ext ((Ext.rf wi).alloc (.cells #[.slice R' xs.length rc] 22)));clear oV5 hxs;replace lxs:=Hd lxs;go_wp2_with (at_builtin;refine Yq _ (e:=22) Tryz.underlying23 hi.out hz0.out hz1.out hz2.out (by simp[Value.cells]) (by omega) rfl _ _ rfl w1.heap.size M' k mc ws (some ⟨wi.heap.size,0,none⟩) 1 1 [.slice R' xs.length rc] rfl rfl M5.out (RdV.blk (.new (by simp))).rdC (by simp) (by simp[Value.oneCell']) (by simp only[maxLen];omega) (by omega) (by simp;omega) ?_;rintro C6 c6 w6 o6 g6 _);have M6:=M5.out.grownT g6;have NEW:Hid (OwV w6 w1.heap.size 22 1 C6 (k+1) c6 (ws++[.slice R' xs.length rc])/\RowsO w6 w1.heap.size (ws++[.slice R' xs.length rc]) ((Vi (co.drop p.length) l).take (k+1))/\Ext w1 w6):=by
         refine⟨o6,?_,(YP.out.tr X6.out).modT M6 (Nat.le_refl _)⟩;rw[etk.out,<-hxs2.out];exact((oR.out.ext X6.out).modT M6 (by decide)).snoc (((oX.out.more z1p).ext ((Ext.rf _).alloc _)).modT M6 (by decide))
        clear o6 g6 M6;go_wp2_with (fail);go_roundw
        case rel=>exact⟨r+1,k+1,C6,c6,_,by go_num,rfl,by have:=hrk.out;show r+1=_+(k+1);omega,by omega,NEW⟩
        case measure=>simp[intOf];omega
     ·obtain rfl:r=co.length:=by omega
      have q1:¬(co.length:Int)<(co.length:Int):=by omega
      have hk:=hrk.out;have lsub:(Vi (co.drop p.length) l).length=k:=by unfold Vi;rw[List.length_map,List.length_drop];omega
      rw[<-lsub,List.take_length] at oR;have bd1:=bdS.out;have ht2:=ht.out;rw[HS2.out] at ht2
      by_cases hk0:k=0
      ·subst hk0
       have e0:tot=su:=by rw[ht2,if_neg (by omega)];omega
       have RN:=Hd (fun(W:World)=>JN M' mc W);have hw9:IntKind.i64.wrap (su+0)=su:=by rw[Int.add_zero];exact IntWalk.i64_in _ (by omega)
       replace e0:=Hd e0;have YP':=Hd YP;clear HH oV oR YP ht2 hk lsub;go_wp2_with (fail);refine(RN.out _).mono ?_;rintro e w9 ⟨rfl,x9⟩;go_wp2_with (fail);go_ret2;rw[e0.out];exact⟨by first | rfl | (congr 2;simp),XP.out.tr x9⟩
      ·have e0:tot=su+ZY (co.drop p.length) l:=by rw[ht2,if_pos (by omega)]
       have RE:Hid (∀ W,Ext wp W->Calls Tryz.prog 152 #[.slice M' k mc] W fun e w'=>e=.returned (.int .i64 (ZY (co.drop p.length) l))/\Ext W w'):=by
        intro W x;have hsm:∀ row∈Vi (co.drop p.length) l,∃ q∈co,row=l.map fun c=>q.getD c 0:=fun row h=>by
         obtain⟨q,hq,rfl⟩:=List.mem_map.1 h;exact⟨q,List.mem_of_mem_drop hq,rfl⟩
        have hnum:∀ row∈Vi (co.drop p.length) l,∀ x∈row,0<=x/\x<=2147483647:=fun row h x hx=>by
         obtain⟨q,hq,rfl⟩:=hsm row h;obtain⟨c,hc,rfl⟩:=List.mem_map.1 hx;exact rok.out.get hq (hsub.out c hc)
        have h:=JO (Vi (co.drop p.length) l) l.length M' mc W (Zcx (oV.ext x) (oR.ext x) (fun r hr x hx=>by have:=hnum r hr x hx;omega)) (fun row h=>by obtain⟨q,_,rfl⟩:=hsm row h;simp) (by omega) (by omega) (by omega) (by omega) hnum;rw[show XR (Vi (co.drop p.length) l) l.length=ZY (co.drop p.length) l from Zav _ _,lsub] at h;exact h
       have rb:=RB.out;generalize ZY (co.drop p.length) l=rp at *;have hw9:IntKind.i64.wrap (su+rp)=su+rp:=IntWalk.i64_in _ (by omega);replace e0:=Hd e0;clear HH oV oR YP ht2 hk lsub;go_wp2_with (fail);refine(RE.out _ (by(repeat (first | assumption | exact Ext.rf _ | apply Ext.drew | apply Ext.drewN | apply Ext.alloc)))).mono ?_;rintro e w9 ⟨rfl,x9⟩;go_wp2_with (fail);go_ret2;rw[e0.out];exact⟨rfl,XP.out.tr x9⟩
theorem UG {m c x:Nat}(h:m<18446744073709551616) : x∈Zb (Ye m c)↔x∈Zb m/\x≠c:=by
 rw[YQ h,List.mem_filter]
 constructor
 ·rintro ⟨h1,h2⟩
  exact⟨h1,fun e=>by subst e;simp at h2⟩
 ·rintro ⟨h1,h2⟩
  exact⟨h1,by simp;exact fun e=>h2 e.symm⟩
theorem Qe {n:Nat} : ∀ {p:List Int} {m q:Nat},SubN n m->ZX m p=some q->∃ l:List Nat,p=Zl l/\l.Nodup/\(∀ x∈l,x∈Zb m)/\∀ x,x∈Zb q↔x∈Zb m/\x∉l
 | [],m,q,_,e=>by
  simp only[ZX,Option.some.injEq] at e;subst e;exact⟨[],rfl,List.Pairwise.nil,by simp,by simp⟩
 | c::p,m,q,h,e=>by
  unfold ZX at e;split at e
  ·rename_i hc
   obtain⟨l,rfl,h1,h2,h3⟩:=Qe (h.clr _) e;have hm:c.toNat∈Zb m:=Z3.2 ⟨by omega,hc.2.2⟩;have hnot:c.toNat∉l:=fun hl=>((UG h.1).1 (h2 _ hl)).2 rfl
   refine⟨c.toNat::l,?_,List.nodup_cons.2 ⟨hnot,h1⟩,?_,fun x=>?_⟩
   ·simp only[Zl,List.map_cons,List.cons.injEq,and_true]
    omega
   ·intro x hx
    rcases List.mem_cons.1 hx with rfl | hx
    ·exact hm
    ·exact((UG h.1).1 (h2 x hx)).1
   ·rw[h3 x,UG h.1]
    simp only[List.mem_cons,not_or];exact⟨fun⟨⟨a,b⟩,c⟩=>⟨a,b,c⟩,fun⟨a,b,c⟩=>⟨⟨a,b⟩,c⟩⟩
  ·cases e
def Xw (rows:List (List Int))(m last:Nat)(cost:Int) : List Int->Option (Nat×Nat×Int)
 | []=>some (m,last,cost)
 | c::p=>if 0<=c/\c<64/\m.testBit c.toNat=true then Xw rows (Ye m c.toNat) c.toNat (cost+Za rows last c.toNat) p else none
def Wu (rows:List (List Int))(p:List Int) : Option (Nat×Nat×Int):=if rows.length-1<p.length then none else Xw rows (Ye (2^rows.length-1) 0) 0 0 p
def ZQ (us:List Nat)(last src:Nat) : List Nat:=if src=last then us else 0::us.filter fun x=>decide (src≠x)
def Yf (rows:List (List Int))(us:List Nat)(last src:Nat) : Int:=max (Zk (fun dst=>Za rows src dst) (-1) (ZQ us last src)) 0
def XT (rows:List (List Int))(us:List Nat)(last dst:Nat) : Int:=Zk (fun src=>Za rows src dst-Yf rows us last src) (-1) ((last::us).filter fun src=>decide (dst∈ZQ us last src))
def ZH (rows:List (List Int))(us:List Nat)(last:Nat) : Int:=Zi ((last::us).map fun src=>Yf rows us last src)+Zi ((0::us).map fun dst=>max (XT rows us last dst) 0)
def YC (p:Int×Int)(n:Int) : Int×Int:=if n<p.1 then(n,p.1) else if n<p.2 then(p.1,n) else p
def Zw (rows:List (List Int))(us:List Nat)(last u:Nat) : Int×Int :=
 (us.filter fun x=>decide (u≠x)).foldl (fun p v=>YC p (Za rows u v)) (min (Za rows u last) (Za rows u 0),max (Za rows u last) (Za rows u 0))
def Xg (rows:List (List Int))(us:List Nat)(last:Nat) : Int :=
 Zi (us.map fun u=>(Zw rows us last u).1+(Zw rows us last u).2)+Zk (fun u=>Za rows last u) (-1) us+Zk (fun u=>Za rows u 0) (-1) us
def Ym (rows:List (List Int))(mirror:Bool)(p:List Int) : Int×Int :=
 match Wu rows p with
 | none=>(0,1)
 | some (m,last,c)=>(c+(if Zb m=[] then Za rows last 0 else if mirror=true then max (ZH rows (Zb m) last) ((Xg rows (Zb m) last+1) / 2) else ZH rows (Zb m) last),0)
theorem QP {f:Nat->Int} : ∀ {l:List Nat} {b:Int},(∀ x∈l,0<=f x)->(∀ x∈l,Zk f b l<=f x)/\(0<=b->Zk f b l<=b):=fun {l b} h=>by
 have h1:=Ua (l:=l.map f) (b:=b) fun y hy=>by
  obtain⟨x,hx,rfl⟩:=List.mem_map.1 hy;exact h x hx
 rw[Wn] at h1;exact⟨fun x hx=>h1.1 (f x) (List.mem_map.2 ⟨x,hx,rfl⟩),h1.2⟩
theorem Qf {f:Nat->Int}{B:Int}{l:List Nat}(h:∀ x∈l,0<=f x/\f x<=B)(hl:l≠[])(hB:0<=B) : 0<=Zk f (-1) l/\Zk f (-1) l<=B:=by
 rw[<-Wn];refine V9 (fun y hy=>?_) (by omega) (.inr (by simpa using hl));obtain⟨x,hx,rfl⟩:=List.mem_map.1 hy;exact h x hx
section
variable {rows:List (List Int)} {us:List Nat} {last:Nat}
end
end Go.Proofs.YtmojhhlcocjoaaaGreatDoor
namespace Go.Proofs.YtmojhhlcocjoaaaGreatDoor
section
variable {rows:List (List Int)} {us:List Nat} {last:Nat}
end
def Us : Nat->List Int->Nat
 | s,[]=>s
 | _,c::p=>Us c.toNat p
def Qg (rows:List (List Int)) : Nat->List Int->Int
 | _,[]=>0
 | s,c::p=>Za rows s c.toNat+Qg rows c.toNat p
theorem JP (rows:List (List Int)) : ∀ (p:List Int) (m last:Nat) (cost:Int),Xw rows m last cost p=(ZX m p).map fun q=>(q,Us last p,cost+Qg rows last p)
 | [],m,last,cost=>by simp[Xw,ZX,Us,Qg]
 | c::p,m,last,cost=>by
  unfold Xw ZX;split
  ·rw[JP rows p]
   cases ZX (Ye m c.toNat) p with
   | none=>rfl
   | some q =>
    simp only[Option.map_some,Us,Qg,Option.some.injEq,Prod.mk.injEq,true_and];omega
  ·rfl
theorem Ub : ∀ (l:List Nat) (s:Nat),Us s (Zl l)=s\/Us s (Zl l)∈l
 | [],s=>.inl rfl
 | c::l,s=>by
  have ih:=Ub l c;simp only[Zl,List.map_cons,Us,Int.toNat_natCast] at ih ⊢;rcases ih with h | h
  ·right;rw[h];simp
  ·right;simp[h]
def XH (n:Nat) : Nat:=Ye (2^n-1) 0
theorem Uc {n:Nat}(h:n<=24) : SubN n (XH n):=(Yb h).clr 0
theorem QQ {n:Nat}(h:n<=24){x:Nat} : x∈Zb (XH n)↔x<n/\x≠0:=by
 unfold XH;rw[UG (Yb h).1,Xp (by omega),List.mem_range]
theorem ZbF {n:Nat}(h1:1<=n)(h:n<=24) : (Zb (XH n)).length=n-1:=by
 have h2:=XK (Z8 (2^n-1)) (i:=0) (by rw[Xp (by omega)];simp;omega);rw[<-YQ (Yb h).1,Xp (by omega),List.length_range] at h2;unfold XH;omega
structure WalkOk (rows:List (List Int))(p:List Int)(m last:Nat)(cost:Int)(l:List Nat) : Prop where
 eq:p=Zl l
 nodup:l.Nodup
 inn:∀ x∈l,x<rows.length/\x≠0
 rest:∀ x,x∈Zb m↔(x<rows.length/\x≠0)/\x∉l
 len:(Zb m).length+l.length=rows.length-1
 sub:SubN rows.length m
 last:last=Us 0 (Zl l)
 cost:cost=Qg rows 0 (Zl l)
theorem Q9 {rows:List (List Int)}(h1:1<=rows.length)(h24:rows.length<=24){p:List Int}{m last:Nat}{cost:Int}(h:Wu rows p=some (m,last,cost)) : ∃ l,WalkOk rows p m last cost l:=by
 unfold Wu at h;split at h
 ·cases h
 ·rw[JP] at h
  cases hf:ZX (Ye (2^rows.length-1) 0) p with
  | none=>rw[hf] at h;cases h
  | some q =>
   rw[hf] at h;simp only[Option.map_some,Option.some.injEq,Prod.mk.injEq] at h;obtain⟨rfl,rfl,rfl⟩:=h;have hs:=Uc h24;obtain⟨l,rfl,a1,a2,a3⟩:=Qe hs hf;have a4:=V7 hs hf;rw[ZbF h1 h24,Zq] at a4;exact⟨l,rfl,a1,fun x hx=>(QQ h24).1 (a2 x hx),fun x=>by rw[a3 x,QQ h24],a4,V5 hs hf,rfl,by omega⟩
end Go.Proofs.YtmojhhlcocjoaaaGreatDoor
namespace Go.Proofs.YtmojhhlcocjoaaaGreatDoor
open Go.RowKit Go.ChangeShapes Go.WideShapes Go.ChangeAt Go.Deep
def Xf : Int->List Int->Int
 | b,[]=>b
 | b,x::l=>Xf (if 0<=x/\(b<0\/x<b) then x else b) l
theorem QR {B:Int} : ∀ {l:List Int} {b:Int},(∀ x∈l,x<=B)->b<=B->Xf b l<=B
 | [],b,_,h=>h
 | x::l,b,h,hb=>by
  unfold Xf;refine QR (fun y hy=>h y (by simp[hy])) ?_;have:=h x (by simp);split<;>omega
def Uy (c:Nat)(b:Int) : List (List Int)->List Int->Int
 | row::rows,o::off=>Uy c (if 0<=row.getD c 0/\(b<0\/row.getD c 0-o<b) then row.getD c 0-o else b) rows off
 | _,_=>b
theorem Za7 {c:Nat}{B:Int} : ∀ {rows:List (List Int)} {off:List Int} {b:Int},(∀ row∈rows,row.getD c 0<=B)->(∀ o∈off,0<=o)->b<=B->Uy c b rows off<=B
 | [],off,b,_,_,h=>by cases off<;>exact h
 | _::_,[],b,_,_,h=>h
 | row::rows,o::off,b,hr,ho,hb=>by
  have h1:=hr row (by simp);have h2:=ho o (by simp);unfold Uy;refine Za7 (fun q hq=>hr q (by simp[hq])) (fun q hq=>ho q (by simp[hq])) ?_;split<;>omega
def Vj (ms:List (List Int)) : List Int:=ms.map fun row=>max (Xf (-1) row) 0
def W8 (ms:List (List Int))(L:Nat) : List Int:=(List.range L).map fun c=>max (Uy c (-1) ms (Vj ms)) 0
def WT (ms:List (List Int))(L:Nat) : Int:=Zi (Vj ms)+Zi (W8 ms L)
theorem Ja (ms:List (List Int))(L:Nat)(M:Option Addr)(mc:Nat)(w:World)(hM:RdE 1 RInts w M ms)(hl:∀ row∈ms,row.length=L)(h0:0<L)(hL:L<=24)(hn0:0<ms.length)(hn:ms.length<=24)(num:∀ row∈ms,∀ x∈row,x<=2147483647) :
  Calls Tryz.prog 152 #[.slice M ms.length mc] w fun e w'=>e=.returned (.int .i64 (WT ms L))/\Ext w w':=by
 have LO:(Vj ms).length=ms.length:=by simp[Vj]
 have OB:∀ x∈Vj ms,0<=x/\x<=2147483647:=fun x hx=>by
  obtain⟨row,hr,rfl⟩:=List.mem_map.1 hx;have:=QR (b:=-1) (num row hr) (by omega);omega
 have OG:∀ k row,ms[k]?=some row->(Vj ms)[k]?=some (max (Xf (-1) row) 0):=fun k row h=>by unfold Vj;rw[List.getElem?_map,h];rfl
 have CB:∀ x∈W8 ms L,0<=x/\x<=2147483647:=fun x hx=>by
  obtain⟨c,hc,rfl⟩:=List.mem_map.1 hx;have:=Za7 (c:=c) (b:=-1) (B:=2147483647) (rows:=ms) (off:=Vj ms) (fun row hr=>by
   have hcl:c<row.length:=by rw[hl row hr];exact List.mem_range.1 hc
   have e:row.getD c 0=row[c]:=by simp[List.getD,hcl]
   rw[e];exact num row hr _ (List.getElem_mem hcl)) (fun o ho=>(OB o ho).1) (by omega)
  omega
 have CG:∀ c,c<L->(W8 ms L)[c]?=some (max (Uy c (-1) ms (Vj ms)) 0):=fun c hc=>by simp[W8,hc]
 have LC:(W8 ms L).length=L:=by simp[W8]
 have TOT:Hid (WT ms L=Zi (Vj ms)+Zi (W8 ms L)):=rfl;generalize WT ms L=tot at *;have SB:=Xd OB (by omega);have SC:=Xd CB (by omega);have LZ:=Qd (Vj ms);generalize Vj ms=off at *;generalize W8 ms L=cols at *;have START:Hid (Ext w (w.alloc (.cells #[.int .i64 0,.int .i64 0,.int .i64 0,.int .i64 0,.int .i64 0,.int .i64 0,.int .i64 0,.int .i64 0,.int .i64 0,.int .i64 0,.int .i64 0,.int .i64 0,.int .i64 0,.int .i64 0,.int .i64 0,.int .i64 0,.int .i64 0,.int .i64 0,.int .i64 0,.int .i64 0,.int .i64 0,.int .i64 0,.int .i64 0,.int .i64 0,.int .i64 0,.int .i64 0,.int .i64 0,.int .i64 0,.int .i64 0,.int .i64 0] 229))/\Blk (w.alloc (.cells #[.int .i64 0,.int .i64 0,.int .i64 0,.int .i64 0,.int .i64 0,.int .i64 0,.int .i64 0,.int .i64 0,.int .i64 0,.int .i64 0,.int .i64 0,.int .i64 0,.int .i64 0,.int .i64 0,.int .i64 0,.int .i64 0,.int .i64 0,.int .i64 0,.int .i64 0,.int .i64 0,.int .i64 0,.int .i64 0,.int .i64 0,.int .i64 0,.int .i64 0,.int .i64 0,.int .i64 0,.int .i64 0,.int .i64 0,.int .i64 0] 229)) w.heap.size 229 (Xu off 0)) :=
  ⟨(Ext.rf _).alloc _,by rw[LZ];exact .new rfl⟩
 replace LO:=Hd LO;replace OB:=Hd OB;replace OG:=Hd OG;replace CB:=Hd CB;replace CG:=Hd CG;replace LC:=Hd LC;replace SB:=Hd SB;replace SC:=Hd SC;replace hl:=Hd hl;replace num:=Hd num;replace hM:=Hd hM;clear LZ;go_enter Tryz.func152,Tryz.ntmps152;go_wp2_with (fail);go_loopw [5,3] (fun v s wr=>∃ k:Nat,v=.int .i64 k/\s=.int .i64 (Zi (off.take k))/\k<=ms.length/\Hid (Ext w wr/\Blk wr w.heap.size 229 (Xu off k))) (fun v _ _=>ms.length-(intOf v).toNat)
 case atStart=>exact⟨0,rfl,rfl,by omega,START⟩
 case round =>
  obtain⟨wo,rfl⟩:∃ wo:World,wo=wr:=⟨_,rfl⟩;obtain⟨k,rfl,rfl,hk,HH⟩:=hrel;clear START
  by_cases hlt:k<ms.length
  ·obtain⟨Y,bL⟩:=HH.out
   obtain⟨mb,mo,D,row,d,rfl,_,cD,er,_,rD,iD,ld,md⟩:=(hM.out.ext Y fun _ _ h=>h.ext Y).ints hlt;have hr:=List.mem_of_getElem? er.out;have eo:=OG.out k row er.out;have ob:=OB.out _ (List.mem_of_getElem? eo);have hrl:Hid (row.length=L):=hl.out row hr;have q1:(k:Int)<(ms.length:Int):=by omega
   obtain⟨o0,ho⟩:∃ o0,Hid (Xf (-1) row=o0):=⟨_,rfl⟩;rw[ho.out] at eo ob;obtain⟨o,hoo⟩:∃ o,Hid (o=max o0 0):=⟨_,rfl⟩;rw[<-hoo.out] at eo ob;have SN:=Yw eo;have sb1:=SB.out k;obtain⟨s,hs⟩:∃ s,Hid (s=Zi (off.take k)):=⟨_,rfl⟩;rw[<-hs.out] at SN sb1 ⊢;have hnum:=Hd (num.out row hr);have zD:=World.block_lt_of_cell? _ _ cD;replace SN:=Hd SN;replace eo:=Hd eo;replace Y:=Hd Y;replace bL:=Hd bL;replace rD:=Hd rD;replace iD:=Hd iD;clear er HH hr;go_wp2_with (fail);go_loopw [7,6] (fun v bv wr=>∃ (j:Nat) (bb:Int),v=.int .i64 j/\bv=.int .i64 bb/\j<=row.length/\Hid (Xf bb (row.drop j)=o0)/\Hid (Ext wo wr)) (fun v _ _=>row.length-(intOf v).toNat)
   case atStart=>exact⟨0,-1,rfl,rfl,by omega,ho,Ext.rf _⟩
   case round =>
    obtain⟨wi,rfl⟩:∃ wi:World,wi=wr:=⟨_,rfl⟩;obtain⟨j,bb,rfl,rfl,hj,HB,YI⟩:=hrel;have cD':wi.cell? ⟨mb,mo+k,none⟩=some (.slice D row.length d):=Ze YI.out zD cD
    by_cases hjl:j<row.length
    ·obtain⟨rb,ro,x,rfl,_,cx,ex,dx⟩:=(rD.out.ext YI.out).at hjl
     have q2:(j:Int)<(row.length:Int):=by omega
     have hx:=hnum.out x (List.mem_of_getElem? ex.out);have HB2:Hid (Xf (if 0<=x/\(bb<0\/x<bb) then x else bb) (row.drop (j+1))=o0):=by
      have h:=HB.out;rw[dx.out] at h;exact h
     clear HB ex dx hx
     by_cases hx0:0<=x
     ·by_cases hb0:bb<0
      ·rw[if_pos ⟨hx0,.inl hb0⟩] at HB2
       go_wp2_with (fail);go_roundw
       case rel=>exact⟨j+1,x,by go_num,rfl,by omega,HB2,YI⟩
       case measure=>simp[intOf];omega
      ·by_cases hxb:x<bb
       ·rw[if_pos ⟨hx0,.inr hxb⟩] at HB2
        go_wp2_with (fail);go_roundw
        case rel=>exact⟨j+1,x,by go_num,rfl,by omega,HB2,YI⟩
        case measure=>simp[intOf];omega
       ·rw[if_neg (by omega)] at HB2
        go_wp2_with (fail);go_roundw
        case rel=>exact⟨j+1,bb,by go_num,rfl,by omega,HB2,YI⟩
        case measure=>simp[intOf];omega
     ·rw[if_neg (by omega)] at HB2
      go_wp2_with (fail);go_roundw
      case rel=>exact⟨j+1,bb,by go_num,rfl,by omega,HB2,YI⟩
      case measure=>simp[intOf];omega
    ·have q2:¬(j:Int)<(row.length:Int):=by omega
     have hbo:bb=o0:=by
      have h:=HB.out;rw[List.drop_of_length_le (by omega)] at h;exact h
     obtain rfl:=hbo;have bI:=bL.out.ext YI.out;have fl:=bI.free k;have k30:(k:Int)<30:=by omega
     have hw1:IntKind.i64.wrap (s+o)=s+o:=IntWalk.i64_in _ (by omega);have NX:Hid (Ext w (wi.setCell ⟨w.heap.size,k,none⟩ (.int .i64 o))/\Blk (wi.setCell ⟨w.heap.size,k,none⟩ (.int .i64 o)) w.heap.size 229 (Xu off (k+1))):=by
      refine⟨(Y.out.tr YI.out).setNew (p:=⟨w.heap.size,k,none⟩) (Nat.le_refl _) _,?_⟩;rw[<-QO (by omega) eo.out];exact bI.set k _
     have cl:wi.cell? ⟨w.heap.size,k,none⟩=some (.int .i64 (if k<k then off.getD k 0 else 0)):=by rw[bI.cell,Xv (by omega)]
     clear HB bI ho
     by_cases nb:bb<0
     ·obtain rfl:o=0:=by rw[hoo.out];omega
      clear hoo;go_wp2_with (first | go_quiet (fail) | go_region);go_roundw
      case rel=>exact⟨k+1,by go_num,by rw[SN.out];first | rfl | (congr 1;omega) | simp,by omega,NX.out⟩
      case measure=>simp[intOf];omega
     ·obtain rfl:o=bb:=by rw[hoo.out];omega
      clear hoo;go_wp2_with (first | go_quiet (fail) | go_region);go_roundw
      case rel=>exact⟨k+1,by go_num,by rw[SN.out],by omega,NX.out⟩
      case measure=>simp[intOf];omega
  ·obtain rfl:k=ms.length:=by omega
   have q1:¬(ms.length:Int)<(ms.length:Int):=by omega
   have SO:Hid (Zi (off.take ms.length)=Zi off):=Hd (by rw[<-LO.out,List.take_length]);have so:=SB.out ms.length;rw[SO.out] at so ⊢;obtain⟨Y,bL⟩:=HH.out;replace Y:=Hd Y;replace bL:=Hd bL;have TOT2:Hid (tot=Zi off+Zi cols):=TOT.out;obtain⟨s0,hs0⟩:∃ s0,Hid (s0=Zi off):=⟨_,rfl⟩;rw[<-hs0.out] at so TOT2 ⊢;clear HH SO TOT SB;go_wp2_with (fail);go_loopw [8,3] (fun v s wr=>∃ c:Nat,v=.int .i64 c/\s=.int .i64 (s0+Zi (cols.take c))/\c<=L/\Hid (Ext wo wr)) (fun v _ _=>L-(intOf v).toNat)
   case atStart=>exact⟨0,rfl,by rw[List.take_zero];simp[Zi],by omega,Ext.rf _⟩
   case round =>
    obtain⟨wp,rfl⟩:∃ wp:World,wp=wr:=⟨_,rfl⟩;obtain⟨c,rfl,rfl,hc,YP⟩:=hrel;have sc1:=SC.out c;obtain⟨mb,mo,D0,row0,d0,rfl,zb,cD0,er0,_,_,_,_,_⟩:=(hM.out.ext (Y.out.tr YP.out) fun _ _ h=>h.ext (Y.out.tr YP.out)).ints (r:=0) hn0;have hl0:row0.length=L:=hl.out row0 (List.mem_of_getElem? er0.out);rw[hl0] at cD0;rw[Nat.add_zero] at cD0;clear er0 hl0
    by_cases hcl:c<L
    ·have q2:(c:Int)<(L:Int):=by omega
     have ec:=CG.out c hcl;obtain⟨c0v,hcv⟩:∃ cv,Hid (Uy c (-1) ms off=cv):=⟨_,rfl⟩;rw[hcv.out] at ec;obtain⟨cv,hcc⟩:∃ cv,Hid (cv=max c0v 0):=⟨_,rfl⟩;rw[<-hcc.out] at ec;have cb:=CB.out _ (List.mem_of_getElem? ec);have SN:=Yw ec;obtain⟨s1,hs1⟩:∃ s1,Hid (s1=Zi (cols.take c)):=⟨_,rfl⟩;rw[<-hs1.out] at SN sc1 ⊢;replace SN:=Hd SN;clear ec;go_wp2_with (fail);go_loopw [10,9] (fun v bv wr=>∃ (k:Nat) (bb:Int),v=.int .i64 k/\bv=.int .i64 bb/\k<=ms.length/\Hid (Uy c bb (ms.drop k) (off.drop k)=c0v)/\Hid (Ext wp wr)) (fun v _ _=>ms.length-(intOf v).toNat)
     case atStart=>exact⟨0,-1,rfl,rfl,by omega,hcv,Ext.rf _⟩
     case round =>
      obtain⟨wi,rfl⟩:∃ wi:World,wi=wr:=⟨_,rfl⟩;obtain⟨k,bb,rfl,rfl,hk,HB,YI⟩:=hrel
      by_cases hkl:k<ms.length
      ·have YA:=(Y.out.tr YP.out).tr YI.out
       obtain⟨mb',mo',D,row,d,hq,_,cD,er,dr,rD,iD,ld,md⟩:=(hM.out.ext YA fun _ _ h=>h.ext YA).ints hkl;obtain⟨rfl,rfl⟩:mb=mb'/\mo=mo':=by simpa using hq
       have hr:=List.mem_of_getElem? er.out;have eo:=OG.out k row er.out;have hrl:=hl.out row hr;obtain⟨rb,ro,x,rfl,_,cx,ex,_⟩:=rD.at (k:=c) (by omega);have hx:=num.out row hr x (List.mem_of_getElem? ex.out);have ob:=OB.out _ (List.mem_of_getElem? eo);obtain⟨o,ho⟩:∃ o,Hid (max (Xf (-1) row) 0=o):=⟨_,rfl⟩;rw[ho.out] at eo ob;have dof:off.drop k=o::off.drop (k+1):=by
        have hkl2:k<off.length:=by rw[LO.out];exact hkl
        rw[List.drop_eq_getElem_cons hkl2];rw[List.getElem?_eq_getElem hkl2] at eo;rw[Option.some.inj eo]
       have HB2:Hid (Uy c (if 0<=x/\(bb<0\/x-o<bb) then x-o else bb) (ms.drop (k+1)) (off.drop (k+1))=c0v):=by
        have h:=HB.out;rw[dr.out,dof,Uy,getD_some ex.out] at h;exact h
       have cl:wi.cell? ⟨w.heap.size,k,none⟩=some (.int .i64 o):=by
        rw[((bL.out.ext YP.out).ext YI.out).cell,Xv (by omega),if_pos hkl,getD_some eo]
       have q3:(k:Int)<(ms.length:Int):=by omega
       have q4:(c:Int)<(row.length:Int):=by omega
       have k30:(k:Int)<30:=by omega
       replace hrl:=Hd hrl;clear HB ex er dr eo dof hr hq rD
       by_cases hx0:0<=x
       ·have t0:decide (0<=x)=true:=decide_eq_true hx0
        have hw2:IntKind.i64.wrap (x-o)=x-o:=IntWalk.i64_in _ (by omega)
        by_cases hb0:bb<0
        ·rw[if_pos ⟨hx0,.inl hb0⟩] at HB2
         have t1:decide (bb<0)=true:=decide_eq_true hb0;go_wp2_with (fail);go_quiet (fail);go_wp2_with (fail);go_quiet (fail);go_wp2_with (fail);go_roundw
         case rel=>exact⟨k+1,x-o,by go_num,rfl,by omega,HB2,YI.out.drewN _⟩
         case measure=>simp[intOf];omega
        ·have t1:decide (bb<0)=false:=decide_eq_false hb0
         by_cases hxb:x-o<bb
         ·rw[if_pos ⟨hx0,.inr hxb⟩] at HB2
          have t2:decide (x-o<bb)=true:=decide_eq_true hxb;go_wp2_with (fail);go_quiet (fail);go_wp2_with (fail);go_quiet (fail);go_wp2_with (fail);go_roundw
          case rel=>exact⟨k+1,x-o,by go_num,rfl,by omega,HB2,YI.out.drewN _⟩
          case measure=>simp[intOf];omega
         ·rw[if_neg (by omega)] at HB2
          have t2:decide (x-o<bb)=false:=decide_eq_false hxb;go_wp2_with (fail);go_quiet (fail);go_wp2_with (fail);go_roundw
          case rel=>exact⟨k+1,bb,by go_num,rfl,by omega,HB2,YI.out.drewN _⟩
          case measure=>simp[intOf];omega
       ·have t0:decide (0<=x)=false:=decide_eq_false hx0
        rw[if_neg (by omega)] at HB2;go_wp2_with (fail);go_quiet (fail);go_wp2_with (fail);go_roundw
        case rel=>exact⟨k+1,bb,by go_num,rfl,by omega,HB2,YI.out.drewN _⟩
        case measure=>simp[intOf];omega
      ·have q3:¬(k:Int)<(ms.length:Int):=by omega
       have hbo:bb=c0v:=by
        have h:=HB.out;rw[List.drop_of_length_le (by omega)] at h;exact h
       obtain rfl:=hbo;have hw1:IntKind.i64.wrap (s0+s1+cv)=s0+s1+cv:=IntWalk.i64_in _ (by omega);clear HB hcv
       by_cases nb:bb<0
       ·obtain rfl:cv=0:=by rw[hcc.out];omega
        clear hcc;go_wp2_with (fail);go_roundw
        case rel=>exact⟨c+1,by go_num,by rw[SN.out];first | (rw[Int.add_zero]) | rfl | simp,by omega,YP.out.tr YI.out⟩
        case measure=>simp[intOf];omega
       ·obtain rfl:cv=bb:=by rw[hcc.out];omega
        clear hcc;go_wp2_with (fail);go_roundw
        case rel=>exact⟨c+1,by go_num,by rw[SN.out,Int.add_assoc],by omega,YP.out.tr YI.out⟩
        case measure=>simp[intOf];omega
    ·obtain rfl:c=L:=by omega
     have q2:¬(c:Int)<(c:Int):=by omega
     have FIN:Hid (s0+Zi (cols.take c)=tot):=Hd (by rw[TOT2.out,<-LC.out,List.take_length]);go_wp2_with (fail);go_ret;exact⟨ZW FIN.out,Y.out.tr YP.out⟩
theorem Vk {f:Nat->Int} : ∀ {l:List Nat} {b:Int},(∀ x∈l,0<=f x)->(0<=b\/l≠[])->(Zk f b l=b/\0<=b)\/∃ x∈l,Zk f b l=f x
 | [],b,_,h=>by
  rcases h with h | h
  ·exact .inl ⟨rfl,h⟩
  ·exact absurd rfl h
 | x::l,b,h,_=>by
  have hx:=h x (by simp);have ih:=Vk (f:=f) (l:=l) (b:=if b<0 then f x else if f x<b then f x else b) (fun y hy=>h y (by simp[hy])) (.inl (by split<;>(try split)<;>omega));have e:Zk f b (x::l)=Zk f (if b<0 then f x else if f x<b then f x else b) l:=rfl;rw[e];rcases ih with⟨e,_⟩ | ⟨y,hy,e⟩
  ·rw[e]
   split
   ·exact .inr ⟨x,by simp,rfl⟩
   ·split
    ·exact .inr ⟨x,by simp,rfl⟩
    ·exact .inl ⟨rfl,by omega⟩
  ·exact .inr ⟨y,by simp[hy],e⟩
theorem JQ {f:Nat->Int}{l l':List Nat}(hp:l.Perm l')(h:∀ x∈l,0<=f x) : Zk f (-1) l=Zk f (-1) l':=by
 by_cases hl:l=[]
 ·subst hl
  rw[List.Perm.eq_nil hp.symm]
 ·have h':∀ x∈l',0<=f x:=fun x hx=>h x (hp.mem_iff.2 hx)
  have hl':l'≠[]:=fun e=>hl (List.Perm.eq_nil (e ▸ hp))
  rcases Vk h (b:=-1) (.inr hl) with⟨_,h1⟩ | ⟨x,hx,h1⟩
  ·omega
  ·rcases Vk h' (b:=-1) (.inr hl') with⟨_,h2⟩ | ⟨y,hy,h2⟩
   ·omega
   ·have a1:=(QP (b:=-1) h).1 y (hp.mem_iff.2 hy)
    have a2:=(QP (b:=-1) h').1 x (hp.mem_iff.1 hx);omega
theorem Wo {f g:Nat->Int} : ∀ {l:List Nat} {b:Int},(∀ x∈l,f x=g x)->Zk f b l=Zk g b l
 | [],_,_=>rfl
 | x::l,b,h=>by
  show Zk f (if b<0 then f x else if f x<b then f x else b) l=Zk g (if b<0 then g x else if g x<b then g x else b) l;rw[h x (by simp)];exact Wo fun y hy=>h y (by simp[hy])
theorem Qh (f:Nat->Int) : ∀ (l:List Nat) (b:Int),Xf b (l.map f)=Zk f b (l.filter fun x=>decide (0<=f x))
 | [],b=>rfl
 | x::l,b=>by
  show Xf (if 0<=f x/\(b<0\/f x<b) then f x else b) (l.map f)=_;rw[Qh f l]
  by_cases h:0<=f x
  ·rw[List.filter_cons_of_pos (by simpa using h)]
   show _=Zk f (if b<0 then f x else if f x<b then f x else b) _
   congr 1
   split<;>split<;>(try split)<;>omega
  ·rw[List.filter_cons_of_neg (by simpa using h),if_neg (fun h2=>h h2.1)]
theorem JR (r:Nat->List Int)(o:Nat->Int)(c:Nat) : ∀ (S:List Nat) (b:Int),Uy c b (S.map r) (S.map o)=Zk (fun s=>(r s).getD c 0-o s) b (S.filter fun s=>decide (0<=(r s).getD c 0))
 | [],b=>rfl
 | s::S,b=>by
  simp only[List.map_cons,Uy];rw[JR r o c S]
  by_cases h:0<=(r s).getD c 0
  ·rw[List.filter_cons_of_pos (by simpa using h)]
   show _=Zk _ (if b<0 then(r s).getD c 0-o s else if (r s).getD c 0-o s<b then(r s).getD c 0-o s else b) _
   congr 1
   split<;>split<;>(try split)<;>omega
  ·rw[List.filter_cons_of_neg (by simpa using h),if_neg (fun h2=>h h2.1)]
section
variable {rows:List (List Int)} {us:List Nat} {last:Nat}
def WU (rows:List (List Int))(us:List Nat)(last src dst:Nat) : Int:=if dst∈ZQ us last src then Za rows src dst else -1
def VH (rows:List (List Int))(us:List Nat)(last:Nat) : List (List Int):=(last::us).map fun src=>(us++[0]).map fun dst=>WU rows us last src dst
theorem Ut (num:∀ a b,(a=last\/a∈us)->(b=0\/b∈us)->0<=Za rows a b){src dst:Nat}(hs:src∈last::us)(hd:dst∈us++[0]) : decide (0<=WU rows us last src dst)=decide (dst∈ZQ us last src):=by
 have h:=num src dst (List.mem_cons.1 hs) (by
  rcases List.mem_append.1 hd with h | h
  ·exact .inr h
  ·exact .inl (List.mem_singleton.1 h))
 unfold WU
 by_cases hc:dst∈ZQ us last src
 ·rw[if_pos hc,decide_eq_true hc,decide_eq_true h]
 ·rw[if_neg hc,decide_eq_false hc]
  rfl
theorem Zcy (num:∀ a b,(a=last\/a∈us)->(b=0\/b∈us)->0<=Za rows a b)(hl:last∉us)(h0:0∉us) : Vj (VH rows us last)=(last::us).map fun src=>Yf rows us last src:=by
 unfold Vj VH;rw[List.map_map];refine List.map_congr_left fun src hs=>?_
 show max (Xf (-1) ((us++[0]).map fun dst=>WU rows us last src dst)) 0=Yf rows us last src;have hf:(us++[0]).filter (fun x=>decide (0<=WU rows us last src x))=(us++[0]).filter fun x=>decide (x∈ZQ us last src):=List.filter_congr fun x hx=>Ut num hs hx
 rw[Qh,hf];have e1:Zk (fun dst=>WU rows us last src dst) (-1) ((us++[0]).filter fun x=>decide (x∈ZQ us last src))=Zk (fun dst=>Za rows src dst) (-1) ((us++[0]).filter fun x=>decide (x∈ZQ us last src)):=Wo fun x hx=>by
  unfold WU;rw[if_pos (of_decide_eq_true (List.mem_filter.1 hx).2)]
 have e2:((us++[0]).filter fun x=>decide (x∈ZQ us last src)).Perm (ZQ us last src):=by
  unfold ZQ
  by_cases e:src=last
  ·rw[if_pos e,List.filter_append,List.filter_eq_self.2 (fun x hx=>decide_eq_true hx),List.filter_cons_of_neg (by simpa using h0)]
   simp
  ·rw[if_neg e,List.filter_append]
   have a1:us.filter (fun x=>decide (x∈0::us.filter fun x=>decide (src≠x)))=us.filter fun x=>decide (src≠x):=List.filter_congr fun x hx=>by
    rw[decide_eq_decide,List.mem_cons,List.mem_filter]
    constructor
    ·rintro (h | h)
     ·subst h;exact absurd hx h0
     ·exact of_decide_eq_true h.2
    ·exact fun h=>.inr ⟨hx,decide_eq_true h⟩
   have a2:[0].filter (fun x=>decide (x∈0::us.filter fun x=>decide (src≠x)))=[0]:=by simp
   rw[a1,a2];exact List.perm_append_comm (l₂:=[0])
 rw[e1,JQ e2 fun x hx=>num src x (List.mem_cons.1 hs) (by
  rcases List.mem_append.1 (List.mem_filter.1 hx).1 with h | h
  ·exact .inr h
  ·exact .inl (List.mem_singleton.1 h))]
 rfl
theorem VI {f:Nat->Int}{D:List Nat}{c d:Nat}(h:D[c]?=some d) : (D.map f).getD c 0=f d:=by
 simp[List.getD,h]
theorem JS (num:∀ a b,(a=last\/a∈us)->(b=0\/b∈us)->0<=Za rows a b)(hl:last∉us)(h0:0∉us) : WT (VH rows us last) (us.length+1)=ZH rows us last:=by
 have ho:=Zcy num hl h0;have hc:∀ (c d:Nat),(us++[0])[c]?=some d->Uy c (-1) (VH rows us last) (Vj (VH rows us last))=XT rows us last d:=fun c d hd=>by
  rw[ho];unfold VH;refine Eq.trans (JR (fun src=>(us++[0]).map fun dst=>WU rows us last src dst) (fun src=>Yf rows us last src) c (last::us) (-1)) ?_;have hdm:=List.mem_of_getElem? hd;have e1:(last::us).filter (fun s=>decide (0<=((us++[0]).map fun dst=>WU rows us last s dst).getD c 0))=(last::us).filter fun s=>decide (d∈ZQ us last s):=List.filter_congr fun s hs=>by
   rw[VI hd];exact Ut num hs hdm
  rw[e1];unfold XT;refine Wo fun s hs=>?_
  rw[VI hd];unfold WU;rw[if_pos (of_decide_eq_true (List.mem_filter.1 hs).2)]
 unfold WT ZH;rw[ho]
 congr 1
 have e2:W8 (VH rows us last) (us.length+1)=(us++[0]).map fun dst=>max (XT rows us last dst) 0:=by
  have hr:(List.range (us.length+1)).map (fun c=>(us++[0]).getD c 0)=us++[0]:=by
   apply List.ext_getElem
   ·simp
   ·intro k h1 h2
    rw[List.getElem_map,List.getElem_range];simp only[List.getD];rw[List.getElem?_eq_getElem h2]
    rfl
  refine Eq.trans ?_ (congrArg (List.map fun dst=>max (XT rows us last dst) 0) hr);rw[List.map_map];unfold W8;refine List.map_congr_left fun c hcr=>?_
  have hk:c<(us++[0]).length:=by
   have:=List.mem_range.1 hcr;simp only[List.length_append,List.length_singleton];exact this
  obtain⟨d,hd⟩:∃ d,(us++[0])[c]?=some d:=⟨_,List.getElem?_eq_getElem hk⟩;have e3:(us++[0]).getD c 0=d:=getD_some hd;simp only[Function.comp_apply];rw[hc c d hd,e3]
 rw[e2];exact Zbc ((List.perm_append_comm (l₁:=us) (l₂:=[0])).map _)
theorem Zdf : (VH rows us last).length=us.length+1:=by simp[VH]
theorem Zdg : ∀ row∈VH rows us last,row.length=us.length+1:=fun row h=>by
 obtain⟨s,_,rfl⟩:=List.mem_map.1 h;simp
theorem Zdh {B:Int}(hB:0<=B)(num:∀ a b,(a=last\/a∈us)->(b=0\/b∈us)->0<=Za rows a b/\Za rows a b<=B) : ∀ row∈VH rows us last,∀ x∈row,-1<=x/\x<=B:=fun row h x hx=>by
 obtain⟨s,hs,rfl⟩:=List.mem_map.1 h;obtain⟨d,hd,rfl⟩:=List.mem_map.1 hx;have h2:=num s d (List.mem_cons.1 hs) (by
  rcases List.mem_append.1 hd with h | h
  ·exact .inr h
  ·exact .inl (List.mem_singleton.1 h))
 unfold WU;split<;>omega
end
section
variable {rows:List (List Int)}
end
end Go.Proofs.YtmojhhlcocjoaaaGreatDoor
namespace Go.Proofs.YtmojhhlcocjoaaaGreatDoor
open Go.RowKit Go.ChangeShapes Go.WideShapes Go.ChangeAt Go.Deep
abbrev Uz (m last:Nat)(cost:Int) : Value:=.agg #[.int .u64 m,.int .u64 0,.int .i64 last,.int .i64 cost]
def Zdi : Option (Nat×Nat×Int)->Value
 | none=>.tuple #[Uz 0 0 0,.bool false]
 | some (m,last,cost)=>.tuple #[Uz m last cost,.bool true]
theorem Qi (rows:List (List Int))(m last:Nat)(cost c:Int)(p:List Int) : Xw rows m last cost (c::p)=if 0<=c/\c<64/\m.testBit c.toNat=true then Xw rows (Ye m c.toNat) c.toNat (cost+Za rows last c.toNat) p else none:=rfl
theorem ZbG {base g:Nat}{rows:List (List Int)}{mi:Bool}(P:Option Addr)(pc:Nat)(p:List Int)(w:World)(H:KernT w base g rows mi)(ok:RowsOk rows)(hP:RdI w P p)(lp:p.length<=1000000000) :
  Calls Tryz.prog 279 #[.pointer (some ⟨g,0,none⟩),.slice P p.length pc] w fun e w'=>e=.returned (Zdi (Wu rows p))/\Ext w w':=by
 have h1:=ok.n1;have h24:=ok.n2;have DE:=Hd (fun(W:World) (x:Ext w W)=>Zar W (H.ext x) h1 h24);have FU:=Hd (fun(W:World)=>WG rows.length (by omega) W);have UF:=Uc h24;have WO0:=fun(W:World)=>Xc (2^rows.length-1) 0 (Yb h24).1 (by omega) W
 obtain⟨r,hr⟩:∃ r,Hid (Wu rows p=r):=⟨_,rfl⟩;rw[hr.out];obtain⟨C,cc,us,hB,_,hV,hR⟩:=H;have lus:Hid (us.length=rows.length):=hR.1;replace hV:=Hd hV;replace hR:=Hd hR;replace hB:=Hd hB;unfold Wu at hr;replace hP:=Hd hP;have B1:Hid (Blk (w.alloc (.cells #[.int .u64 0,.int .u64 0,.int .i64 0,.int .i64 0] 308)) w.heap.size 308 #[.int .u64 0,.int .u64 0,.int .i64 0,.int .i64 0]):=.new rfl
 by_cases hlen:rows.length-1<p.length
 ·have hr2:Hid (r=none):=by
   have h:=hr.out;rw[if_pos hlen] at h;exact h.symm
  have hlb:decide ((rows.length:Int)-1<(p.length:Int))=true:=decide_eq_true (by omega);rw[hr2.out];unfold Zdi;clear hr hr2 FU WO0 UF;go_enter Tryz.func279,Tryz.ntmps279;go_wp2_with (fail);refine(DE.out _ (by(repeat (first | assumption | exact Ext.rf _ | apply Ext.drew | apply Ext.drewN | apply Ext.alloc)))).mono ?_;rintro e w1 ⟨rfl,x1⟩;have X1:=Hd (Ext.tr (a:=w) (by(repeat (first | assumption | exact Ext.rf _ | apply Ext.drew | apply Ext.drewN | apply Ext.alloc))) x1);have b1:=B1.out.ext x1;have c0:=b1.c0;have c1:=b1.c1;have c2:=b1.c2;have c3:=b1.c3;have f0:=b1.free 0;have f1:=b1.free 1;have f2:=b1.free 2;have f3:=b1.free 3;clear x1 b1;go_wp2_with (fail);refine bodyPost_ret (v:=.tuple #[Uz 0 0 0,.bool false]) (by simp[results,Tryz.results279,go_sem, *]) rfl ⟨rfl,?_⟩;exact(((X1.out.setNew (p:=⟨w.heap.size,0,none⟩) (Nat.le_refl _) _).setNew (p:=⟨w.heap.size,1,none⟩) (Nat.le_refl _) _).setNew (p:=⟨w.heap.size,2,none⟩) (Nat.le_refl _) _).setNew (p:=⟨w.heap.size,3,none⟩) (Nat.le_refl _) _
 ·have hr2:Hid (Xw rows (XH rows.length) 0 0 p=r):=by
   have h:=hr.out;rw[if_neg hlen] at h;exact h
  have hlb:decide ((rows.length:Int)-1<(p.length:Int))=false:=decide_eq_false (by omega);have hpl:p.length<=24:=by omega
  replace WO0:=fun(W:World)=>(show Calls Tryz.prog 268 #[ZE (2^rows.length-1),.int .i64 ((0:Nat):Int)] W fun e w'=>e=.returned (ZE (XH rows.length))/\Ext W w' from WO0 W)
  generalize XH rows.length=m0 at *;generalize 2^rows.length-1=mf at *;unfold ZE at FU WO0;replace WO0:=Hd WO0;clear hr;go_enter Tryz.func279,Tryz.ntmps279;go_wp2_with (fail);refine(DE.out _ (by(repeat (first | assumption | exact Ext.rf _ | apply Ext.drew | apply Ext.drewN | apply Ext.alloc)))).mono ?_;rintro e w1 ⟨rfl,x1⟩;have X1:=Hd (Ext.tr (a:=w) (by(repeat (first | assumption | exact Ext.rf _ | apply Ext.drew | apply Ext.drewN | apply Ext.alloc))) x1);have b1:=Hd (B1.out.ext x1);have cK:w1.cell? ⟨g,0,none⟩=some (.slice C rows.length cc):=(hB.out.ext X1.out).cell 0;clear x1;go_wp2_with (fail);refine(FU.out _).mono ?_;rintro e w2 ⟨rfl,x2⟩;have X2:=Hd (X1.out.tr x2);have b2:=Hd (b1.out.ext x2);clear x2 b1 cK;go_wp2_with (fail);refine(WO0.out _).mono ?_;rintro e w3 ⟨rfl,x3⟩;have z12:=x3.size;have zw1:=b2.out.lt;have X3:Ext w (w3.alloc (.cells #[.int .u64 m0,.int .u64 0,.int .i64 0,.int .i64 0] 308)):=(X2.out.tr x3).alloc _;have b3:Blk (w3.alloc (.cells #[.int .u64 m0,.int .u64 0,.int .i64 0,.int .i64 0] 308)) w.heap.size 308 #[.int .u64 0,.int .u64 0,.int .i64 0,.int .i64 0]:=(b2.out.ext x3).alloc _;have s3:Blk (w3.alloc (.cells #[.int .u64 m0,.int .u64 0,.int .i64 0,.int .i64 0] 308)) w3.heap.size 308 #[.int .u64 m0,.int .u64 0,.int .i64 0,.int .i64 0]:=.new rfl;have START:=Hd (And.intro X3 (And.intro b3 s3));obtain⟨sb,hsb⟩:∃ sb,Hid (sb=w3.heap.size):=⟨_,rfl⟩;have zsb:w.heap.size<sb:=by rw[hsb.out];omega
  clear X3 b3 s3 x3 b2 FU WO0;go_wp2_with (fail);rw[<-hsb.out] at START ⊢;go_loopw [29] (fun v wr=>∃ (k m last:Nat) (cost:Int),v=.int .i64 k/\k<=p.length/\Hid (Xw rows m last cost (p.drop k)=r)/\Hid (SubN rows.length m)/\Hid (last<rows.length/\0<=cost/\cost<=2147483647*(k:Int))/\Hid (Ext w wr/\Blk wr w.heap.size 308 #[.int .u64 0,.int .u64 0,.int .i64 0,.int .i64 0]/\Blk wr sb 308 #[.int .u64 m,.int .u64 0,.int .i64 last,.int .i64 cost])) (fun v _=>p.length-(intOf v).toNat)
  case atStart=>exact⟨0,m0,0,0,rfl,by omega,hr2,UF,by exact(show 0<rows.length/\(0:Int)<=0/\(0:Int)<=2147483647*((0:Nat):Int) from⟨by omega,by omega,by omega⟩),START⟩
  case round =>
   obtain⟨wo,rfl⟩:∃ wo:World,wo=wr:=⟨_,rfl⟩;clear START;obtain⟨k,m,last,cost,rfl,hk,HF,HU,HL,HH⟩:=hrel;obtain⟨Y,b1,bs⟩:=HH.out;have c0:=bs.c0;have c1:=bs.c1;have c2:=bs.c2;have c3:=bs.c3;replace Y:=Hd Y;replace b1:=Hd b1;replace bs:=Hd bs;clear HH
   by_cases hlt:k<p.length
   ·obtain⟨pb,po,c,rfl,zp,cp,ep,dp⟩:=(hP.out.ext Y.out).at hlt
    have HF2:Hid (r=if 0<=c/\c<64/\m.testBit c.toNat=true then Xw rows (Ye m c.toNat) c.toNat (cost+Za rows last c.toNat) (p.drop (k+1)) else none):=by
     have h:=HF.out;rw[dp.out,Qi] at h;exact h.symm
    have HA:=Hd (fun(W:World)=>QZ m c HU.out.1 W);unfold ZE at HA;clear HF ep dp;go_wp2_with (fail);refine(HA.out _).mono ?_;rintro e w3 ⟨rfl,x3⟩;have Y3:=Hd (Y.out.tr x3);have b13:=Hd (b1.out.ext x3);have bs3:=Hd (bs.out.ext x3);clear x3 c0 c1 c2 c3 cp
    by_cases hin:0<=c/\c<64/\m.testBit c.toNat=true
    ·have e1:(decide (0<=c/\c<64)&&m.testBit c.toNat)=true:=by rw[decide_eq_true ⟨hin.1,hin.2.1⟩,hin.2.2];rfl
     rw[e1];have HF3:Hid (Xw rows (Ye m c.toNat) c.toNat (cost+Za rows last c.toNat) (p.drop (k+1))=r):=by
      have h:=HF2.out;rw[if_pos hin] at h;exact h.symm
     obtain⟨i,rfl⟩:∃ i:Nat,c=(i:Int):=⟨c.toNat,by omega⟩;rw[Int.toNat_natCast] at HF3 hin;have hic:i<rows.length:=HU.out.2 i (Z3.2 ⟨by omega,hin.2.2⟩);have WO:=Hd (fun(W:World)=>Xc m i HU.out.1 (by omega) W);have HU2:=Hd (HU.out.clr i);generalize Ye m i=m2 at *;unfold ZE at WO;have hla:=HL.out.1;have er:rows[last]?=some rows[last]:=List.getElem?_eq_getElem hla;obtain⟨D,d,hu,oD⟩:=hR.out.2 _ _ er;have hmem:rows[last]∈rows:=List.getElem_mem hla;have lrow:=ok.row _ hmem;have nrow:=ok.num _ hmem;have ecost:Za rows last i=(rows[last]).getD i 0:=by unfold Za;rw[getD_some er]
     generalize rows[last]=row at *;obtain⟨ab,ao,vv,hC,zv,cv,ev⟩:=(hV.out.read.ext Y3.out).at (j:=last) (by rw[lus.out];exact hla);subst hC;obtain rfl:.slice D row.length d=vv:=by
      have h:=ev.out;rw[hu] at h;exact Option.some.inj h
     obtain⟨rb,ro,x,rfl,zx,cx,ex,_⟩:=(oD.read.ext Y3.out).at (k:=i) (by omega);rw[getD_some ex.out] at ecost;rw[ecost] at HF3;have nx:=nrow x (List.mem_of_getElem? ex.out);have HL2:Hid (i<rows.length/\0<=cost+x/\cost+x<=2147483647*((k+1:Nat):Int)):=by
      have h:=HL.out;have:i<rows.length/\0<=cost+x/\cost+x<=2147483647*((k+1:Nat):Int):=⟨hic,by omega,by omega⟩;exact this
     have hw:IntKind.i64.wrap (cost+x)=cost+x:=IntWalk.i64_in _ (by have:=HL2.out;omega);have cK:w3.cell? ⟨g,0,none⟩=some (.slice (some ⟨ab,ao,none⟩) rows.length cc):=(hB.out.ext Y3.out).cell 0;have c2:=bs3.out.c2;have c3:=bs3.out.c3;have f3:w3.frozen? ⟨sb,3,none⟩=false:=bs3.out.free 3;have q1:(last:Int)<(rows.length:Int):=by omega
     have q2:(i:Int)<(row.length:Int):=by omega
     have NB:Hid (Blk (w3.setCell ⟨sb,3,none⟩ (.int .i64 (cost+x))) sb 308 #[.int .u64 m,.int .u64 0,.int .i64 last,.int .i64 (cost+x)]):=bs3.out.set 3 (.int .i64 (cost+x));have NY:Hid (Ext w (w3.setCell ⟨sb,3,none⟩ (.int .i64 (cost+x)))):=Y3.out.setNew (p:=⟨sb,3,none⟩) (Nat.le_of_lt zsb) _;have NZ:Hid (Blk (w3.setCell ⟨sb,3,none⟩ (.int .i64 (cost+x))) w.heap.size 308 #[.int .u64 0,.int .u64 0,.int .i64 0,.int .i64 0]):=b13.out.far (p:=⟨sb,3,none⟩) (Nat.ne_of_lt zsb) _;clear hin e1 HF2 HA er hu oD hmem lrow nrow ecost ev ex nx hla;go_upto_region 9 with(fail);refine wp_region_any (by kernel_rfl) ?_
     change wpAny _ _ _ _ _ _ _ (World.drew _)
     refine Zc (i:=0) (op:=Op.fieldAddr 308 (Operand.tmp 6) 2) (t:=0) (d:=some 39) (v:=?_) rfl (by decide +kernel) (by decide +kernel) (by decide +kernel) (fun _ _ _ h=>h) ?_ ?_
     case refine_2=>(intro _;unfold Zd;go_simp;try with_reducible rfl)
     try simp only[lay]
     refine Zc (i:=2) (op:=Op.move (Operand.tmp 0)) (t:=79) (d:=some 41) (v:=?_) rfl (by decide +kernel) (by decide +kernel) (by decide +kernel) (fun _ _ _ h=>h) ?_ ?_
     case refine_2=>(intro _;unfold Zd;go_simp;try with_reducible rfl)
     try simp only[lay]
     refine Zc (i:=3) (op:=Op.nilCheck (Operand.tmp 41)) (t:=0) (d:=some 42) (v:=?_) rfl (by decide +kernel) (by decide +kernel) (by decide +kernel) (fun _ _ _ h=>h) ?_ ?_
     case refine_2=>(intro _;unfold Zd;go_simp;try with_reducible rfl)
     try simp only[lay]
     refine Zc (i:=4) (op:=Op.fieldAddr 123 (Operand.tmp 42) 0) (t:=0) (d:=some 43) (v:=?_) rfl (by decide +kernel) (by decide +kernel) (by decide +kernel) (fun _ _ _ h=>h) ?_ ?_
     case refine_2=>(intro _;unfold Zd;go_simp;try with_reducible rfl)
     try simp only[lay]
     refine Zc (i:=6) (op:=Op.fieldAddr 308 (Operand.tmp 6) 1) (t:=0) (d:=some 45) (v:=?_) rfl (by decide +kernel) (by decide +kernel) (by decide +kernel) (fun _ _ _ h=>h) ?_ ?_
     case refine_2=>(intro _;unfold Zd;go_simp;try with_reducible rfl)
     try simp only[lay]
     refine Zc (i:=10) (op:=Op.move (Operand.tmp 8)) (t:=3) (d:=some 49) (v:=?_) rfl (by decide +kernel) (by decide +kernel) (by decide +kernel) (fun _ _ _ h=>h) ?_ ?_
     case refine_2=>(intro _;unfold Zd;go_simp;try with_reducible rfl)
     try simp only[lay]
     refine Un (n:=2) [(1,some 40),(5,some 44),(7,some 46),(8,some 47),(9,some 48),(11,some 50),(12,some 51),(13,some 52)] (fun | 1=>.int .i64 cost | 5=>.slice (some ⟨ab,ao,none⟩) rows.length cc | 7=>.int .i64 last | 8=>.pointer (some ⟨ab,ao+last,none⟩) | 9=>.slice (some ⟨rb,ro,none⟩) row.length d | 11=>.pointer (some ⟨rb,ro+i,none⟩) | 12=>.int .i64 x | 13=>.int .i64 (cost+x) | _=>undef) #[true,true,true,true,true,true,true,true,true,true,true,true,true,true,false,false] (by decide +kernel) ?_ ?_
     ·intro pS hpm uS hD K hK
      simp only[List.mem_cons,List.not_mem_nil,or_false] at hpm;rcases hpm with rfl | rfl | rfl | rfl | rfl | rfl | rfl | rfl
      ·exact Zr (T:=3) (x:=Operand.tmp 39) (t:=3) (d:=some 40) rfl (.pointer (some ⟨sb,3,none⟩)) (by kernel_rfl) (.int .i64 cost) (by go_simp) hK
      ·exact Zr (T:=23) (x:=Operand.tmp 43) (t:=23) (d:=some 44) rfl (.pointer (some ⟨g,0,none⟩)) (by kernel_rfl) (.slice (some ⟨ab,ao,none⟩) rows.length cc) (by go_simp) hK
      ·exact Zr (T:=3) (x:=Operand.tmp 45) (t:=3) (d:=some 46) rfl (.pointer (some ⟨sb,2,none⟩)) (by kernel_rfl) (.int .i64 last) (by go_simp) hK
      ·exact Yt (T:=23) (x:=Operand.tmp 44) (y:=Operand.tmp 46) (t:=0) (d:=some 47) rfl (.slice (some ⟨ab,ao,none⟩) rows.length cc) (.int .i64 last) (Eq.trans (b:=uS 5) (by kernel_rfl) (hD 5 (Zf (by kernel_rfl)))) (Eq.trans (b:=uS 7) (by kernel_rfl) (hD 7 (Zf (by kernel_rfl)))) (.pointer (some ⟨ab,ao+last,none⟩)) (by go_simp) hK
      ·exact Zr (T:=22) (x:=Operand.tmp 47) (t:=22) (d:=some 48) rfl (.pointer (some ⟨ab,ao+last,none⟩)) (Eq.trans (b:=uS 8) (by kernel_rfl) (hD 8 (Zf (by kernel_rfl)))) (.slice (some ⟨rb,ro,none⟩) row.length d) (by go_simp) hK
      ·exact Yt (T:=22) (x:=Operand.tmp 48) (y:=Operand.tmp 49) (t:=0) (d:=some 50) rfl (.slice (some ⟨rb,ro,none⟩) row.length d) (.int .i64 i) (Eq.trans (b:=uS 9) (by kernel_rfl) (hD 9 (Zf (by kernel_rfl)))) (by kernel_rfl) (.pointer (some ⟨rb,ro+i,none⟩)) (by go_simp) hK
      ·exact Zr (T:=3) (x:=Operand.tmp 50) (t:=3) (d:=some 51) rfl (.pointer (some ⟨rb,ro+i,none⟩)) (Eq.trans (b:=uS 11) (by kernel_rfl) (hD 11 (Zf (by kernel_rfl)))) (.int .i64 x) (by go_simp) hK
      ·(have e1:uS 1=.int .i64 cost:=hD 1 (Zf (by kernel_rfl));have e12:uS 12=.int .i64 x:=hD 12 (Zf (by kernel_rfl));exact Zz (op:=Op.binOp BinOp.add 3 (Operand.tmp 40) (Operand.tmp 51) 3) (t:=3) (d:=some 52) rfl (.int .i64 (cost+x)) (by simp only[Zj,Act.put,List.setIfInBounds_toArray,List.set_cons_zero,List.set_cons_succ];unfold Zd;go_simp;try simp only[e1,e12];try go_simp) hK)
     simp only[Zj,Act.put,List.setIfInBounds_toArray,List.set_cons_zero,List.set_cons_succ];refine Zc (i:=14) (op:=Op.fieldAddr 308 (Operand.tmp 6) 2) (t:=0) (d:=some 53) (v:=?_) rfl (by decide +kernel) (by decide +kernel) (by decide +kernel) (fun _ _ _ h=>h) ?_ ?_
     case refine_2=>(intro _;unfold Zd;go_simp;try with_reducible rfl)
     try simp only[lay]
     refine Zm 15 (by decide +kernel) (YH rfl (.pointer (some ⟨sb,3,none⟩)) (.int .i64 (cost+x)) (by kernel_rfl) (by kernel_rfl) (by go_simp;rfl) ?_);refine wpAny_done (by kernel_rfl) ?_ _;clear c2 c3 cK cv cx f3 Y3 b13 bs3;generalize w3.setCell ⟨sb,3,none⟩ (.int .i64 (cost+x))=w4 at *;have d0:=NB.out.c0;have d1:=NB.out.c1;have d2:=NB.out.c2;have f2:w4.frozen? ⟨sb,2,none⟩=false:=NB.out.free 2;have MB:Hid (Blk (w4.setCell ⟨sb,2,none⟩ (.int .i64 i)) sb 308 #[.int .u64 m,.int .u64 0,.int .i64 i,.int .i64 (cost+x)]):=NB.out.set 2 (.int .i64 i);have MY:Hid (Ext w (w4.setCell ⟨sb,2,none⟩ (.int .i64 i))):=NY.out.setNew (p:=⟨sb,2,none⟩) (Nat.le_of_lt zsb) _;have MZ:Hid (Blk (w4.setCell ⟨sb,2,none⟩ (.int .i64 i)) w.heap.size 308 #[.int .u64 0,.int .u64 0,.int .i64 0,.int .i64 0]):=NZ.out.far (p:=⟨sb,2,none⟩) (Nat.ne_of_lt zsb) _;go_simp;go_wp2_with (fail);refine(WO.out _).mono ?_;rintro e w5 ⟨rfl,x5⟩;have bs5:=MB.out.drew.ext x5;have b15:=MZ.out.drew.ext x5;have k0:=bs5.c0;have k1:=bs5.c1;have g0:=bs5.free 0;have g1:=bs5.free 1;have NEW:Hid (Ext w ((w5.setCell ⟨sb,0,none⟩ (.int .u64 m2)).setCell ⟨sb,1,none⟩ (.int .u64 0))/\Blk ((w5.setCell ⟨sb,0,none⟩ (.int .u64 m2)).setCell ⟨sb,1,none⟩ (.int .u64 0)) w.heap.size 308 #[.int .u64 0,.int .u64 0,.int .i64 0,.int .i64 0]/\Blk ((w5.setCell ⟨sb,0,none⟩ (.int .u64 m2)).setCell ⟨sb,1,none⟩ (.int .u64 0)) sb 308 #[.int .u64 m2,.int .u64 0,.int .i64 i,.int .i64 (cost+x)]) :=
      ⟨((MY.out.drew.tr x5).setNew (p:=⟨sb,0,none⟩) (Nat.le_of_lt zsb) _).setNew (p:=⟨sb,1,none⟩) (Nat.le_of_lt zsb) _,(b15.far (p:=⟨sb,0,none⟩) (Nat.ne_of_lt zsb) _).far (p:=⟨sb,1,none⟩) (Nat.ne_of_lt zsb) _,(bs5.set 0 (.int .u64 m2)).set 1 (.int .u64 0)⟩
     clear bs5 b15 x5 d0 d1 d2;go_wp2_with (fail);go_roundw
     case rel=>exact⟨k+1,m2,i,cost+x,by go_num,by omega,HF3,HU2,HL2,NEW⟩
     case measure=>simp[intOf];omega
    ·have e1:(decide (0<=c/\c<64)&&m.testBit c.toNat)=false:=by
      by_cases h2:0<=c/\c<64
      ·cases h3:m.testBit c.toNat with
       | false=>simp
       | true=>exact absurd ⟨h2.1,h2.2,h3⟩ hin
      ·rw[decide_eq_false h2];rfl
     rw[e1];have HF3:Hid (r=none):=by
      have h:=HF2.out;rw[if_neg hin] at h;exact h
     have d0:=b13.out.c0;have d1:=b13.out.c1;have d2:=b13.out.c2;have d3:=b13.out.c3;have f0:=b13.out.free 0;have f1:=b13.out.free 1;have f2:=b13.out.free 2;have f3:=b13.out.free 3;clear hin e1 HF2 HA;go_wp2_with (fail);refine bodyPost_ret (v:=.tuple #[Uz 0 0 0,.bool false]) (by simp[results,Tryz.results279,go_sem, *]) rfl ⟨by rw[HF3.out];rfl,?_⟩;exact(((Y3.out.setNew (p:=⟨w.heap.size,0,none⟩) (Nat.le_refl _) _).setNew (p:=⟨w.heap.size,1,none⟩) (Nat.le_refl _) _).setNew (p:=⟨w.heap.size,2,none⟩) (Nat.le_refl _) _).setNew (p:=⟨w.heap.size,3,none⟩) (Nat.le_refl _) _
   ·obtain rfl:k=p.length:=by omega
    have HF3:Hid (r=some (m,last,cost)):=by
     have h:=HF.out;rw[List.drop_length] at h;exact h.symm
    have d0:=b1.out.c0;have d1:=b1.out.c1;have d2:=b1.out.c2;have d3:=b1.out.c3;have f0:=b1.out.free 0;have f1:=b1.out.free 1;have f2:=b1.out.free 2;have f3:=b1.out.free 3;go_wp2_with (fail);refine bodyPost_ret (v:=.tuple #[Uz m last cost,.bool true]) (by simp[results,Tryz.results279,go_sem, *]) rfl ⟨by rw[HF3.out];rfl,?_⟩;exact(((Y.out.setNew (p:=⟨w.heap.size,0,none⟩) (Nat.le_refl _) _).setNew (p:=⟨w.heap.size,1,none⟩) (Nat.le_refl _) _).setNew (p:=⟨w.heap.size,2,none⟩) (Nat.le_refl _) _).setNew (p:=⟨w.heap.size,3,none⟩) (Nat.le_refl _) _
end Go.Proofs.YtmojhhlcocjoaaaGreatDoor
namespace Go.Proofs.YtmojhhlcocjoaaaGreatDoor
open Go
section
variable {P:Program} {ops:Array Oper} {Q:Exit->Act->World->Prop}
theorem Wp (rem:List (Nat×Option Tmp))(f:Nat->Value){listed0:Array Bool}(listed1:Array Bool)(hok:W2 ops listed0 listed1 rem=true){a0:Act}{w:World}{n:Nat}
  (step:∀ p∈rem,∀ u:Nat->Value,(∀ j∈Xo ops rem p.1,u j=f j)->∀ K:Act->World->Prop,K ((Zj a0 rem u).put p.2 (f p.1)) w->wpOp P ops Q p.1 K (Zj a0 rem u) w)
  (done:wpAny P .any ops Q n listed1 (Zj a0 rem f) w):wpAny P .any ops Q (rem.length+n) listed0 a0 w:=by
 refine Zv rem (fun w'=>w'=w) (fun i v _=>v=f i) (fun _ _=>True) listed1 hok (fun _ _ _ _ h _=>h) ?_ n ?_ rfl
 ·rintro p hp u w' rfl hD K hK
  exact step p hp u hD K (hK _ _ rfl rfl trivial)
 ·rintro u w' rfl hV
  have:∀ qs:List (Nat×Option Tmp),(∀ p∈qs,u p.1=f p.1)->Zj a0 qs u=Zj a0 qs f:=by
   intro qs
   induction qs with
   | nil=>intro _;rfl
   | cons q qs ih =>
    intro h;simp only[Zj,ih (fun p hp=>h p (List.mem_cons_of_mem _ hp)),h q List.mem_cons_self]
  rw[this rem hV];exact done
end
end Go.Proofs.YtmojhhlcocjoaaaGreatDoor
namespace Go.Proofs.YtmojhhlcocjoaaaGreatDoor
open Go
def WV (K:Act->World->Prop) : Exit->Act->World->Prop
 | .normal,a,w=>K a w
 | _,_,_=>False
theorem Vl {K:Act->World->Prop}{a:Act}{w:World}(h:K a w) : WV K .normal a w:=h
theorem VJ {K:Act->World->Prop}(h:LetsOut (WV K)) : False:=by
 obtain⟨a,w,h⟩:=h;exact h
section
variable {F:Fence} {n:Nat} {P:Program} {ops:Array Oper} {Q:Exit->Act->World->Prop} {K:Act->World->Prop}
theorem WW (h1:∀ f,F.fn f)(h2:F.depth=none)(h3:F.alive=false)(m:Machine) : m.fenced P F:=by
 intro g _;refine⟨fun h=>?_,Or.inl (h1 _),fun _ _=>h1 _,fun _ h=>?_⟩
 ·rw[h3] at h;cases h
 ·rw[h2] at h;cases h
theorem YN (h1:∀ f,F.fn f)(h2:F.depth=none)(h3:F.alive=false){f:FuncId}{args:Array Value}{w:World}{R:Ending->World->Prop}(h:Calls P f args w R) : CallsIn F n P f args w R:=by
 refine⟨h1 _,fun cs _=>?_⟩;obtain⟨e,w',fr,r,s,x⟩:=h cs;refine⟨e,w',fr,r,?_,x⟩
 cases e with
 | returned v=>exact(StepsIn.of_steps s).mono fun m _=>WW h1 h2 h3 m
 | panicked chain=>exact(StepsIn.of_steps s).mono fun m _=>WW h1 h2 h3 m
 | outgrown=>exact s
theorem JT (h1:∀ f,F.fn f)(h2:F.depth=none)(h3:F.alive=false){row:String}{args:Array Value}{w:World}{R:Value->World->Prop}(h:Rows P row args w R) : RowsIn F n P row args w R:=by
 intro c cs _;obtain⟨v,w',r,s⟩:=h c cs;exact⟨v,w',r,(StepsIn.of_steps s).mono fun m _=>WW h1 h2 h3 m⟩
theorem Zaw {o:Oper}{a:Act}{w:World}{K1 K2:Act->World->Prop}(hd:∀ c,o.op≠.defer c)(h1:∀ f,F.fn f)(h2:F.depth=none)(h3:F.alive=false)(hK:∀ a w,K1 a w->K2 a w)
  (h:o.wp P a w K1 (WV K)):o.wpIn F n P a w K2 Q:=by
 unfold Oper.wpIn;refine⟨fun f _=>h1 f,?_⟩;rw[Oper.semAt_eq _ _ _ hd];unfold Oper.wp at h;generalize (execOp a.eval o).run P w=r at *
 cases r with
 | ok x w' =>
  cases x<;>simp only[Oper.upon] at h<;>simp only[Oper.uponIn]
  case value=>exact hK _ _ h
  case skip=>exact hK _ _ h
  case defer=>exact hK _ _ h
  case enter f args =>
   refine⟨fun h=>(by rw[h2] at h;cases h),(YN h1 h2 h3 h).mono fun e w'' he=>?_⟩
   cases e with
   | returned v=>exact hK _ _ he
   | panicked chain=>exact he.elim
   | outgrown=>exact(VJ he).elim
  case row row args =>
   exact⟨fun h=>(by rw[h2] at h;cases h),(JT h1 h2 h3 h).mono fun v w'' he=>hK _ _ he⟩
 | halt x w' =>
  cases x<;>simp only[Oper.upon] at h
  exact h.elim
theorem Ys {md:Region.Mode}(hd:∀ (i:Nat) (o:Oper),ops[i]?=some o->∀ c,o.op≠.defer c)(h1:∀ f,F.fn f)(h2:F.depth=none)(h3:F.alive=false) :
  ∀ (fuel:Nat) (listed:Array Bool) (a:Act) (w:World),wpAny P md ops (WV (Q .normal)) fuel listed a w->wpAnyIn F n P md ops Q fuel listed a w
 | 0,_,_,_,h=>⟨h.1,h.2⟩
 | fuel+1,_,_,_,h=>by
  refine⟨fun h0=>h.1 h0,fun i hi=>?_⟩;have h4:=h.2 i hi;unfold wpOp at h4;unfold wpOpIn;split
  ·rename_i ho
   simp only[ho] at h4;exact Ys hd h1 h2 h3 fuel _ _ _ h4
  ·rename_i o ho
   simp only[ho] at h4;split
   ·rename_i hw
    simp only[hw,if_true] at h4;rcases h4 with h4 | h4
    ·exact Zaw (hd i o ho) h1 h2 h3 (fun a w h=>Ys hd h1 h2 h3 fuel _ a w h) h4
    ·exact(VJ h4.2).elim
   ·rename_i hw
    simp only[hw] at h4;exact⟨fun f _=>h1 f,Ys hd h1 h2 h3 fuel _ _ _ h4⟩
theorem YV {id:Nat}{a:Act}{w:World}{l:List Oper}(hm:P.follows .mixedOrders=true)(hd:l.all (fun o => !UE o)=true)(h1:∀ f,F.fn f)(h2:F.depth=none)(h3:F.alive=false)
  (h:wpAny P .any l.toArray (WV (Q .normal)) l.toArray.size (Array.replicate l.toArray.size false) a w.drew):(Code.region id l.toArray true).wpIn F n P Q a w:=by
 refine wpIn_region_any hm (Ys ?_ h1 h2 h3 _ _ _ _ h);intro i o ho c hc;have h1:o∈l:=by
  have h2:l[i]?=some o:=by simpa using ho
  exact List.mem_of_getElem? h2
 have h3:=List.all_eq_true.1 hd o h1;obtain⟨dst,op,ty,pos,af,gu⟩:=o;simp only at hc;subst hc;simp[UE] at h3
end
end Go.Proofs.YtmojhhlcocjoaaaGreatDoor
namespace Go.Proofs.YtmojhhlcocjoaaaGreatDoor
open Go.RowKit Go.ChangeShapes Go.WideShapes Go.ChangeAt Go.Deep
def WY (m last src:Nat) : Nat:=if src=last then m else Ye m src ||| 2^0
theorem Zax {m last src:Nat}(h:m<18446744073709551616)(h0:0∉Zb m) : Zb (WY m last src)=ZQ (Zb m) last src:=by
 unfold WY ZQ;split
 ·rfl
 ·rw[UY,YQ h]
  intro hm;rw[YQ h] at hm;exact h0 (List.mem_filter.1 hm).1
theorem Zcz {m last src:Nat}(h:m<18446744073709551616) : WY m last src<18446744073709551616:=by
 unfold WY;split
 ·exact h
 ·exact Jr (UB m src) (by omega)
theorem Uu (m last:Nat)(cost:Int)(src:Nat)(hm:m<18446744073709551616)(hs:src<64)(w:World) : Calls Tryz.prog 283 #[Uz m last cost,.int .i64 src] w fun e w'=>e=.returned (ZE (WY m last src))/\Ext w w':=by
 have B1:Blk ((w.alloc (.cells #[.int .u64 m,.int .u64 0,.int .i64 last,.int .i64 cost] 308)).alloc (.cells #[.int .u64 0,.int .u64 0] 141)) (w.heap.size+1) 141 #[.int .u64 0,.int .u64 0]:=.new (by simp);have f0:=B1.free 0;have f1:=B1.free 1;have c0:((w.alloc (.cells #[.int .u64 m,.int .u64 0,.int .i64 last,.int .i64 cost] 308)).alloc (.cells #[.int .u64 0,.int .u64 0] 141)).cell? ⟨w.heap.size+1,0,none⟩=some (.int .u64 0):=B1.cell 0;have c1:((w.alloc (.cells #[.int .u64 m,.int .u64 0,.int .i64 last,.int .i64 cost] 308)).alloc (.cells #[.int .u64 0,.int .u64 0] 141)).cell? ⟨w.heap.size+1,1,none⟩=some (.int .u64 0):=B1.cell 1;have X0:Hid (Ext w ((w.alloc (.cells #[.int .u64 m,.int .u64 0,.int .i64 last,.int .i64 cost] 308)).alloc (.cells #[.int .u64 0,.int .u64 0] 141))):=((Ext.rf _).alloc _).alloc _;unfold WY
 by_cases e:src=last
 ·rw[if_pos e]
  have t0:((src:Int)==(last:Int))=true:=by rw[e];simp
  clear e;unfold ZE;go_enter Tryz.func283,Tryz.ntmps283;go_wp2_with (fail);refine bodyPost_ret (v:=.agg #[.int .u64 m,.int .u64 0]) (by simp[results,Tryz.results283,go_sem, *]) rfl ⟨rfl,?_⟩;exact((Ext.rf _).alloc _).alloc _
 ·rw[if_neg e]
  have t0:((src:Int)==(last:Int))=false:=by rw[beq_eq_false_iff_ne];omega
  have WO:=fun(W:World)=>Xc m src hm hs W
  have WI:=fun(W:World)=>UX (Ye m src) 0 (UB m src) (by omega) W
  generalize Ye m src ||| 2^0=m2 at *
  generalize Ye m src=m1 at *;unfold ZE at WO WI ⊢;replace WO:=Hd WO;replace WI:=Hd WI;replace B1:=Hd B1;clear e hm;go_enter Tryz.func283,Tryz.ntmps283;go_wp2_with (fail);refine(WO.out _).mono ?_;rintro e w1 ⟨rfl,x1⟩;have X1:=Hd (X0.out.tr x1);have b1:=Hd (B1.out.ext x1);clear x1 c0 c1 f0 f1;go_wp2_with (fail);refine(WI.out _).mono ?_;rintro e w2 ⟨rfl,x2⟩;have X2:=Hd (X1.out.tr x2);have b2:=b1.out.ext x2;have c0:=b2.c0;have c1:=b2.c1;have f0:=b2.free 0;have f1:=b2.free 1;clear x2;go_wp2_with (fail);refine bodyPost_ret (v:=.agg #[.int .u64 m2,.int .u64 0]) (by simp[results,Tryz.results283,go_sem, *]) rfl ⟨rfl,?_⟩;exact(X2.out.setNew (p:=⟨w.heap.size+1,0,none⟩) (by simp) _).setNew (p:=⟨w.heap.size+1,1,none⟩) (by simp) _
abbrev ZdK (p:Int×Int) : Value:=.agg #[.int .i64 p.1,.int .i64 p.2]
theorem Zdj (p:Int×Int)(n:Int)(w:World) : Calls Tryz.prog 284 #[ZdK p,.int .i64 n] w fun e w'=>e=.returned (ZdK (YC p n))/\Ext w w':=by
 obtain⟨a,b⟩:=p;unfold YC;simp only[ZdK];have X:∀ c d:Value,Ext w ((w.alloc (.cells #[.int .i64 a,.int .i64 b] 313)).alloc (.cells #[c,d] 313)):=fun _ _=>((Ext.rf _).alloc _).alloc _
 by_cases h1:n<a
 ·rw[if_pos h1]
  go_enter Tryz.func284,Tryz.ntmps284;go_wp2_with (fail);refine bodyPost_ret (v:=.agg #[.int .i64 n,.int .i64 a]) (by simp[results,Tryz.results284,go_sem, *]) rfl ⟨rfl,?_⟩;exact X _ _
 ·rw[if_neg h1]
  by_cases h2:n<b
  ·rw[if_pos h2]
   go_enter Tryz.func284,Tryz.ntmps284;go_wp2_with (fail);refine bodyPost_ret (v:=.agg #[.int .i64 a,.int .i64 n]) (by simp[results,Tryz.results284,go_sem, *]) rfl ⟨rfl,?_⟩;exact X _ _
  ·rw[if_neg h2]
   go_enter Tryz.func284,Tryz.ntmps284;go_wp2_with (fail);refine bodyPost_ret (v:=.agg #[.int .i64 a,.int .i64 b]) (by simp[results,Tryz.results284,go_sem, *]) rfl ⟨rfl,?_⟩;exact X _ _
open Go.RowKit Go.ChangeShapes Go.WideShapes Go.ChangeAt Go.Deep Go.Shelf
attribute [local go_sem] Oper.semAt_some
theorem Ud (u:World)(x:Int) : (Instr.buildSlice 22 1 #[(0,.int .i64 x)]).run Tryz.prog u=.ok (.slice (some ⟨u.heap.size,0,none⟩) 1 1) (u.alloc (.cells #[.int .i64 x] 3)):=by go_simp
theorem RdI.toRdC {w:World}{A:Option Addr}{xs:List Int}(h:RdI w A xs) : RdC w A (xs.map (Value.int .i64)):=by
 rcases h with rfl | ⟨b,off,rfl,hb,hc⟩
 ·exact .inl rfl
 ·refine .inr ⟨b,off,rfl,hb,fun j v hj=>?_⟩
  rw[List.getElem?_map] at hj;obtain⟨x,hx,rfl⟩:=Option.map_eq_some_iff.1 hj;exact hc j x hx
theorem JU (w:World)(base:Nat)(ty:TypeId)(g:Nat)(y:Int)(ys:List Int)(B:Option Addr)(c:Nat)(hg:Blk w g 3 #[.int .i64 y])(hb:base<=g)(hr:RdI w B ys)(hlen:ys.length<=2^40) :
  ∃ A' c' w',(Builtin.append_ #[22,22] ty #[.slice (some ⟨g,0,none⟩) 1 1,.slice B ys.length c]).run Tryz.prog w=.ok (.slice A' (y::ys).length c') w'/\OwI w' base A' c' (y::ys)/\Ext w w':=by
 obtain⟨i0,hi,hz0,hz1,hz2⟩:=info_parts YF;obtain⟨A',c',w',h1,h2,h3⟩:=Jh w (e:=3) Tryz.underlying22 hi hz0 hz1 hz2 (by simp[Value.cells]) (by omega) base ty g 1 #[.int .i64 y] B ys.length c (ys.map (Value.int .i64)) hg hb (by simp) hr.toRdC (by simp) (fun u hu=>by
  obtain⟨x,_,rfl⟩:=List.mem_map.1 hu
  rfl) (by simp only[maxLen];omega) (by omega)
 have e:1+ys.length=(y::ys).length:=by simp;omega
 rw[e] at h1 h2;exact⟨A',c',w',h1,h2,h3⟩
def Marks (B:Nat)(ds:List Deferred)(W:World) : Prop:=∃ rs:List Nat,ds=rs.map (fun r=>{ target:=.collected r,args:=#[] })/\rs.Nodup/\∀ r∈rs,B<=r/\W.heap[r]?=some (.deferred (some []))
theorem VM {n:Nat}{fn:Func}{tmps:Array Value}{R:Ending->World->Prop}(w:World) : ∀ (rs:List Nat) (W:World),rs.Nodup->(∀ r∈rs,w.heap.size<=r/\W.heap[r]?=some (.deferred (some [])))->Ext w W ->
  (∀ W',Ext w W'->LeavesIn Fence.wide n Tryz.prog fn tmps R [] .returning W')->LeavesInM Fence.wide n Tryz.prog fn tmps R (rs.map fun r=>{ target:=.collected r,args:=#[] }) .returning W
 | [],W,_,_,hx,h=>h W hx
 | r::rs,W,hn,hr,hx,h=>by
  have h1:=hr r (by simp);have hn':=List.nodup_cons.1 hn;refine⟨by simp,.inl ⟨r,_,rfl,run_takeDeferred h1.2,VM w rs _ hn'.2 (fun k hk=>?_) (hx.trans (belowK_b (w:=w) (Nat.le_refl _) W r _ _ h1.1 h1.2 rfl rfl)) h⟩⟩;have h2:=hr k (by simp[hk]);refine⟨h2.1,(World.putObj_heap_other ?_).trans h2.2⟩;rintro rfl;exact hn'.1 hk
theorem Marks.leaves {n:Nat}{fn:Func}{tmps:Array Value}{R:Ending->World->Prop}{w W:World}{ds:List Deferred}(h:Marks w.heap.size ds W)(hx:Ext w W)
  (hR:∀ W',Ext w W'->LeavesIn Fence.wide n Tryz.prog fn tmps R [] .returning W'):LeavesInM Fence.wide n Tryz.prog fn tmps R ds .returning W:=by
 obtain⟨rs,rfl,hn,hr⟩:=h;exact VM w rs W hn hr hx hR
theorem Marks.nil (B:Nat)(W:World) : Marks B [] W:=⟨[],rfl,List.nodup_nil,fun _ h=>by cases h⟩
theorem Marks.keep {B:Nat}{ds:List Deferred}{W W':World}(h:Marks B ds W)(k:∀ b:Nat,W.heap[b]?=some (Obj.deferred (some []))->W'.heap[b]?=W.heap[b]?) : Marks B ds W':=by
 obtain⟨rs,h1,h2,h3⟩:=h;exact⟨rs,h1,h2,fun r hr=>⟨(h3 r hr).1,(k r (h3 r hr).2).trans (h3 r hr).2⟩⟩
theorem Marks.lt {B:Nat}{ds:List Deferred}{W:World}(h:Marks B ds W) : ∀ d∈ds,∃ r,d={ target:=.collected r,args:=#[] }/\r<W.heap.size:=by
 obtain⟨rs,rfl,_,h3⟩:=h;intro d hd;obtain⟨r,hr,rfl⟩:=List.mem_map.1 hd;exact⟨r,rfl,(Array.getElem?_eq_some_iff.1 (h3 r hr).2).1⟩
theorem Marks.cons {B D:Nat}{ds:List Deferred}{W0 W:World}(h:Marks B ds W0)(hD:W0.heap.size<=D)(hB:B<=D)(k:∀ b:Nat,W0.heap[b]?=some (Obj.deferred (some []))->W.heap[b]?=W0.heap[b]?)(hK:W.heap[D]?=some (.deferred (some []))) : Marks B ({ target:=.collected D,args:=#[] }::ds) W:=by
 obtain⟨rs,rfl,h2,h3⟩:=h;refine⟨D::rs,rfl,List.nodup_cons.2 ⟨fun hm=>?_,h2⟩,fun r hr=>?_⟩
 ·have:=(Array.getElem?_eq_some_iff.1 (h3 D hm).2).1
  omega
 ·rcases List.mem_cons.1 hr with rfl | hr
  ·exact⟨hB,hK⟩
  ·exact⟨(h3 r hr).1,(k r (h3 r hr).2).trans (h3 r hr).2⟩
theorem Marks.more {B B':Nat}{ds:List Deferred}{W:World}(h:Marks B ds W)(hB:B'<=B) : Marks B' ds W:=by
 obtain⟨rs,h1,h2,h3⟩:=h;exact⟨rs,h1,h2,fun r hr=>⟨Nat.le_trans hB (h3 r hr).1,(h3 r hr).2⟩⟩
def Ue (rows:List (List Int))(us:List Nat)(last:Nat)(done:List Nat) : List Int:=(List.range rows.length).map fun x=>if x∈done then Yf rows us last x else 0
theorem Xx (rows:List (List Int))(us:List Nat)(last:Nat)(done:List Nat) : (Ue rows us last done).length=rows.length:=by simp[Ue]
theorem ZcA (rows:List (List Int))(us:List Nat)(last:Nat) : Ue rows us last []=List.replicate rows.length 0:=by simp[Ue,List.map_const']
theorem Qj {rows:List (List Int)}{us:List Nat}{last:Nat}{done:List Nat}{x:Nat}(hx:x<rows.length) : (Ue rows us last done)[x]?=some (if x∈done then Yf rows us last x else 0):=by
 simp[Ue,hx]
theorem ZbH {rows:List (List Int)}{us:List Nat}{last:Nat}{done:List Nat}{x:Nat} : (Ue rows us last done).set x (Yf rows us last x)=Ue rows us last (done++[x]):=by
 apply List.ext_getElem?;intro j
 by_cases hj:j<rows.length
 ·rw[Qj hj,List.getElem?_set,Xx,Qj hj]
  by_cases e:x=j
  ·subst e
   simp[hj]
  ·rw[if_neg e]
   have e':¬j=x:=fun h=>e h.symm
   simp[e']
 ·rw[List.getElem?_eq_none (by rw[List.length_set,Xx];omega),List.getElem?_eq_none (by rw[Xx];omega)]
def ZcB (w w5:World)(sb ob:Nat)(sum:Int)(n:Nat)(offs:List Int)(ds:List Deferred)(wr:World) : Prop :=
 w5.heap.size<=wr.heap.size/\Ext w wr/\(∀ b,b<w5.heap.size->b≠sb->b≠ob->wr.heap[b]?=w5.heap[b]?)/\Blk wr sb 3 #[.int .i64 sum]/\OwI wr 0 (some ⟨ob,0,none⟩) n offs/\Marks w5.heap.size ds wr
theorem Zay {base g:Nat}{rows:List (List Int)}{mi:Bool}(m last:Nat)(cost:Int)(ok:RowsOk rows)(hS:SubN rows.length m)(h0:0∉Zb m)(hla:last<rows.length)(w:World)(hT:Tab w)(H:KernT w base g rows mi) :
  CallsIn Fence.wide 3 Tryz.prog 280 #[.pointer (some ⟨g,0,none⟩),Uz m last cost] w fun e W'=>e=.returned (.int .i64 (ZH rows (Zb m) last))/\Ext w W':=by
 obtain⟨C,cc,us,hB,_,hV,hR⟩:=H;have l1:=ok.n1;have l2:=ok.n2;have lus:Hid (us.length=rows.length):=hR.1;have cK:=((((hB.alloc (.cells #[.pointer (some ⟨g,0,none⟩)] 79)).alloc (.cells #[.int .u64 m,.int .u64 0,.int .i64 last,.int .i64 cost] 308)).alloc (.cells #[.int .i64 0] 3)).cell 0);simp only[List.getElem?_toArray,List.getElem?_cons_zero] at cK;have zg:=hB.lt;have hg:=Vs hT;have h63:∀ x∈Zb m,x<63:=fun x hx=>by have:=hS.2 x hx;omega
 have LI:=Hd (fun(W:World) (hW:Tab W)=>Zb6 m hS.1 h63 W hW);unfold ZE at LI;replace hB:=Hd hB;replace hV:=Hd hV;replace hR:=Hd hR;refine callsIn_of_wp_marks Tryz.func280 rfl trivial ?_ rfl;simp only[Tryz.ntmps280,List.size_toArray,List.length_cons,List.length_nil,Nat.reduceAdd,Nat.reduceSub,Array.replicate_succ,Array.replicate_zero,List.push_toArray,List.append_toArray,List.nil_append,List.cons_append]
 gi_wp2_with (gi_at_make;go_loud (refine Q7 rfl _ _ rfl w.heap.size rows.length rfl rfl (by omega) (by simp;omega) ?_;intro w1 o1 g1))
 have bK1:=Hd ((Blk.new (w:=w) (t:=79) (cs:=#[.pointer (some ⟨g,0,none⟩)]) rfl).alloc (.cells #[.int .u64 m,.int .u64 0,.int .i64 last,.int .i64 cost] 308) |>.alloc (.cells #[.int .i64 0] 3) |>.grown g1 (by simp));have bW1:=Hd ((Blk.new (w:=w.alloc (.cells #[.pointer (some ⟨g,0,none⟩)] 79)) (t:=308) (cs:=#[.int .u64 m,.int .u64 0,.int .i64 last,.int .i64 cost]) rfl).alloc (.cells #[.int .i64 0] 3) |>.grown g1 (by simp));have bS1:=Hd ((Blk.new (w:=(w.alloc (.cells #[.pointer (some ⟨g,0,none⟩)] 79)).alloc (.cells #[.int .u64 m,.int .u64 0,.int .i64 last,.int .i64 cost] 308)) (t:=3) (cs:=#[.int .i64 0]) rfl).grown g1 (by simp));simp only[World.size_alloc] at bK1 bW1 bS1 o1;have X1:=Hd (((((Ext.rf w).alloc (.cells #[.pointer (some ⟨g,0,none⟩)] 79)).alloc (.cells #[.int .u64 m,.int .u64 0,.int .i64 last,.int .i64 cost] 308)).alloc (.cells #[.int .i64 0] 3)).grow g1 (by simp));obtain⟨sf,hsf⟩:∃ sf,Hid (sf=w1.heap.size):=⟨_,rfl⟩;have zf:w.heap.size+1+1+1<sf:=by rw[hsf.out];exact(OwI.lt o1 _ rfl).2
 have o2:=Hd (o1.ext ((Ext.rf w1).alloc (.cells #[.slice (some ⟨w.heap.size+1+1+1,0,none⟩) rows.length rows.length] 22)));have bF2:Hid (Blk (w1.alloc (.cells #[.slice (some ⟨w.heap.size+1+1+1,0,none⟩) rows.length rows.length] 22)) sf 22 #[.slice (some ⟨w.heap.size+1+1+1,0,none⟩) rows.length rows.length]):=.new hsf.out;have bK2:=Hd (bK1.out.alloc (.cells #[.slice (some ⟨w.heap.size+1+1+1,0,none⟩) rows.length rows.length] 22));have bW2:=Hd (bW1.out.alloc (.cells #[.slice (some ⟨w.heap.size+1+1+1,0,none⟩) rows.length rows.length] 22));have bS2:=Hd (bS1.out.alloc (.cells #[.slice (some ⟨w.heap.size+1+1+1,0,none⟩) rows.length rows.length] 22));have X2:=Hd (X1.out.alloc (.cells #[.slice (some ⟨w.heap.size+1+1+1,0,none⟩) rows.length rows.length] 22))
 try simp only[World.size_alloc]
 rw[<-hsf.out];generalize w1.alloc (.cells #[.slice (some ⟨w.heap.size+1+1+1,0,none⟩) rows.length rows.length] 22)=w2 at *;clear bK1 bW1 bS1 X1 o1 g1 cK;have T2:=Hd (hT.ext X2.out);refine YV (by kernel_rfl) (by kernel_rfl) (fun _=>trivial) rfl rfl ?_
 change wpAny _ _ _ _ _ _ _ (World.drew _)
 refine Zc (i:=0) (op:=Op.fieldAddr 308 (Operand.tmp 3) 1) (t:=0) (d:=some 24) (v:=?_) rfl (by decide +kernel) (by decide +kernel) (by decide +kernel) (fun _ _ _ h=>h) ?_ ?_
 case refine_2=>(intro _;unfold Zd;go_simp;try with_reducible rfl)
 try simp only[lay]
 refine Zc (i:=3) (op:=Op.fieldAddr 308 (Operand.tmp 3) 0) (t:=0) (d:=some 27) (v:=?_) rfl (by decide +kernel) (by decide +kernel) (by decide +kernel) (fun _ _ _ h=>h) ?_ ?_
 case refine_2=>(intro _;unfold Zd;go_simp;try with_reducible rfl)
 try simp only[lay]
 refine Wg (n:=1) [(1,some 25),(2,some 26),(4,some 28),(5,some 29),(6,some 30),(7,some 7)] (Ext w2)
  (VF (fun | 1=>some (.int .i64 last) | 4=>some (.agg #[.int .u64 m,.int .u64 0]) | _=>none)
   (fun i v W=>(i=2->∃ q,v=.slice (some ⟨q,0,none⟩) 1 1/\Blk W q 3 #[.int .i64 last]/\w2.heap.size<=q)/\(i=5->∃ A c,v=.slice A (Zl (Zb m)).length c/\RdI W A (Zl (Zb m)))/\(i=6->∃ A c,v=.slice A ((last:Int)::Zl (Zb m)).length c/\OwI W w2.heap.size A c ((last:Int)::Zl (Zb m)))/\(i=7->∃ q,v=.pointer (some ⟨q,0,none⟩)/\Blk W q 22 #[.slice none 0 0]/\w2.heap.size<=q)))
  Ext #[true,true,true,true,true,true,true,true,false] (by decide +kernel) (VF.stab ?_) ?_ ?_ ((Ext.rf _).drew)
 ·intro j v W W' _ h hx
  refine⟨fun e=>?_,fun e=>?_,fun e=>?_,fun e=>?_⟩
  ·obtain⟨q,h1,h2,h3⟩:=h.1 e
   exact⟨q,h1,h2.ext hx,h3⟩
  ·obtain⟨A,c,h1,h2⟩:=h.2.1 e
   exact⟨A,c,h1,h2.ext hx⟩
  ·obtain⟨A,c,h1,h2⟩:=h.2.2.1 e
   exact⟨A,c,h1,h2.ext hx⟩
  ·obtain⟨q,h1,h2,h3⟩:=h.2.2.2 e
   exact⟨q,h1,h2.ext hx,h3⟩
 ·intro pq hpm u w4 hR4 hD K hK
  have bw:=bW2.out.ext hR4;have r0:=bw.c0;have r1:=bw.c1;have r2:=bw.c2;simp only[List.mem_cons,List.not_mem_nil,or_false] at hpm;rcases hpm with rfl | rfl | rfl | rfl | rfl | rfl
  ·exact Zr (T:=3) rfl (.pointer (some ⟨w.heap.size+1,2,none⟩)) (by kernel_rfl) (.int .i64 last) (by go_simp) (hK _ _ (VF.mk rfl) hR4 (Ext.rf _))
  ·have h1:=(hD 1 (Zf (by kernel_rfl))).k rfl
   exact VZ rfl _ (Eq.trans (b:=u 1) (by kernel_rfl) h1) _ (Ud _ _) (hK _ _ (VF.mg rfl ⟨fun _=>⟨_,rfl,.new rfl,hR4.size⟩,(fun h=>by cases h),(fun h=>by cases h),(fun h=>by cases h)⟩) (hR4.alloc _) ((Ext.rf _).alloc _))
  ·exact Zr (T:=141) rfl (.pointer (some ⟨w.heap.size+1,0,none⟩)) (by kernel_rfl) (.agg #[.int .u64 m,.int .u64 0]) (by go_simp) (hK _ _ (VF.mk rfl) hR4 (Ext.rf _))
  ·have h4:=(hD 4 (Zf (by kernel_rfl))).k rfl
   refine ZJ rfl #[.agg #[.int .u64 m,.int .u64 0]] (by go_simp) (by rw[<-h4];kernel_rfl) _ (LI.out _ (T2.out.ext hR4)) ?_;rintro e w3 ⟨A3,c3,rfl,o3,x3⟩;exact⟨_,rfl,hK _ _ (VF.mg rfl ⟨(fun h=>by cases h),fun _=>⟨A3,c3,rfl,o3.read⟩,(fun h=>by cases h),(fun h=>by cases h)⟩) (hR4.tr x3) x3⟩
  ·obtain⟨q,h2,b2,z2⟩:=((hD 2 (Zf (by kernel_rfl))).g rfl).1 rfl
   obtain⟨A,c,h5,o5⟩:=((hD 5 (Zf (by kernel_rfl))).g rfl).2.1 rfl;obtain⟨A6,c6,w6,hrun,o6,x6⟩:=JU w4 w2.heap.size 22 q (last:Int) (Zl (Zb m)) A c b2 z2 o5 (by rw[Zq];have:=Y6 m;omega);exact V0 rfl _ _ (Eq.trans (b:=u 2) (by kernel_rfl) h2) (Eq.trans (b:=u 5) (by kernel_rfl) h5) _ hrun (hK _ _ (VF.mg rfl ⟨(fun h=>by cases h),(fun h=>by cases h),fun _=>⟨A6,c6,rfl,o6⟩,(fun h=>by cases h)⟩) (hR4.tr x6) x6)
  ·exact Zz (op:=.alloc 22) rfl (.pointer (some ⟨w4.heap.size,0,none⟩)) (w':=w4.alloc (.cells #[.slice none 0 0] 22)) (by unfold Zd;go_simp) (hK _ _ (VF.mg rfl ⟨(fun h=>by cases h),(fun h=>by cases h),(fun h=>by cases h),fun _=>⟨_,rfl,.new rfl,hR4.size⟩⟩) (hR4.alloc _) ((Ext.rf _).alloc _))
 ·intro u w4 hR4 hV4
  have h1:=(hV4 (1,some 25) (by simp)).k rfl;have h4:=(hV4 (4,some 28) (by simp)).k rfl;obtain⟨A6,c6,h6,o6⟩:=((hV4 (6,some 30) (by simp)).g rfl).2.2.1 rfl;obtain⟨q,h7,hq,hqz⟩:=((hV4 (7,some 7) (by simp)).g rfl).2.2.2 rfl;generalize u 2=y2 at *;generalize u 5=y5 at *;simp only[Zj,h1,h4,h6,h7];clear h1 h4 h6 h7 hV4;have cq:=hq.c0;have fq:=hq.free 0;obtain⟨srcs,hsr⟩:∃ srcs,Hid (srcs=last::Zb m):=⟨_,rfl⟩;have esr:(last:Int)::Zl (Zb m)=Zl srcs:=by rw[hsr.out];rfl
  rw[esr] at o6 ⊢;rw[Zq];have rb:Hid (Blk (w4.setCell ⟨q,0,none⟩ (.slice A6 srcs.length c6)) q 22 #[.slice A6 srcs.length c6]):=hq.set 0 (.slice A6 srcs.length c6);have X5:Ext w2 (w4.setCell ⟨q,0,none⟩ (.slice A6 srcs.length c6)):=hR4.setNew (p:=⟨q,0,none⟩) hqz _;have o7:Hid (OwI (w4.setCell ⟨q,0,none⟩ (.slice A6 srcs.length c6)) w2.heap.size A6 c6 (Zl srcs)):=o6.far hq (by decide) 0 _;refine Zm 8 (by decide +kernel) (YH rfl (.pointer (some ⟨q,0,none⟩)) (.slice A6 srcs.length c6) (by kernel_rfl) (by kernel_rfl) (by go_simp;rfl) ?_);refine wpAny_done (by kernel_rfl) (Vl ?_) _;clear cq fq hq hR4 o6 esr;generalize w4.setCell ⟨q,0,none⟩ (.slice A6 srcs.length c6)=w5 at *;clear w4;have X6:=Hd (X2.out.tr X5);have bK5:=Hd (bK2.out.ext X5);have bW5:=Hd (bW2.out.ext X5);have bS5:=Hd (bS2.out.ext X5);have bF5:=Hd (bF2.out.ext X5);have o5:=Hd (o2.out.ext X5);have z2:=bF2.out.lt;have z25:=X5.size;clear X2 bK2 bW2 bS2 bF2 o2 X5 T2;have cR:=rb.out.cell 0;simp only[List.getElem?_toArray,List.getElem?_cons_zero] at cR;go_simp
  gi_wp2
  have hsl:Hid (∀ s∈srcs,s<rows.length):=fun s h=>by
   rw[hsr.out] at h;rcases List.mem_cons.1 h with rfl | h
   ·exact hla
   ·exact hS.2 s h
  have lsr:srcs.length<=65:=by rw[hsr.out];have:=Y6 m;simp;omega
  have COLS:Hid (∀ s,s<rows.length->Zb (WY m last s)=ZQ (Zb m) last s/\WY m last s<18446744073709551616/\∀ x∈Zb (WY m last s),x<rows.length):=fun s hs=>by
   have e:=Zax (last:=last) (src:=s) hS.1 h0;refine⟨e,Zcz hS.1,fun x hx=>?_⟩;rw[e] at hx;unfold ZQ at hx;split at hx
   ·exact hS.2 x hx
   ·rcases List.mem_cons.1 hx with rfl | hx
    ·omega
    ·exact hS.2 x (List.mem_filter.1 hx).1
  have hcost:Hid (∀ a b,a<rows.length->b<rows.length->0<=Za rows a b/\Za rows a b<=2147483647):=fun a b ha hb=>by
   have e1:rows[a]?=some rows[a]:=List.getElem?_eq_getElem ha;have e2:=ok.row _ (List.getElem_mem ha);have e3:(rows[a])[b]?=some (rows[a])[b]:=List.getElem?_eq_getElem (by omega);unfold Za;rw[getD_some e1,getD_some e3];exact ok.num _ (List.getElem_mem ha) _ (List.getElem_mem _)
  have hoff:Hid (∀ s,s<rows.length->0<=Yf rows (Zb m) last s/\Yf rows (Zb m) last s<=2147483647):=fun s hs=>by
   have h1:=Yc (f:=fun dst=>Za rows s dst) (B:=2147483647) (l:=ZQ (Zb m) last s) (b:=-1) (fun c hc=>by
    have h2:=(COLS.out s hs).2.2 c (by rw[(COLS.out s hs).1];exact hc);have:=hcost.out s c hs h2;omega) (by omega) (by omega)
   unfold Yf;omega
  have bsum:Hid (∀ k,0<=Zi ((srcs.take k).map fun s=>Yf rows (Zb m) last s)/\Zi ((srcs.take k).map fun s=>Yf rows (Zb m) last s)<=2147483647*65):=fun k=>by
   have h1:∀ l:List Nat,(∀ s∈l,s<rows.length)->0<=Zi (l.map fun s=>Yf rows (Zb m) last s)/\Zi (l.map fun s=>Yf rows (Zb m) last s)<=2147483647*(l.length:Int):=by
    intro l
    induction l with
    | nil=>intro _;simp[Zi]
    | cons x l ih =>
     intro h;have h2:=ih fun s hs=>h s (by simp[hs])
     have h3:=hoff.out x (h x (by simp));simp only[List.map_cons,Zi,List.length_cons];omega
   have h2:=h1 (srcs.take k) fun s hs=>hsl.out s (List.mem_of_mem_take hs)
   have h3:(srcs.take k).length<=65:=by rw[List.length_take];omega
   omega
  have START:Hid (ZcB w w5 (w.heap.size+1+1) (w.heap.size+1+1+1) (Zi ((srcs.take 0).map fun s=>Yf rows (Zb m) last s)) rows.length (Ue rows (Zb m) last (srcs.take 0)) [] w5) :=
   ⟨Nat.le_refl _,X6.out,fun _ _ _ _=>rfl,bS5.out,by rw[List.take_zero,ZcA];exact o5.out.more (Nat.zero_le _),.nil _ _⟩
  refine wpIn_loop (fun a' wr=>∃ (k:Nat) (ds:List Deferred) (u9 u10 u34 u35 u36 u37 u38 u39 u40 u60 u61 u62 u63 u64 u65 u66 u67 u68 u69 u70 u71:Value),(k<=srcs.length/\Hid (ZcB w w5 (w.heap.size+1+1) (w.heap.size+1+1+1) (Zi ((srcs.take k).map fun s=>Yf rows (Zb m) last s)) rows.length (Ue rows (Zb m) last (srcs.take k)) ds wr)) /\
    a'={ tmps:=#[.pointer (some ⟨g,0,none⟩),.agg #[.int .u64 m,.int .u64 0,.int .i64 last,.int .i64 cost],.pointer (some ⟨w.heap.size,0,none⟩),.pointer (some ⟨w.heap.size+1,0,none⟩),.int .i64 0,.pointer (some ⟨w.heap.size+1+1,0,none⟩),.pointer (some ⟨sf,0,none⟩),.pointer (some ⟨q,0,none⟩),undef,u9,u10,undef,undef,undef,undef,undef,undef,undef,.pointer (some ⟨g,0,none⟩),.pointer (some ⟨g,0,none⟩),.pointer (some ⟨g,0,none⟩),.slice C rows.length cc,.int .i64 rows.length,.slice (some ⟨w.heap.size+1+1+1,0,none⟩) rows.length rows.length,.pointer (some ⟨w.heap.size+1,2,none⟩),.int .i64 last,u 2,.pointer (some ⟨w.heap.size+1,0,none⟩),.agg #[.int .u64 m,.int .u64 0],u 5,.slice A6 srcs.length c6,.slice A6 srcs.length c6,.int .i64 srcs.length,.int .i64 k,u34,u35,u36,u37,u38,u39,u40,undef,undef,undef,undef,undef,undef,undef,undef,undef,undef,undef,undef,undef,undef,undef,undef,undef,undef,undef,u60,u61,u62,u63,u64,u65,u66,u67,u68,u69,u70,u71,undef,undef,undef,undef,undef,undef,undef,undef,undef,undef,undef,undef,undef,undef,undef,undef,undef,undef,undef,undef,undef,undef,undef,undef,undef,undef,undef,undef,undef,undef,undef,undef,undef,undef,undef,undef,undef,undef,undef,undef,undef,undef,undef,undef,undef,undef],defers:=ds }) (fun a' _=>srcs.length-(intOf (a'.tmps.getD 33 undef)).toNat) ?_ ?_
  ·exact⟨0,[],_,_,_,_,_,_,_,_,_,_,_,_,_,_,_,_,_,_,_,_,_,⟨by omega,START⟩,rfl⟩
  intro _ wr hinv;obtain⟨k,ds,u9,u10,u34,u35,u36,u37,u38,u39,u40,u60,u61,u62,u63,u64,u65,u66,u67,u68,u69,u70,u71,⟨hk,HH⟩,rfl⟩:=hinv;obtain⟨wo,rfl⟩:∃ wo:World,wo=wr:=⟨_,rfl⟩;clear START;obtain⟨z5,Y,hB5,bU,oO,hM⟩:=HH.out
  by_cases hlt:k<srcs.length
  ·have er:srcs[k]?=some srcs[k]:=List.getElem?_eq_getElem hlt
   have hmem:srcs[k]∈srcs:=List.getElem_mem hlt;have hs:=hsl.out _ hmem;have etk:srcs.take (k+1)=srcs.take k++[srcs[k]]:=by rw[List.take_add_one,er];rfl
   have hcols:=COLS.out _ hs;have CO:=Hd (fun(W:World)=>Uu m last cost srcs[k] hS.1 (by omega) W);have bo:=Hd (hoff.out _ hs);have o7w:Hid (OwI wo w2.heap.size A6 c6 (Zl srcs)):=o7.out.keep fun g hg=>by
    have h1:=OwI.lt o7.out g hg;exact hB5 g h1.2 (by omega) (by omega)
   obtain⟨ab,ao,xs,rfl,zab,cA,eA,-⟩:=(OwI.read o7w.out).at (k:=k) (by rw[Zq];exact hlt);have exs:xs=((srcs[k]:Nat):Int):=by
    have h:=eA.out;rw[Yr er] at h;exact(Option.some.inj h).symm
   subst exs;generalize srcs[k]=src at *;have erow:rows[src]?=some rows[src]:=List.getElem?_eq_getElem hs;obtain⟨D,d,hu,oD⟩:=hR.out.2 _ _ erow;have lrow:=ok.row _ (List.getElem_mem hs);have nrow:=ok.num _ (List.getElem_mem hs);have ecost:∀ b,Za rows src b=(rows[src]).getD b 0:=fun b=>by unfold Za;rw[getD_some erow]
   generalize rows[src]=row at *;replace oD:=Hd oD;replace nrow:=Hd nrow;replace ecost:=Hd ecost;replace etk:=Hd etk;obtain⟨mc,hmc⟩:∃ mc,Hid (WY m last src=mc):=⟨_,rfl⟩;rw[hmc.out] at hcols CO;obtain⟨emc,hmc1,hmc2⟩:=hcols;replace emc:=Hd emc;replace hmc2:=Hd hmc2;have kb:Hid (Blk wo w.heap.size 79 #[.pointer (some ⟨g,0,none⟩)]):=(hB5 _ (by omega) (by omega) (by omega)).trans bK5.out;have fb:Hid (Blk wo sf 22 #[.slice (some ⟨w.heap.size+1+1+1,0,none⟩) rows.length rows.length]):=(hB5 _ (by omega) (by omega) (by omega)).trans bF5.out;have wb:Blk wo (w.heap.size+1) 308 #[.int .u64 m,.int .u64 0,.int .i64 last,.int .i64 cost]:=(hB5 _ (by omega) (by omega) (by omega)).trans bW5.out;replace wb:=(wb.alloc (.cells #[.int .i64 src] 3)).alloc (.cells #[.int .i64 (-1)] 3);have c0:((wo.alloc (.cells #[.int .i64 src] 3)).alloc (.cells #[.int .i64 (-1)] 3)).cell? ⟨w.heap.size+1,0,none⟩=some (.int .u64 m):=wb.cell 0;have c1:((wo.alloc (.cells #[.int .i64 src] 3)).alloc (.cells #[.int .i64 (-1)] 3)).cell? ⟨w.heap.size+1,1,none⟩=some (.int .u64 0):=wb.cell 1;have c2:((wo.alloc (.cells #[.int .i64 src] 3)).alloc (.cells #[.int .i64 (-1)] 3)).cell? ⟨w.heap.size+1,2,none⟩=some (.int .i64 last):=wb.cell 2;have c3:((wo.alloc (.cells #[.int .i64 src] 3)).alloc (.cells #[.int .i64 (-1)] 3)).cell? ⟨w.heap.size+1,3,none⟩=some (.int .i64 cost):=wb.cell 3;have q1:(k:Int)<(srcs.length:Int):=by omega
   have zO:w.heap.size+1+1+1+1<=wo.heap.size:=by omega
   replace Y:=Hd Y;replace hB5:=Hd hB5;replace bU:=Hd bU;replace oO:=Hd oO;replace hM:=Hd hM;replace hu:=Hd hu;replace erow:=Hd erow;unfold ZE at CO;clear HH eA er wb
   gi_wp2
   refine⟨trivial,?_⟩;refine(callsIn_wide.2 (CO.out _)).mono ?_;rintro e w6 ⟨rfl,x6⟩
   gi_wp2
   refine⟨trivial,?_⟩;refine(callsIn_wide.2 (Wh mc _)).mono ?_;rintro e w7 ⟨rfl,rfl⟩
   gi_wp2
   have zO6:wo.heap.size+1+1<=w6.heap.size:=by have:=x6.size;simpa using this
   have xo6:Hid (Ext wo (w6.alloc (.cells #[.int .u64 mc,.int .u64 0] 141))):=(Ext.tr (((Ext.rf wo).alloc _).alloc _) x6).alloc _;have bB:Blk (w6.alloc (.cells #[.int .u64 mc,.int .u64 0] 141)) w6.heap.size 141 #[.int .u64 mc,.int .u64 0]:=.new rfl;have hB0:Ext w (w6.alloc (.cells #[.int .u64 mc,.int .u64 0] 141)):=Y.out.tr xo6.out;have bL:Blk (w6.alloc (.cells #[.int .u64 mc,.int .u64 0] 141)) (wo.heap.size+1) 3 #[.int .i64 (-1)]:=((Blk.new (by simp)).ext x6).alloc _;have bN:Hid (Blk (w6.alloc (.cells #[.int .u64 mc,.int .u64 0] 141)) wo.heap.size 3 #[.int .i64 src]):=(((Blk.new (by simp)).alloc _).ext x6).alloc _;have h63c:∀ x∈Zb mc,x<63:=fun x hx=>by have:=hmc2.out x hx;omega
   refine wpIn_rangeFunc_ownG rfl (by omega) (gf:=140) (lb:=#[.pointer (some ⟨w6.heap.size,0,none⟩)]) rfl trivial (enters_of Tryz.func140 (by kernel_rfl) rfl)
    (YR 2 mc hmc1 h63c w6.heap.size w.heap.size _ bB (hT.ext hB0) hB0.size hg) SetKp.tr (Wi (cs:=#[.int .u64 mc,.int .u64 0]) hB0.size bB) (Below.refl _ _) (fun _=>rfl)
    (fun pre W=>Blk W (wo.heap.size+1) 3 #[.int .i64 (Zk (fun dst=>Za rows src dst) (-1) (inL pre))]/\Held (w6.alloc (.cells #[.int .u64 mc,.int .u64 0] 141)) (wo.heap.size+1) W/\Below w.heap.size w W)
    (fun _ _ _=>False)
    (OwnFrom.and (ZP (by simp<;>omega) _ _) (OwnFrom.and (Xj (Nat.le_refl _)) (ownFrom_below (Nat.le_refl _) (by simp<;>omega))))
    (fun _ _ _ _ _ hs _ _=>hs)
    ⟨by simpa [inL,Zk] using bL,⟨Nat.le_refl _,fun _ _ _=>rfl⟩,hB0⟩
    (fun x=>{ tmps:=#[.pointer (some ⟨g,0,none⟩),.agg #[.int .u64 m,.int .u64 0,.int .i64 last,.int .i64 cost],.pointer (some ⟨w.heap.size,0,none⟩),.pointer (some ⟨w.heap.size+1,0,none⟩),.int .i64 0,.pointer (some ⟨w.heap.size+1+1,0,none⟩),.pointer (some ⟨sf,0,none⟩),.pointer (some ⟨q,0,none⟩),undef,.pointer (some ⟨wo.heap.size,0,none⟩),.pointer (some ⟨wo.heap.size+1,0,none⟩),.int .i64 ((x.1:Nat):Int),undef,undef,undef,undef,undef,undef,.pointer (some ⟨g,0,none⟩),.pointer (some ⟨g,0,none⟩),.pointer (some ⟨g,0,none⟩),.slice C rows.length cc,.int .i64 rows.length,.slice (some ⟨w.heap.size+1+1+1,0,none⟩) rows.length rows.length,.pointer (some ⟨w.heap.size+1,2,none⟩),.int .i64 last,u 2,.pointer (some ⟨w.heap.size+1,0,none⟩),.agg #[.int .u64 m,.int .u64 0],u 5,.slice (some ⟨ab,ao,none⟩) srcs.length c6,.slice (some ⟨ab,ao,none⟩) srcs.length c6,.int .i64 srcs.length,.int .i64 k,.bool true,.pointer (some ⟨ab,ao+k,none⟩),.int .i64 src,.agg #[.int .u64 m,.int .u64 0,.int .i64 last,.int .i64 cost],.int .i64 src,.agg #[.int .u64 mc,.int .u64 0],.func (.func 140) #[] #[.pointer (some ⟨w6.heap.size,0,none⟩)],.int .i64 ((x.1:Nat):Int),undef,undef,undef,undef,undef,undef,undef,undef,undef,undef,undef,undef,undef,undef,undef,undef,undef,undef,u60,u61,u62,u63,u64,u65,u66,u67,u68,u69,u70,u71,undef,undef,undef,undef,undef,undef,undef,undef,undef,undef,undef,undef,undef,undef,undef,undef,undef,undef,undef,undef,undef,undef,undef,undef,undef,undef,undef,undef,undef,undef,undef,undef,undef,undef,undef,undef,undef,undef,undef,undef,undef,undef,undef,undef,undef,undef],defers:=[] }) ?assign ?body ?done ?stop
   case assign =>
    intro l x W K hK
    gi_wp2
    exact hK
   case body =>
    rintro l pre x W ⟨hO,hH,hBW⟩ hlt;obtain⟨bb,hbb⟩:∃ bb,Hid (bb=Zk (fun dst=>Za rows src dst) (-1) (inL pre)):=⟨_,rfl⟩;rw[<-hbb.out] at hO;have hxr:=hmc2.out x.1 x.2;have cKb:W.cell? ⟨w.heap.size,0,none⟩=some (.pointer (some ⟨g,0,none⟩)):=(hH.blk (kb.out.ext xo6.out) (by omega)).cell 0;have cN:W.cell? ⟨wo.heap.size,0,none⟩=some (.int .i64 src):=(hH.blk bN.out (by omega)).cell 0;have cL:=hO.c0;have fL:=hO.free 0;obtain⟨rb,ro,vv,rfl,zv,cv,ev⟩:=(hV.out.read.ext hBW).at (j:=src) (by rw[lus.out];exact hs);obtain rfl:.slice D row.length d=vv:=by
     have h:=ev.out;rw[hu.out] at h;exact Option.some.inj h
    obtain⟨cb,co,y,rfl,zy,cy,ey,_⟩:=(oD.out.read.ext hBW).at (k:=x.1) (by omega);have cG:W.cell? ⟨g,0,none⟩=some (.slice (some ⟨rb,ro,none⟩) rows.length cc):=(hB.out.ext hBW).cell 0;have eN:Hid (Zk (fun dst=>Za rows src dst) (-1) (inL (pre++[x]))=if bb<0 then y else if y<bb then y else bb):=Hd (by
     rw[Xq,YD,<-hbb.out,ecost.out,getD_some ey.out])
    have q2:(src:Int)<(rows.length:Int):=by omega
    have q3:((x.1:Nat):Int)<(row.length:Int):=by omega
    have zW:w6.heap.size+1<=W.heap.size:=by have:=hH.1;simpa using this
    have E0:Hid (∀ nq:Nat,KeepsFrom (w6.heap.size+1) W (W.drewN nq)/\SetKp w.heap.size w6.heap.size W (W.drewN nq)/\Blk (W.drewN nq) (wo.heap.size+1) 3 #[.int .i64 bb]/\Held (w6.alloc (.cells #[.int .u64 mc,.int .u64 0] 141)) (wo.heap.size+1) (W.drewN nq)/\Below w.heap.size w (W.drewN nq)):=fun nq =>
     have xr:Ext W (W.drewN nq):=(Ext.rf W).drewN nq
     ⟨KeepsFrom.of_ext xr,⟨xr.mono (by omega),rfl⟩,hO.drewN nq,hH.ext xr,hBW.trans (xr.mono (by omega))⟩
    have E1:Hid (∀ nq:Nat,KeepsFrom (w6.heap.size+1) W ((W.drewN nq).setCell ⟨wo.heap.size+1,0,none⟩ (.int .i64 y))/\SetKp w.heap.size w6.heap.size W ((W.drewN nq).setCell ⟨wo.heap.size+1,0,none⟩ (.int .i64 y))/\Blk ((W.drewN nq).setCell ⟨wo.heap.size+1,0,none⟩ (.int .i64 y)) (wo.heap.size+1) 3 #[.int .i64 y]/\Held (w6.alloc (.cells #[.int .u64 mc,.int .u64 0] 141)) (wo.heap.size+1) ((W.drewN nq).setCell ⟨wo.heap.size+1,0,none⟩ (.int .i64 y))/\Below w.heap.size w ((W.drewN nq).setCell ⟨wo.heap.size+1,0,none⟩ (.int .i64 y))):=fun nq =>
     have xr:Ext W (W.drewN nq):=(Ext.rf W).drewN nq
     ⟨(KeepsFrom.of_ext xr).trans ((KeepsOthers.setCell _ _ _).from _),⟨(xr.mono (by omega)).setCell (by simp<;>omega) _,Below.heap_setCell (W.drewN nq) ⟨wo.heap.size+1,0,none⟩ _ w6.heap.size (by simp;omega)⟩,(hO.drewN nq).set 0 _,(hH.ext xr).set _,(hBW.trans (xr.mono (by omega))).setCell (by simp<;>omega) _⟩
    have hmx:Tryz.prog.follows .mixedOrders=true:=by kernel_rfl
    clear ev ey hbb;replace hO:=Hd hO;replace hH:=Hd hH;replace hBW:=Hd hBW
    by_cases hneg:bb<0
    ·rw[if_pos hneg] at eN
     gi_wp2
     refine Zg (by kernel_rfl) (by kernel_rfl) (by kernel_rfl) ?_
     repeat (gi_big_quiet_step (fail))
     refine wpQuietIn_nil ?_;rintro _ ⟨nq,rfl⟩
     gi_wp2
     obtain⟨e1,e2,e3,e4,e5⟩:=E1.out nq;exact⟨by rw[World.size_alloc];exact e1,e2,by rw[eN.out];exact e3,e4,e5⟩
    ·rw[if_neg hneg] at eN
     by_cases hy:y<bb
     ·rw[if_pos hy] at eN
      gi_wp2
      refine Zg (by kernel_rfl) (by kernel_rfl) (by kernel_rfl) ?_
      repeat (gi_big_quiet_step (fail))
      refine wpQuietIn_nil ?_;rintro _ ⟨nq,rfl⟩
      gi_wp2
      obtain⟨e1,e2,e3,e4,e5⟩:=E1.out nq;exact⟨by rw[World.size_alloc];exact e1,e2,by rw[eN.out];exact e3,e4,e5⟩
     ·rw[if_neg hy] at eN
      gi_wp2
      refine Zg (by kernel_rfl) (by kernel_rfl) (by kernel_rfl) ?_
      repeat (gi_big_quiet_step (fail))
      refine wpQuietIn_nil ?_;rintro _ ⟨nq,rfl⟩
      gi_wp2
      obtain⟨e1,e2,e3,e4,e5⟩:=E0.out nq;exact⟨by rw[World.size_alloc];exact e1,e2,by rw[eN.out];exact e3,e4,e5⟩
   case done =>
    rintro D ys W hD rfl ⟨hO,hH,hBW⟩ hK;rw[Yz,emc.out] at hO;obtain⟨bb,hbb⟩:∃ bb,Hid (bb=Zk (fun dst=>Za rows src dst) (-1) (ZQ (Zb m) last src)):=⟨_,rfl⟩;rw[<-hbb.out] at hO;have eoff:Hid (Yf rows (Zb m) last src=max bb 0):=Hd (by unfold Yf;rw[hbb.out]);obtain⟨ov,hov⟩:∃ ov,Hid (ov=Yf rows (Zb m) last src):=⟨_,rfl⟩;rw[<-hov.out] at eoff bo;have emax:(if bb<0 then 0 else bb)=ov:=by rw[eoff.out];split<;>omega
    rw[World.size_alloc] at hD;have cL:=hO.c0;have cN:W.cell? ⟨wo.heap.size,0,none⟩=some (.int .i64 src):=(hH.blk bN.out (by omega)).cell 0;have cF:W.cell? ⟨sf,0,none⟩=some (.slice (some ⟨w.heap.size+1+1+1,0,none⟩) rows.length rows.length):=(hH.blk (fb.out.ext xo6.out) (by omega)).cell 0;have oW:OwI W 0 (some ⟨w.heap.size+1+1+1,0,none⟩) rows.length (Ue rows (Zb m) last (srcs.take k)):=(oO.out.ext xo6.out).keep fun z hz=>by
     obtain rfl:w.heap.size+1+1+1=z:=by simpa [bl] using hz
     exact hH.2 _ (by simp;omega) (by omega)
    obtain⟨old,cOb,fOb,-,-,sOb⟩:=OwI.cell oW (k:=src) (by rw[Xx];exact hs);have bUW:=hH.blk (bU.out.ext xo6.out) (by omega);have bb1:=bsum.out k;have bb2:=bsum.out (k+1);rw[etk.out,List.map_append,List.map_cons,List.map_nil,YU,<-hov.out] at bb2;obtain⟨su,hsu⟩:∃ su,Hid (su=Zi ((srcs.take k).map fun s=>Yf rows (Zb m) last s)):=⟨_,rfl⟩;rw[<-hsu.out] at bUW bb1 bb2;have hw:IntKind.i64.wrap (su+ov)=su+ov:=IntWalk.i64_in _ (by omega);have oW1:=sOb.out ov;obtain⟨ov2,cOb1,-,-,eOb1,-⟩:=OwI.cell oW1 (k:=src) (by rw[List.length_set,Xx];exact hs);obtain rfl:ov=ov2:=by
     have h:=eOb1.out;rw[List.getElem?_set_self (by rw[Xx];exact hs)] at h;exact Option.some.inj h
    have cU1:(W.setCell ⟨w.heap.size+1+1+1,src,none⟩ (.int .i64 ov)).cell? ⟨w.heap.size+1+1,0,none⟩=some (.int .i64 su):=(bUW.far (p:=⟨w.heap.size+1+1+1,src,none⟩) (by simp) _).cell 0;have fU1:(W.setCell ⟨w.heap.size+1+1+1,src,none⟩ (.int .i64 ov)).frozen? ⟨w.heap.size+1+1,0,none⟩=false:=(bUW.far (p:=⟨w.heap.size+1+1+1,src,none⟩) (by simp) _).free 0;have cN1:(W.setCell ⟨w.heap.size+1+1+1,src,none⟩ (.int .i64 ov)).cell? ⟨wo.heap.size,0,none⟩=some (.int .i64 src):=((hH.blk bN.out (by omega)).far (p:=⟨w.heap.size+1+1+1,src,none⟩) (by simp;omega) _).cell 0;have cF1:(W.setCell ⟨w.heap.size+1+1+1,src,none⟩ (.int .i64 ov)).cell? ⟨sf,0,none⟩=some (.slice (some ⟨w.heap.size+1+1+1,0,none⟩) rows.length rows.length):=((hH.blk (fb.out.ext xo6.out) (by omega)).far (p:=⟨w.heap.size+1+1+1,src,none⟩) (by simp;omega) _).cell 0;have q2:(src:Int)<(rows.length:Int):=by omega
    have zW:w6.heap.size+1<=W.heap.size:=by have:=hH.1;simpa using this
    have NOW:Hid (ZcB w w5 (w.heap.size+1+1) (w.heap.size+1+1+1) (Zi ((srcs.take (k+1)).map fun s=>Yf rows (Zb m) last s)) rows.length (Ue rows (Zb m) last (srcs.take (k+1))) ({ target:=.collected D,args:=#[] }::ds) (((W.setCell ⟨w.heap.size+1+1+1,src,none⟩ (.int .i64 ov)).setCell ⟨w.heap.size+1+1,0,none⟩ (.int .i64 (su+ov))).drew)):=by
     have key:∀ b,b≠w.heap.size+1+1->b≠w.heap.size+1+1+1->(((W.setCell ⟨w.heap.size+1+1+1,src,none⟩ (.int .i64 ov)).setCell ⟨w.heap.size+1+1,0,none⟩ (.int .i64 (su+ov))).drew).heap[b]?=W.heap[b]?:=fun b h1 h2 =>
      (Below.heap_setCell _ ⟨w.heap.size+1+1,0,none⟩ _ b (by simpa using h1)).trans (Below.heap_setCell W ⟨w.heap.size+1+1+1,src,none⟩ _ b (by simpa using h2))
     have key2:∀ b,b<wo.heap.size->b≠w.heap.size+1+1->b≠w.heap.size+1+1+1->(((W.setCell ⟨w.heap.size+1+1+1,src,none⟩ (.int .i64 ov)).setCell ⟨w.heap.size+1+1,0,none⟩ (.int .i64 (su+ov))).drew).heap[b]?=wo.heap[b]?:=fun b h0 h1 h2 =>
      (key b h1 h2).trans ((hH.2 b (by simp;omega) (by omega)).trans (xo6.out.block b h0))
     refine⟨by simp[World.drew];omega,((hBW.setCell (by simp<;>omega) _).setCell (by simp<;>omega) _).drew,fun b h0 h1 h2=>(key2 b (by omega) h1 h2).trans (hB5.out b h0 h1 h2),?_,?_,?_⟩
     ·rw[etk.out,List.map_append,List.map_cons,List.map_nil,YU,<-hov.out,<-hsu.out]
      exact((bUW.far (p:=⟨w.heap.size+1+1+1,src,none⟩) (by simp) _).set 0 _).drew
     ·rw[etk.out,<-ZbH,<-hov.out]
      refine oW1.keep fun z hz=>?_
      obtain rfl:w.heap.size+1+1+1=z:=by simpa [bl] using hz
      exact Below.heap_setCell _ ⟨w.heap.size+1+1,0,none⟩ _ _ (by simp)
     ·have bOb:∃ cs,Blk wo (w.heap.size+1+1+1) 3 cs:=by
       rcases OwI.cases oO.out with⟨h,_⟩ | ⟨z,cur,h,_,h2,_⟩
       ·cases h
       ·injection h with h
        injection h with h
        subst h;exact⟨cur,h2⟩
      obtain⟨cs,bOb⟩:=bOb;refine hM.out.cons (D:=D) (by omega) (by omega) (fun b hb=>key2 b (Array.getElem?_eq_some_iff.1 hb).1 (fun e=>?_) (fun e=>?_)) ((key D (by omega) (by omega)).trans hK)
      ·subst e
       have h:=bU.out;unfold Blk at h;rw[h] at hb
       cases hb
      ·subst e
       unfold Blk at bOb;rw[bOb] at hb
       cases hb
    have mk:Hid (srcs.length-(k+1)<srcs.length-k):=Hd (by omega);replace bUW:=Hd bUW;replace oW1:=Hd oW1;replace hH:=Hd hH;replace hBW:=Hd hBW;replace hK:=Hd hK;clear eOb1 oW hO bb1 bb2
    gi_wp2
    refine YV (by kernel_rfl) (by kernel_rfl) (fun _=>trivial) rfl rfl ?_
    change wpAny _ _ _ _ _ _ _ (World.drew _)
    refine Un (n:=1) [(0,some 65),(1,some 66),(2,some 67),(3,some 68),(4,some 69),(5,some 70)] (fun | 0=>.int .i64 su | 1=>.slice (some ⟨w.heap.size+1+1+1,0,none⟩) rows.length rows.length | 2=>.int .i64 src | 3=>.pointer (some ⟨w.heap.size+1+1+1,src,none⟩) | 4=>.int .i64 ov | 5=>.int .i64 (su+ov) | _=>undef) #[true,true,true,true,true,true,false] (by decide +kernel) ?_ ?_
    ·intro pS hpm uS hD K hK
     simp only[List.mem_cons,List.not_mem_nil,or_false] at hpm;rcases hpm with rfl | rfl | rfl | rfl | rfl | rfl
     ·exact Zr (T:=3) (x:=Operand.tmp 5) (t:=3) (d:=some 65) rfl (.pointer (some ⟨w.heap.size+1+1,0,none⟩)) (by kernel_rfl) (.int .i64 su) (by go_simp) hK
     ·exact Zr (T:=22) (x:=Operand.tmp 6) (t:=22) (d:=some 66) rfl (.pointer (some ⟨sf,0,none⟩)) (by kernel_rfl) (.slice (some ⟨w.heap.size+1+1+1,0,none⟩) rows.length rows.length) (by go_simp) hK
     ·exact Zr (T:=3) (x:=Operand.tmp 9) (t:=3) (d:=some 67) rfl (.pointer (some ⟨wo.heap.size,0,none⟩)) (by kernel_rfl) (.int .i64 src) (by go_simp) hK
     ·exact Yt (T:=22) (x:=Operand.tmp 66) (y:=Operand.tmp 67) (t:=0) (d:=some 68) rfl (.slice (some ⟨w.heap.size+1+1+1,0,none⟩) rows.length rows.length) (.int .i64 src) (Eq.trans (b:=uS 1) (by kernel_rfl) (hD 1 (Zf (by kernel_rfl)))) (Eq.trans (b:=uS 2) (by kernel_rfl) (hD 2 (Zf (by kernel_rfl)))) (.pointer (some ⟨w.heap.size+1+1+1,src,none⟩)) (by go_simp) hK
     ·exact Zr (T:=3) (x:=Operand.tmp 68) (t:=3) (d:=some 69) rfl (.pointer (some ⟨w.heap.size+1+1+1,src,none⟩)) (Eq.trans (b:=uS 3) (by kernel_rfl) (hD 3 (Zf (by kernel_rfl)))) (.int .i64 ov) (by go_simp) hK
     ·(have e0:uS 0=.int .i64 su:=hD 0 (Zf (by kernel_rfl));have e4:uS 4=.int .i64 ov:=hD 4 (Zf (by kernel_rfl));exact Zz (op:=Op.binOp BinOp.add 3 (Operand.tmp 65) (Operand.tmp 69) 3) (t:=3) (d:=some 70) rfl (.int .i64 (su+ov)) (by simp only[Zj,Act.put,List.setIfInBounds_toArray,List.set_cons_zero,List.set_cons_succ];unfold Zd;go_simp;try simp only[e0,e4];try go_simp) hK)
    simp only[Zj,Act.put,List.setIfInBounds_toArray,List.set_cons_zero,List.set_cons_succ];refine Zm 6 (by decide +kernel) (YH rfl (.pointer (some ⟨w.heap.size+1+1,0,none⟩)) (.int .i64 (su+ov)) (by kernel_rfl) (by kernel_rfl) (by go_simp;rfl) ?_)
    try simp only[lay]
    refine wpAny_done (by kernel_rfl) (Vl ?_) _;clear cOb1 cU1 fU1 cN1 cF1 cOb fOb sOb
    gi_wp2
    have ek:(k:Int)+1=((k+1:Nat):Int):=by omega
    rw[ek];refine⟨⟨k+1,_,_,_,_,_,_,_,_,_,_,_,_,_,_,_,_,_,_,_,_,_,_,⟨by omega,NOW⟩,rfl⟩,?_⟩;show srcs.length-(intOf (.int .i64 ((k+1:Nat):Int))).toNat<srcs.length-(intOf (.int .i64 (k:Int))).toNat;simp only[intOf,Int.toNat_natCast];exact mk.out
   case stop =>
    rintro D c pre W _ _ h _;exact h.elim
  ·obtain rfl:k=srcs.length:=by omega
   rw[List.take_length] at bU oO;have WI:=Hd (fun(W:World)=>UX m 0 hS.1 (by omega) W);have emh:=UY h0;have hmh1:=Jr hS.1 (i:=0) (by omega);obtain⟨mh,hmh⟩:∃ mh,Hid (m ||| 2^0=mh):=⟨m ||| 2^0,rfl⟩;rw[hmh.out] at WI emh hmh1;replace emh:=Hd emh;have hmh2:Hid (∀ x∈Zb mh,x<rows.length):=fun x hx=>by
    rw[emh.out] at hx;rcases List.mem_cons.1 hx with rfl | hx
    ·omega
    ·exact hS.2 x hx
   have kb:Hid (Blk wo w.heap.size 79 #[.pointer (some ⟨g,0,none⟩)]):=(hB5 _ (by omega) (by omega) (by omega)).trans bK5.out;have fb:Hid (Blk wo sf 22 #[.slice (some ⟨w.heap.size+1+1+1,0,none⟩) rows.length rows.length]):=(hB5 _ (by omega) (by omega) (by omega)).trans bF5.out;have qb:Hid (Blk wo q 22 #[.slice A6 srcs.length c6]):=(hB5 _ rb.out.lt (by omega) (by omega)).trans rb.out;have wb:Hid (Blk wo (w.heap.size+1) 308 #[.int .u64 m,.int .u64 0,.int .i64 last,.int .i64 cost]):=(hB5 _ (by omega) (by omega) (by omega)).trans bW5.out;have o7w:Hid (OwI wo w2.heap.size A6 c6 (Zl srcs)):=o7.out.keep fun z hz=>by
    have h1:=OwI.lt o7.out z hz;exact hB5 z h1.2 (by omega) (by omega)
   have c0:=wb.out.c0;have c1:=wb.out.c1;have q0:¬((srcs.length:Int)<(srcs.length:Int)):=by omega
   have zO:w.heap.size+1+1+1+1<=wo.heap.size:=by omega
   have zq:q<wo.heap.size:=qb.out.lt;have zsf:sf<wo.heap.size:=fb.out.lt;replace Y:=Hd Y;replace bU:=Hd bU;replace oO:=Hd oO;replace hM:=Hd hM;replace hB5:=Hd hB5;unfold ZE at WI;clear HH
   gi_wp2
   refine⟨trivial,?_⟩;refine(callsIn_wide.2 (WI.out _)).mono ?_;rintro e w6 ⟨rfl,x6⟩
   gi_wp2
   refine⟨trivial,?_⟩;refine(callsIn_wide.2 (Wh mh _)).mono ?_;rintro e w7 ⟨rfl,rfl⟩
   gi_wp2
   have xo6:Hid (Ext wo (w6.alloc (.cells #[.int .u64 mh,.int .u64 0] 141))):=Ext.alloc x6 _;have bB:Blk (w6.alloc (.cells #[.int .u64 mh,.int .u64 0] 141)) w6.heap.size 141 #[.int .u64 mh,.int .u64 0]:=.new rfl;have hB0:Ext w (w6.alloc (.cells #[.int .u64 mh,.int .u64 0] 141)):=Y.out.tr xo6.out;have h63c:∀ x∈Zb mh,x<63:=fun x hx=>by have:=hmh2.out x hx;omega
   have zO6:wo.heap.size<=w6.heap.size:=x6.size;obtain⟨so,hso⟩:∃ so,Hid (so=Zi (srcs.map fun s=>Yf rows (Zb m) last s)):=⟨_,rfl⟩;have bso:=bsum.out srcs.length;rw[List.take_length] at bso;rw[<-hso.out] at bU bso;replace bso:=Hd bso;refine wpIn_rangeFunc_ownG rfl (by omega) (gf:=140) (lb:=#[.pointer (some ⟨w6.heap.size,0,none⟩)]) rfl trivial (enters_of Tryz.func140 (by kernel_rfl) rfl)
    (YR 2 mh hmh1 h63c w6.heap.size w.heap.size _ bB (hT.ext hB0) hB0.size hg) SetKp.tr (Wi (cs:=#[.int .u64 mh,.int .u64 0]) hB0.size bB) (Below.refl _ _) (fun _=>rfl)
    (fun pre W=>Blk W (w.heap.size+1+1) 3 #[.int .i64 (so+Zi ((inL pre).map fun dst=>max (XT rows (Zb m) last dst) 0))]/\Held (w6.alloc (.cells #[.int .u64 mh,.int .u64 0] 141)) (w.heap.size+1+1) W/\Below w.heap.size w W)
    (fun _ _ _=>False)
    (OwnFrom.and (ZP (by simp<;>omega) _ _) (OwnFrom.and (Xj (Nat.le_refl _)) (ownFrom_below (Nat.le_refl _) (by simp<;>omega))))
    (fun _ _ _ _ _ hs _ _=>hs)
    ⟨by simpa [inL,Zi] using bU.out.ext xo6.out,⟨Nat.le_refl _,fun _ _ _=>rfl⟩,hB0⟩
    (fun x=>{ tmps:=#[.pointer (some ⟨g,0,none⟩),.agg #[.int .u64 m,.int .u64 0,.int .i64 last,.int .i64 cost],.pointer (some ⟨w.heap.size,0,none⟩),.pointer (some ⟨w.heap.size+1,0,none⟩),.int .i64 0,.pointer (some ⟨w.heap.size+1+1,0,none⟩),.pointer (some ⟨sf,0,none⟩),.pointer (some ⟨q,0,none⟩),undef,u9,u10,undef,undef,.int .i64 ((x.1:Nat):Int),undef,undef,undef,undef,.pointer (some ⟨g,0,none⟩),.pointer (some ⟨g,0,none⟩),.pointer (some ⟨g,0,none⟩),.slice C rows.length cc,.int .i64 rows.length,.slice (some ⟨w.heap.size+1+1+1,0,none⟩) rows.length rows.length,.pointer (some ⟨w.heap.size+1,2,none⟩),.int .i64 last,u 2,.pointer (some ⟨w.heap.size+1,0,none⟩),.agg #[.int .u64 m,.int .u64 0],u 5,.slice A6 srcs.length c6,.slice A6 srcs.length c6,.int .i64 srcs.length,.int .i64 srcs.length,.bool false,u35,u36,u37,u38,u39,u40,undef,undef,undef,undef,undef,undef,undef,undef,undef,undef,undef,undef,undef,undef,undef,undef,undef,undef,undef,u60,u61,u62,u63,u64,u65,u66,u67,u68,u69,u70,u71,.pointer (some ⟨w.heap.size+1,0,none⟩),.agg #[.int .u64 m,.int .u64 0],.agg #[.int .u64 mh,.int .u64 0],.func (.func 140) #[] #[.pointer (some ⟨w6.heap.size,0,none⟩)],.int .i64 ((x.1:Nat):Int),undef,undef,undef,undef,undef,undef,undef,undef,undef,undef,undef,undef,undef,undef,undef,undef,undef,undef,undef,undef,undef,undef,undef,undef,undef,undef,undef,undef,undef,undef,undef,undef,undef,undef,undef,undef,undef,undef,undef,undef,undef],defers:=[] }) ?assign2 ?body2 ?done2 ?stop2
   case assign2 =>
    intro l x W K hK
    gi_wp2
    exact hK
   case body2 =>
    rintro l pre x W ⟨hO,hH,hBW⟩ hlt2;obtain⟨su,hsu⟩:∃ su,Hid (su=so+Zi ((inL pre).map fun dst=>max (XT rows (Zb m) last dst) 0)):=⟨_,rfl⟩;rw[<-hsu.out] at hO;have hxr:=hmh2.out x.1 x.2;obtain⟨cf,hcf⟩:∃ cf,Hid (XT rows (Zb m) last x.1=cf):=⟨_,rfl⟩;have eN:Hid (so+Zi ((inL (pre++[x])).map fun dst=>max (XT rows (Zb m) last dst) 0)=su+max cf 0):=Hd (by
     rw[Xq,List.map_append,List.map_cons,List.map_nil,YU,hsu.out,hcf.out];omega)
    have START2:Hid (Zk (fun s=>Za rows s x.1-Yf rows (Zb m) last s) (-1) ((srcs.drop 0).filter fun s=>decide (x.1∈ZQ (Zb m) last s))=cf):=Hd (by
     rw[List.drop_zero,<-hcf.out,hsr.out]
     rfl)
    have bdc:Hid (∀ dst,dst<rows.length->-4294967294<=XT rows (Zb m) last dst/\XT rows (Zb m) last dst<=4294967294):=fun dst hd=>by
     unfold XT;refine Yc (fun c hc=>?_) (by omega) (by omega);have h1:=hsl.out c (by rw[hsr.out];exact(List.mem_filter.1 hc).1);have h2:=hcost.out c dst h1 hd;have h3:=hoff.out c h1;omega
    have bdS:Hid (0<=su/\su<=2147483647*65+4294967294*64):=by
     have h1:∀ l:List Nat,(∀ c∈l,c<rows.length)->0<=Zi (l.map fun dst=>max (XT rows (Zb m) last dst) 0)/\Zi (l.map fun dst=>max (XT rows (Zb m) last dst) 0)<=4294967294*(l.length:Int):=by
      intro l
      induction l with
      | nil=>intro _;simp[Zi]
      | cons x l ih =>
       intro h;have h2:=ih fun s hs=>h s (by simp[hs])
       have h3:=bdc.out x (h x (by simp));simp only[List.map_cons,Zi,List.length_cons];omega
     have h2:=h1 (inL pre) fun c hc=>by
      obtain⟨c',_,rfl⟩:=List.mem_map.1 hc;exact hmh2.out c'.1 c'.2
     have h3:(inL pre).length<=64:=by
      have:=Y6 mh;simp[inL];omega
     have h4:=bso.out;have h:0<=su/\su<=2147483647*65+4294967294*64:=by rw[hsu.out];omega
     exact h
    have bdC:=bdc.out x.1 hxr;rw[hcf.out] at bdC;replace bdC:=Hd bdC;have kW:=Hd (hH.blk (kb.out.ext xo6.out) (by omega));have fW:=Hd (hH.blk (fb.out.ext xo6.out) (by omega));have qW:=Hd (hH.blk (qb.out.ext xo6.out) (by omega));have wW:=Hd (hH.blk (wb.out.ext xo6.out) (by omega));have oW:Hid (OwI W 0 (some ⟨w.heap.size+1+1+1,0,none⟩) rows.length (Ue rows (Zb m) last srcs)):=(oO.out.ext xo6.out).keep fun z hz=>by
     obtain rfl:w.heap.size+1+1+1=z:=by simpa [bl] using hz
     exact hH.2 _ (by simp;omega) (by omega)
    have aW:Hid (OwI W w2.heap.size A6 c6 (Zl srcs)):=(o7w.out.ext xo6.out).keep fun z hz=>by
     have h1:=OwI.lt o7w.out z hz;exact hH.2 z (by simp;omega) (by omega)
    have cQ:=qW.out.c0;have hmx:Tryz.prog.follows .mixedOrders=true:=by kernel_rfl
    have zW:w6.heap.size+1<=W.heap.size:=by have:=hH.1;simpa using this
    have HH':=Hd hH;have HB':=Hd hBW;have HO':=Hd hO;clear hsu hH hBW hO bB hB0
    gi_wp2
    gi_loopw [14,79] (fun b v wr=>∃ (k:Nat) (bb:Int),v=.int .i64 k/\b=.int .i64 bb/\k<=srcs.length/\Hid (Zk (fun s=>Za rows s x.1-Yf rows (Zb m) last s) bb ((srcs.drop k).filter fun s=>decide (x.1∈ZQ (Zb m) last s))=cf)/\Hid (Ext W wr)) (fun _ v _=>srcs.length-(intOf v).toNat)
    case atStart=>exact⟨0,-1,rfl,rfl,by omega,START2,Ext.rf W⟩
    case round =>
     obtain⟨k,bb,rfl,rfl,hk',hcol,xr⟩:=hrel;obtain⟨wi,rfl⟩:∃ wi:World,wi=wr:=⟨_,rfl⟩
     by_cases hlt':k<srcs.length
     ·have er:srcs[k]?=some srcs[k]:=List.getElem?_eq_getElem hlt'
      have hmem:srcs[k]∈srcs:=List.getElem_mem hlt';have hs:=hsl.out _ hmem;have edr:srcs.drop k=srcs[k]::srcs.drop (k+1):=List.drop_eq_getElem_cons hlt';have hcols:=COLS.out _ hs;have CO:=Hd (fun(W:World)=>Uu m last cost srcs[k] hS.1 (by omega) W);have bo:=Hd (hoff.out _ hs);obtain⟨ab,ao,xs,rfl,zab,cA,eA,-⟩:=(OwI.read (aW.out.ext xr.out)).at (k:=k) (by rw[Zq];exact hlt');have exs:xs=((srcs[k]:Nat):Int):=by
       have h:=eA.out;rw[Yr er] at h;exact(Option.some.inj h).symm
      subst exs;have hcol2:=hcol.out;rw[edr,List.filter_cons] at hcol2;generalize srcs[k]=src at *;obtain⟨mc,hmc⟩:∃ mc,Hid (WY m last src=mc):=⟨_,rfl⟩;rw[hmc.out] at hcols CO;obtain⟨emc,hmc1,-⟩:=hcols;have HA:=Hd (fun(W:World)=>QZ mc ((x.1:Nat):Int) hmc1 W);have eH:(decide (0<=((x.1:Nat):Int)/\((x.1:Nat):Int)<64)&&mc.testBit ((x.1:Nat):Int).toNat)=decide (x.1∈ZQ (Zb m) last src):=by
       rw[<-emc];have h1:x.1<64:=by omega
       have h2:decide (0<=((x.1:Nat):Int)/\((x.1:Nat):Int)<64)=true:=decide_eq_true ⟨by omega,by omega⟩;rw[h2,Bool.true_and,Int.toNat_natCast];simp[Z3,h1]
      rw[eH] at HA;have wb':=wW.out.ext xr.out;have c0:=wb'.c0;have c1:=wb'.c1;have c2:=wb'.c2;have c3:=wb'.c3;have q1:(k:Int)<(srcs.length:Int):=by omega
      replace hcol2:=Hd hcol2;unfold ZE at CO HA;clear hcol eA er wb' emc eH edr
      gi_wp2
      refine⟨trivial,?_⟩;refine(YN (fun _=>trivial) rfl rfl (CO.out _)).mono ?_;rintro e w8 ⟨rfl,x8⟩
      gi_wp2
      refine⟨trivial,?_⟩;refine(YN (fun _=>trivial) rfl rfl (HA.out _)).mono ?_;rintro e w9 ⟨rfl,x9⟩;have xr9:=Hd ((xr.out.tr x8).tr x9);clear x8 x9 c0 c1 c2 c3 cA
      by_cases hin:x.1∈ZQ (Zb m) last src
      ·have eh:decide (x.1∈ZQ (Zb m) last src)=true:=decide_eq_true hin
       have erow:rows[src]?=some rows[src]:=List.getElem?_eq_getElem hs;obtain⟨D,d,hu,oD⟩:=hR.out.2 _ _ erow;have lrow:=ok.row _ (List.getElem_mem hs);have nrow:=ok.num _ (List.getElem_mem hs);have ecost:Za rows src x.1=(rows[src]).getD x.1 0:=by unfold Za;rw[getD_some erow]
       generalize rows[src]=row at *;have xW9:Hid (Ext w w9):=Below.trans HB'.out (xr9.out.mono (by omega));obtain⟨rb',ro,vv,rfl,zv,cv,ev⟩:=(hV.out.read.ext xW9.out).at (j:=src) (by rw[lus.out];exact hs);obtain rfl:.slice D row.length d=vv:=by
        have h:=ev.out;rw[hu] at h;exact Option.some.inj h
       obtain⟨cb,co,y,rfl,zy,cy,ey,_⟩:=(oD.read.ext xW9.out).at (k:=x.1) (by omega);rw[getD_some ey.out] at ecost;have ny:=nrow y (List.mem_of_getElem? ey.out);have cG:w9.cell? ⟨g,0,none⟩=some (.slice (some ⟨rb',ro,none⟩) rows.length cc):=(hB.out.ext xW9.out).cell 0;have cK:w9.cell? ⟨w.heap.size,0,none⟩=some (.pointer (some ⟨g,0,none⟩)):=(kW.out.ext xr9.out).cell 0;have cF:w9.cell? ⟨sf,0,none⟩=some (.slice (some ⟨w.heap.size+1+1+1,0,none⟩) rows.length rows.length):=(fW.out.ext xr9.out).cell 0;obtain⟨ov,cOb,-,-,eOb,-⟩:=OwI.cell (oW.out.ext xr9.out) (k:=src) (by rw[Xx];exact hs);obtain rfl:Yf rows (Zb m) last src=ov:=by
        have h:=eOb.out;rw[Qj hs,if_pos hmem] at h;exact Option.some.inj h
       have hcol3:Hid (Zk (fun s=>Za rows s x.1-Yf rows (Zb m) last s) (if bb<0 then y-Yf rows (Zb m) last src else if y-Yf rows (Zb m) last src<bb then y-Yf rows (Zb m) last src else bb) ((srcs.drop (k+1)).filter fun s=>decide (x.1∈ZQ (Zb m) last s))=cf):=by
        have h:=hcol2.out;rw[eh,if_pos rfl] at h;rw[<-ecost];exact h
       have bo2:=bo.out;obtain⟨ov,hov⟩:∃ ov,Hid (ov=Yf rows (Zb m) last src):=⟨_,rfl⟩;rw[<-hov.out] at hcol3 cOb bo2;have hw:IntKind.i64.wrap (y-ov)=y-ov:=IntWalk.i64_in _ (by omega);have q2:(src:Int)<(rows.length:Int):=by omega
       have q3:((x.1:Nat):Int)<(row.length:Int):=by omega
       rw[eh];clear hcol2 hin eh erow hu oD lrow nrow ecost ev ey ny eOb bo2 bo hov
       by_cases hneg:bb<0
       ·rw[if_pos hneg] at hcol3
        gi_wp2
        refine Zg (by kernel_rfl) (by kernel_rfl) (by kernel_rfl) ?_
        repeat (gi_big_quiet_step (fail))
        refine wpQuietIn_nil ?_;rintro _ ⟨nq,rfl⟩
        gi_wp2
        exact⟨⟨k+1,y-ov,by go_num,rfl,by omega,hcol3,xr9.out.drewN nq⟩,by simp only[intOf];omega⟩
       ·rw[if_neg hneg] at hcol3
        by_cases hy:y-ov<bb
        ·rw[if_pos hy] at hcol3
         gi_wp2
         refine Zg (by kernel_rfl) (by kernel_rfl) (by kernel_rfl) ?_
         repeat (gi_big_quiet_step (fail))
         refine wpQuietIn_nil ?_;rintro _ ⟨nq,rfl⟩
         gi_wp2
         exact⟨⟨k+1,y-ov,by go_num,rfl,by omega,hcol3,xr9.out.drewN nq⟩,by simp only[intOf];omega⟩
        ·rw[if_neg hy] at hcol3
         gi_wp2
         refine Zg (by kernel_rfl) (by kernel_rfl) (by kernel_rfl) ?_
         repeat (gi_big_quiet_step (fail))
         refine wpQuietIn_nil ?_;rintro _ ⟨nq,rfl⟩
         gi_wp2
         exact⟨⟨k+1,bb,by go_num,rfl,by omega,hcol3,xr9.out.drewN nq⟩,by simp only[intOf];omega⟩
      ·have eh:decide (x.1∈ZQ (Zb m) last src)=false:=decide_eq_false hin
       have hcol3:Hid (Zk (fun s=>Za rows s x.1-Yf rows (Zb m) last s) bb ((srcs.drop (k+1)).filter fun s=>decide (x.1∈ZQ (Zb m) last s))=cf):=by
        have h:=hcol2.out;rw[eh] at h;exact h
       rw[eh]
       gi_wp2
       exact⟨⟨k+1,bb,by go_num,rfl,by omega,hcol3,xr9.out⟩,by simp only[intOf];omega⟩
     ·obtain rfl:k=srcs.length:=by omega
      have e1:srcs.drop srcs.length=[]:=List.drop_length;have hcol2:=hcol.out;rw[e1] at hcol2;obtain rfl:bb=cf:=hcol2;have emax:(if bb<0 then 0 else bb)=max bb 0:=by split<;>omega
      have bdm:0<=max bb 0/\max bb 0<=4294967294:=by have:=bdC.out;omega
      obtain⟨ov,hov⟩:∃ ov,Hid (ov=max bb 0):=⟨_,rfl⟩;rw[<-hov.out] at emax bdm eN;have hw2:IntKind.i64.wrap (su+ov)=su+ov:=IntWalk.i64_in _ (by have:=bdS.out;omega);have q0':¬((srcs.length:Int)<(srcs.length:Int)):=by omega
      have F1:Hid (KeepsFrom (w6.heap.size+1) W (wi.setCell ⟨w.heap.size+1+1,0,none⟩ (.int .i64 (su+ov)))):=(KeepsFrom.of_ext xr.out).trans ((KeepsOthers.setCell _ _ _).from _);have F2:Hid (SetKp w.heap.size w6.heap.size W (wi.setCell ⟨w.heap.size+1+1,0,none⟩ (.int .i64 (su+ov)))):=⟨(xr.out.mono (by omega)).setCell (by simp<;>omega) _,(Below.heap_setCell wi ⟨w.heap.size+1+1,0,none⟩ _ w6.heap.size (by simp;omega)).trans (xr.out.block w6.heap.size (by omega))⟩;have F3:Hid (Blk (wi.setCell ⟨w.heap.size+1+1,0,none⟩ (.int .i64 (su+ov))) (w.heap.size+1+1) 3 #[.int .i64 (su+ov)]):=(HO'.out.ext xr.out).set 0 _;have F4:=Hd ((HH'.out.ext xr.out).set (.int .i64 (su+ov)));have F5:Hid (Ext w (wi.setCell ⟨w.heap.size+1+1,0,none⟩ (.int .i64 (su+ov)))):=(Below.trans HB'.out (xr.out.mono (by omega))).setCell (by simp<;>omega) _;have cO2:wi.cell? ⟨w.heap.size+1+1,0,none⟩=some (.int .i64 su):=(HO'.out.ext xr.out).cell 0;have fO2:=(HO'.out.ext xr.out).free 0;clear hcol e1 hcf START2
      gi_wp2
      exact⟨F1.out,F2.out,by rw[eN.out];exact F3.out,F4.out,F5.out⟩
   case done2 =>
    rintro D ys W hD rfl ⟨hO,hH,hBW⟩ hK;rw[Yz,emh.out] at hO;have cO:=hO.cell 0;rw[World.size_alloc] at hD;have bOb:∃ cs,Blk wo (w.heap.size+1+1+1) 3 cs:=by
     rcases OwI.cases oO.out with⟨h,_⟩ | ⟨z,cur,h,_,h2,_⟩
     ·cases h
     ·injection h with h
      injection h with h
      subst h;exact⟨cur,h2⟩
    have MA:Marks w.heap.size ({ target:=.collected D,args:=#[] }::ds) W:=(hM.out.more (by omega)).cons (D:=D) (by omega) (by omega) (fun b hb=>by
     have hb1:b<wo.heap.size:=(Array.getElem?_eq_some_iff.1 hb).1;refine(hH.2 b (by simp;omega) (fun e=>?_)).trans (xo6.out.block b hb1);subst e;have h:=bU.out;unfold Blk at h;rw[h] at hb
     cases hb) hK
    have eR:Hid (ZH rows (Zb m) last=so+Zi ((0::Zb m).map fun dst=>max (XT rows (Zb m) last dst) 0)):=Hd (by rw[hso.out,hsr.out];rfl);obtain⟨rv,hrv⟩:∃ rv,Hid (rv=so+Zi ((0::Zb m).map fun dst=>max (XT rows (Zb m) last dst) 0)):=⟨_,rfl⟩;rw[<-hrv.out] at cO eR;simp only[List.getElem?_toArray,List.getElem?_cons_zero] at cO;replace MA:=Hd MA
    gi_wp2
    refine Marks.leaves MA.out hBW fun W' x'=>⟨_,results_tmp rfl _ _ _,?_,x'⟩
    rw[eR.out]
    rfl
   case stop2 =>
    rintro D c pre W _ _ h _;exact h.elim
theorem JV {base g:Nat}{rows:List (List Int)}{mi:Bool}(m last:Nat)(cost:Int)(ok:RowsOk rows)(hS:SubN rows.length m)(h0:0∉Zb m)(hla:last<rows.length)(w:World)(hT:Tab w)(H:KernT w base g rows mi) :
  Calls Tryz.prog 280 #[.pointer (some ⟨g,0,none⟩),Uz m last cost] w fun e W'=>e=.returned (.int .i64 (ZH rows (Zb m) last))/\Ext w W' :=
 callsIn_wide.1 (Zay m last cost ok hS h0 hla w hT H)
end Go.Proofs.YtmojhhlcocjoaaaGreatDoor
