/- packed and squeezed by programs (see wip/) -/
import Derived.Test.YtmojhhlcocjoaaaGreatDoorCheckBentP2
set_option maxRecDepth 100000
set_option maxHeartbeats 16000000
set_option linter.unusedVariables false
set_option linter.unusedSimpArgs false
namespace Go.Proofs.YtmojhhlcocjoaaaGreatDoor
open Go.RowKit Go.ChangeShapes Go.WideShapes Go.ChangeAt Go.Deep
def Xc : Int->List Int->Int
 | b,[]=>b
 | b,x::l=>Xc (if b<0 then x else if x<b then x else b) l
theorem Vg {B:Int} : ∀ {l:List Int} {b:Int},(∀ x∈l,0<=x/\x<=B)->b<=B->(0<=b\/l≠[])->0<=Xc b l/\Xc b l<=B
 | [],b,_,h1,h2=>by
  rcases h2 with h2 | h2
  ·exact⟨h2,h1⟩
  ·exact absurd rfl h2
 | x::l,b,h,h1,h2=>by
  have hx:=h x (by simp);unfold Xc;refine Vg (fun y hy=>h y (by simp[hy])) ?_ (.inl ?_)<;>split<;>(try split)<;>omega
theorem Vh : ∀ {l:List Int} {b:Int},(∀ x∈l,0<=x)->(∀ x∈l,Xc b l<=x)/\(0<=b->Xc b l<=b)
 | [],b,_=>⟨fun x hx=>absurd hx List.not_mem_nil,fun _=>Int.le_refl _⟩
 | x::l,b,h=>by
  have hx:=h x (by simp);have ih:=Vh (l:=l) (b:=if b<0 then x else if x<b then x else b) fun y hy=>h y (by simp[hy])
  unfold Xc;refine⟨fun y hy=>?_,fun hb=>?_⟩
  ·rcases List.mem_cons.1 hy with rfl | hy
   ·refine Int.le_trans (ih.2 ?_) ?_<;>split<;>(try split)<;>omega
   ·exact ih.1 y hy
  ·refine Int.le_trans (ih.2 ?_) ?_<;>split<;>(try split)<;>omega
theorem Vq (f:Nat->Int) : ∀ (l:List Nat) (b:Int),Xc b (l.map f)=Zs f b l
 | [],b=>rfl
 | x::l,b=>by
  show Xc _ (l.map f)=_;rw[Vq f l]
  rfl
def UD (ms:List (List Int)) : List Int:=ms.map (Xc (-1))
def UT (ms:List (List Int))(L:Nat) : List Int:=(List.range L).map fun c=>WU c (-1) ms (UD ms)
def WW (ms:List (List Int))(L:Nat) : Int:=Zj (UD ms)+Zj (UT ms L)
theorem Zdc {g:Nat->Nat}{h:List Int->List Int}{c:Nat} : ∀ (rows:List (List Int)) (o:List Int) (b:Int),(∀ row∈rows,(h row).getD c 0=row.getD (g c) 0)->WU c b (rows.map h) o=WU (g c) b rows o
 | [],o,b,_=>by cases o<;>rfl
 | row::rows,[],b,_=>rfl
 | row::rows,x::o,b,hh=>by
  have h1:=hh row (by simp);simp only[List.map_cons,WU];rw[h1];exact Zdc rows o _ fun q hq=>hh q (by simp[hq])
theorem ZaC (rows:List (List Int))(l:List Nat) : WW (rows.map fun row=>l.map fun c=>row.getD c 0) l.length=ZW rows l:=by
 have ho:UD (rows.map fun row=>l.map fun c=>row.getD c 0)=VW rows l:=by
  unfold UD VW;rw[List.map_map];refine List.map_congr_left fun row _=>?_
  exact Vq (fun c=>row.getD c 0) l (-1)
 unfold WW ZW UT;rw[ho]
 congr 2
 apply List.ext_getElem
 ·simp
 intro k h1 h2;simp only[List.length_map,List.length_range] at h1 h2;rw[List.getElem_map,List.getElem_map,List.getElem_range];have:=Zdc (g:=fun k=>l.getD k 0) (h:=fun row=>l.map fun c=>row.getD c 0) (c:=k) rows (VW rows l) (-1) (fun row _=>by
  simp[List.getD,h2])
 rw[this];simp[List.getD,h2]
theorem Q1 {c:Nat}{B:Int} : ∀ {rows:List (List Int)} {off:List Int} {b:Int},(∀ (k:Nat) (x:List Int) (o:Int),rows[k]?=some x->off[k]?=some o->0<=x.getD c 0-o/\x.getD c 0-o<=B)->rows.length=off.length->b<=B->(0<=b\/rows≠[])->0<=WU c b rows off/\WU c b rows off<=B
 | [],off,b,_,_,h1,h2=>by
  rcases h2 with h2 | h2
  ·cases off<;>exact⟨h2,h1⟩
  ·exact absurd rfl h2
 | row::rows,[],b,_,hl,_,_=>by simp at hl
 | row::rows,o::off,b,h,hl,h1,h2=>by
  have hx:=h 0 row o rfl rfl;unfold WU;refine Q1 (fun k x o h3 h4=>h (k+1) x o h3 h4) (by simpa using hl) ?_ (.inl ?_)<;>split<;>(try split)<;>omega
theorem YC {l:List Int}{k:Nat}{x:Int}(h:l[k]?=some x) : Zj (l.take (k+1))=Zj (l.take k)+x:=by
 rw[List.take_add_one,h,Zc0];simp[Zj]
theorem Xj {B:Int}{l:List Int}(h:∀ x∈l,0<=x/\x<=B)(hB:0<=B) : ∀ k:Nat,0<=Zj (l.take k)/\Zj (l.take k)<=B*k
 | 0=>by simp[Zj]
 | k+1=>by
  have h1:=Xj h hB k;have e:B*((k+1:Nat):Int)=B*k+B:=by rw[Int.natCast_add,Int.mul_add];simp
  rw[e]
  by_cases hk:k<l.length
  ·have ek:l[k]?=some l[k]:=List.getElem?_eq_getElem hk
   rw[YC ek];have:=h _ (List.getElem_mem hk);omega
  ·rw[List.take_of_length_le (by omega)]
   rw[List.take_of_length_le (by omega)] at h1;omega
def Vr (off:List Int)(k:Nat) : Array Value:=((List.range 30).map fun j=>Value.int .i64 (if j<k then off.getD j 0 else 0)).toArray
theorem Vs {off:List Int}{k j:Nat}(hj:j<30) : (Vr off k)[j]?=some (.int .i64 (if j<k then off.getD j 0 else 0)):=by
 unfold Vr;simp[hj]
theorem Zbv {off:List Int}{k:Nat}{x:Int}(hk:k<30)(hx:off[k]?=some x) : (Vr off k).setIfInBounds k (.int .i64 x)=Vr off (k+1):=by
 apply Array.ext_getElem?;intro i
 by_cases hi:i<30
 ·rw[Vs hi]
  by_cases e:k=i
  ·subst e
   rw[Array.getElem?_setIfInBounds_self_of_lt (by unfold Vr;simp;omega),if_pos (by omega),getD_some hx]
  ·rw[Array.getElem?_setIfInBounds_ne e,Vs hi]
   by_cases hik:i<k
   ·rw[if_pos hik,if_pos (by omega)]
   ·rw[if_neg hik,if_neg (by omega)]
 ·rw[Array.getElem?_eq_none (by unfold Vr;simp;omega),Array.getElem?_eq_none (by unfold Vr;simp;omega)]
abbrev Zi9 : Array Value:=#[.int .i64 0,.int .i64 0,.int .i64 0,.int .i64 0,.int .i64 0,.int .i64 0,.int .i64 0,.int .i64 0,.int .i64 0,.int .i64 0,.int .i64 0,.int .i64 0,.int .i64 0,.int .i64 0,.int .i64 0,.int .i64 0,.int .i64 0,.int .i64 0,.int .i64 0,.int .i64 0,.int .i64 0,.int .i64 0,.int .i64 0,.int .i64 0,.int .i64 0,.int .i64 0,.int .i64 0,.int .i64 0,.int .i64 0,.int .i64 0]
theorem ZaD (off:List Int) : Vr off 0=Zi9:=by
 apply Array.ext_getElem?;intro i
 by_cases hi:i<30
 ·rw[Vs hi,if_neg (by omega)]
  have:i=0\/i=1\/i=2\/i=3\/i=4\/i=5\/i=6\/i=7\/i=8\/i=9\/i=10\/i=11\/i=12\/i=13\/i=14\/i=15\/i=16\/i=17\/i=18\/i=19\/i=20\/i=21\/i=22\/i=23\/i=24\/i=25\/i=26\/i=27\/i=28\/i=29:=by omega
  rcases this with rfl | rfl | rfl | rfl | rfl | rfl | rfl | rfl | rfl | rfl | rfl | rfl | rfl | rfl | rfl | rfl | rfl | rfl | rfl | rfl | rfl | rfl | rfl | rfl | rfl | rfl | rfl | rfl | rfl | rfl<;>rfl
 ·rw[Array.getElem?_eq_none (by unfold Vr;simp;omega),Array.getElem?_eq_none (by simp;omega)]
theorem Zdd (A:Option Addr)(mc:Nat)(w:World) : Calls Tryz.prog 152 #[.slice A 0 mc] w fun e w'=>e=.returned (.int .i64 0)/\Ext w w':=by
 go_enter Tryz.func152,Tryz.ntmps152;go_wp2_with (fail);refine wp_loop_rounds 1 ?_;rw[rounds_succ];go_wp2_with (fail);refine wp_loop_rounds 1 ?_;rw[rounds_succ];go_wp2_with (fail);go_ret;exact⟨rfl,by(repeat (first | assumption | exact Ext.rf _ | apply Ext.drew | apply Ext.drewN | apply Ext.alloc))⟩
theorem Zde (ms:List (List Int))(L:Nat)(M:Option Addr)(mc:Nat)(w:World)(hM:RdE 1 RInts w M ms)(hl:∀ row∈ms,row.length=L)(h0:0<L)(hL:L<=24)(hn0:0<ms.length)(hn:ms.length<=24)(num:∀ row∈ms,∀ x∈row,0<=x/\x<=2147483647) :
  Calls Tryz.prog 152 #[.slice M ms.length mc] w fun e w'=>e=.returned (.int .i64 (WW ms L))/\Ext w w':=by
 have LO:(UD ms).length=ms.length:=by simp[UD]
 have OB:∀ x∈UD ms,0<=x/\x<=2147483647:=fun x hx=>by
  obtain⟨row,hr,rfl⟩:=List.mem_map.1 hx;exact Vg (num row hr) (by omega) (.inr (by intro e;have:=hl row hr;rw[e] at this;simp at this;omega))
 have OG:∀ k row,ms[k]?=some row->(UD ms)[k]?=some (Xc (-1) row):=fun k row h=>by unfold UD;rw[List.getElem?_map,h];rfl
 have CB:∀ x∈UT ms L,0<=x/\x<=2147483647:=fun x hx=>by
  obtain⟨c,hc,rfl⟩:=List.mem_map.1 hx;have hc:=List.mem_range.1 hc;refine Q1 (fun k row o h1 h2=>?_) LO.symm (by omega) (.inr (by intro e;rw[e] at hn0;simp at hn0));rw[OG k row h1] at h2;obtain rfl:=Option.some.inj h2;have hr:=List.mem_of_getElem? h1;have hcl:c<row.length:=by rw[hl row hr];exact hc
  have e:row.getD c 0=row[c]:=by simp[List.getD,hcl]
  have h3:=(Vh (b:=-1) fun x hx=>(num row hr x hx).1).1 _ (List.getElem_mem hcl);have h4:=num row hr _ (List.getElem_mem hcl);have h5:=OB _ (List.mem_map.2 ⟨row,hr,rfl⟩);rw[e];omega
 have CG:∀ c,c<L->(UT ms L)[c]?=some (WU c (-1) ms (UD ms)):=fun c hc=>by simp[UT,hc]
 have LC:(UT ms L).length=L:=by simp[UT]
 have TOT:Hid (WW ms L=Zj (UD ms)+Zj (UT ms L)):=rfl;generalize WW ms L=tot at *;have SB:=Xj OB (by omega);have SC:=Xj CB (by omega);have LZ:=ZaD (UD ms);generalize UD ms=off at *;generalize UT ms L=cols at *;have START:Hid (Ext w (w.alloc (.cells #[.int .i64 0,.int .i64 0,.int .i64 0,.int .i64 0,.int .i64 0,.int .i64 0,.int .i64 0,.int .i64 0,.int .i64 0,.int .i64 0,.int .i64 0,.int .i64 0,.int .i64 0,.int .i64 0,.int .i64 0,.int .i64 0,.int .i64 0,.int .i64 0,.int .i64 0,.int .i64 0,.int .i64 0,.int .i64 0,.int .i64 0,.int .i64 0,.int .i64 0,.int .i64 0,.int .i64 0,.int .i64 0,.int .i64 0,.int .i64 0] 229))/\Blk (w.alloc (.cells #[.int .i64 0,.int .i64 0,.int .i64 0,.int .i64 0,.int .i64 0,.int .i64 0,.int .i64 0,.int .i64 0,.int .i64 0,.int .i64 0,.int .i64 0,.int .i64 0,.int .i64 0,.int .i64 0,.int .i64 0,.int .i64 0,.int .i64 0,.int .i64 0,.int .i64 0,.int .i64 0,.int .i64 0,.int .i64 0,.int .i64 0,.int .i64 0,.int .i64 0,.int .i64 0,.int .i64 0,.int .i64 0,.int .i64 0,.int .i64 0] 229)) w.heap.size 229 (Vr off 0)) :=
  ⟨(Ext.rf _).alloc _,by rw[LZ];exact .new rfl⟩
 replace LO:=Hd LO;replace OB:=Hd OB;replace OG:=Hd OG;replace CB:=Hd CB;replace CG:=Hd CG;replace LC:=Hd LC;replace SB:=Hd SB;replace SC:=Hd SC;replace hl:=Hd hl;replace num:=Hd num;replace hM:=Hd hM;clear LZ;go_enter Tryz.func152,Tryz.ntmps152;go_wp2_with (fail);go_loopw [5,3] (fun v s wr=>∃ k:Nat,v=.int .i64 k/\s=.int .i64 (Zj (off.take k))/\k<=ms.length/\Hid (Ext w wr/\Blk wr w.heap.size 229 (Vr off k))) (fun v _ _=>ms.length-(intOf v).toNat)
 case atStart=>exact⟨0,rfl,rfl,by omega,START⟩
 case round =>
  obtain⟨wo,rfl⟩:∃ wo:World,wo=wr:=⟨_,rfl⟩;obtain⟨k,rfl,rfl,hk,HH⟩:=hrel;clear START
  by_cases hlt:k<ms.length
  ·obtain⟨Y,bL⟩:=HH.out
   obtain⟨mb,mo,D,row,d,rfl,_,cD,er,_,rD,iD,ld,md⟩:=(hM.out.ext Y fun _ _ h=>h.ext Y).ints hlt;have hr:=List.mem_of_getElem? er.out;have eo:=OG.out k row er.out;have ob:=OB.out _ (List.mem_of_getElem? eo);have hrl:Hid (row.length=L):=hl.out row hr;have q1:(k:Int)<(ms.length:Int):=by omega
   obtain⟨o,ho⟩:∃ o,Hid (Xc (-1) row=o):=⟨_,rfl⟩;rw[ho.out] at eo ob;have SN:=YC eo;have sb1:=SB.out k;obtain⟨s,hs⟩:∃ s,Hid (s=Zj (off.take k)):=⟨_,rfl⟩;rw[<-hs.out] at SN sb1 ⊢;have hnum:=Hd (num.out row hr);have zD:=World.block_lt_of_cell? _ _ cD;replace SN:=Hd SN;replace eo:=Hd eo;replace Y:=Hd Y;replace bL:=Hd bL;replace rD:=Hd rD;replace iD:=Hd iD;clear er HH hr;go_wp2_with (fail);go_loopw [7,6] (fun v bv wr=>∃ (j:Nat) (bb:Int),v=.int .i64 j/\bv=.int .i64 bb/\j<=row.length/\Hid (Xc bb (row.drop j)=o)/\Hid (Ext wo wr)) (fun v _ _=>row.length-(intOf v).toNat)
   case atStart=>exact⟨0,-1,rfl,rfl,by omega,ho,Ext.rf _⟩
   case round =>
    obtain⟨wi,rfl⟩:∃ wi:World,wi=wr:=⟨_,rfl⟩;obtain⟨j,bb,rfl,rfl,hj,HB,YI⟩:=hrel;have cD':wi.cell? ⟨mb,mo+k,none⟩=some (.slice D row.length d):=Zc YI.out zD cD
    by_cases hjl:j<row.length
    ·obtain⟨rb,ro,x,rfl,_,cx,ex,dx⟩:=(rD.out.ext YI.out).at hjl
     have q2:(j:Int)<(row.length:Int):=by omega
     have hx:=hnum.out x (List.mem_of_getElem? ex.out);have x0:(0:Int)<=x:=hx.1;have HB2:Hid (Xc (if bb<0 then x else if x<bb then x else bb) (row.drop (j+1))=o):=by
      have h:=HB.out;rw[dx.out] at h;exact h
     clear HB ex dx hx
     by_cases hb0:bb<0
     ·rw[if_pos hb0] at HB2
      go_wp2_with (fail);go_roundw
      case rel=>exact⟨j+1,x,by go_num,rfl,by omega,HB2,YI⟩
      case measure=>simp[intOf];omega
     ·rw[if_neg hb0] at HB2
      by_cases hxb:x<bb
      ·rw[if_pos hxb] at HB2
       go_wp2_with (fail);go_roundw
       case rel=>exact⟨j+1,x,by go_num,rfl,by omega,HB2,YI⟩
       case measure=>simp[intOf];omega
      ·rw[if_neg hxb] at HB2
       go_wp2_with (fail);go_roundw
       case rel=>exact⟨j+1,bb,by go_num,rfl,by omega,HB2,YI⟩
       case measure=>simp[intOf];omega
    ·have q2:¬(j:Int)<(row.length:Int):=by omega
     have hbo:bb=o:=by
      have h:=HB.out;rw[List.drop_of_length_le (by omega)] at h;exact h
     obtain rfl:=hbo;have nb:¬bb<0:=by omega
     have bI:=bL.out.ext YI.out;have fl:=bI.free k;have k30:(k:Int)<30:=by omega
     have hw1:IntKind.i64.wrap (s+bb)=s+bb:=IntWalk.i64_in _ (by omega);have NX:Hid (Ext w (wi.setCell ⟨w.heap.size,k,none⟩ (.int .i64 bb))/\Blk (wi.setCell ⟨w.heap.size,k,none⟩ (.int .i64 bb)) w.heap.size 229 (Vr off (k+1))):=by
      refine⟨(Y.out.tr YI.out).setNew (p:=⟨w.heap.size,k,none⟩) (Nat.le_refl _) _,?_⟩;rw[<-Zbv (by omega) eo.out];exact bI.set k _
     have cl:wi.cell? ⟨w.heap.size,k,none⟩=some (.int .i64 (if k<k then off.getD k 0 else 0)):=by rw[bI.cell,Vs (by omega)]
     clear HB bI ho;go_wp2_with (first | go_quiet (fail) | go_region);go_roundw
     case rel=>exact⟨k+1,by go_num,by rw[SN.out],by omega,NX.out⟩
     case measure=>simp[intOf];omega
  ·obtain rfl:k=ms.length:=by omega
   have q1:¬(ms.length:Int)<(ms.length:Int):=by omega
   have SO:Hid (Zj (off.take ms.length)=Zj off):=Hd (by rw[<-LO.out,List.take_length]);have so:=SB.out ms.length;rw[SO.out] at so ⊢;obtain⟨Y,bL⟩:=HH.out;replace Y:=Hd Y;replace bL:=Hd bL;have TOT2:Hid (tot=Zj off+Zj cols):=TOT.out;obtain⟨s0,hs0⟩:∃ s0,Hid (s0=Zj off):=⟨_,rfl⟩;rw[<-hs0.out] at so TOT2 ⊢;clear HH SO TOT SB;go_wp2_with (fail);go_loopw [8,3] (fun v s wr=>∃ c:Nat,v=.int .i64 c/\s=.int .i64 (s0+Zj (cols.take c))/\c<=L/\Hid (Ext wo wr)) (fun v _ _=>L-(intOf v).toNat)
   case atStart=>exact⟨0,rfl,by rw[List.take_zero];simp[Zj],by omega,Ext.rf _⟩
   case round =>
    obtain⟨wp,rfl⟩:∃ wp:World,wp=wr:=⟨_,rfl⟩;obtain⟨c,rfl,rfl,hc,YP⟩:=hrel;have sc1:=SC.out c;obtain⟨mb,mo,D0,row0,d0,rfl,zb,cD0,er0,_,_,_,_,_⟩:=(hM.out.ext (Y.out.tr YP.out) fun _ _ h=>h.ext (Y.out.tr YP.out)).ints (r:=0) hn0;have hl0:row0.length=L:=hl.out row0 (List.mem_of_getElem? er0.out);rw[hl0] at cD0;rw[Nat.add_zero] at cD0;clear er0 hl0
    by_cases hcl:c<L
    ·have q2:(c:Int)<(L:Int):=by omega
     have ec:=CG.out c hcl;obtain⟨cv,hcv⟩:∃ cv,Hid (WU c (-1) ms off=cv):=⟨_,rfl⟩;rw[hcv.out] at ec;have cb:=CB.out _ (List.mem_of_getElem? ec);have SN:=YC ec;obtain⟨s1,hs1⟩:∃ s1,Hid (s1=Zj (cols.take c)):=⟨_,rfl⟩;rw[<-hs1.out] at SN sc1 ⊢;replace SN:=Hd SN;clear ec;go_wp2_with (fail);go_loopw [10,9] (fun v bv wr=>∃ (k:Nat) (bb:Int),v=.int .i64 k/\bv=.int .i64 bb/\k<=ms.length/\Hid (WU c bb (ms.drop k) (off.drop k)=cv)/\Hid (Ext wp wr)) (fun v _ _=>ms.length-(intOf v).toNat)
     case atStart=>exact⟨0,-1,rfl,rfl,by omega,hcv,Ext.rf _⟩
     case round =>
      obtain⟨wi,rfl⟩:∃ wi:World,wi=wr:=⟨_,rfl⟩;obtain⟨k,bb,rfl,rfl,hk,HB,YI⟩:=hrel
      by_cases hkl:k<ms.length
      ·have YA:=(Y.out.tr YP.out).tr YI.out
       obtain⟨mb',mo',D,row,d,hq,_,cD,er,dr,rD,iD,ld,md⟩:=(hM.out.ext YA fun _ _ h=>h.ext YA).ints hkl;obtain⟨rfl,rfl⟩:mb=mb'/\mo=mo':=by simpa using hq
       have hr:=List.mem_of_getElem? er.out;have eo:=OG.out k row er.out;have hrl:=hl.out row hr;obtain⟨rb,ro,x,rfl,_,cx,ex,_⟩:=rD.at (k:=c) (by omega);have hx:=num.out row hr x (List.mem_of_getElem? ex.out);have x0:(0:Int)<=x:=hx.1;have ob:=OB.out _ (List.mem_of_getElem? eo);obtain⟨o,ho⟩:∃ o,Hid (Xc (-1) row=o):=⟨_,rfl⟩;rw[ho.out] at eo ob;have dof:off.drop k=o::off.drop (k+1):=by
        have hkl2:k<off.length:=by rw[LO.out];exact hkl
        rw[List.drop_eq_getElem_cons hkl2];rw[List.getElem?_eq_getElem hkl2] at eo;rw[Option.some.inj eo]
       have HB2:Hid (WU c (if bb<0 then x-o else if x-o<bb then x-o else bb) (ms.drop (k+1)) (off.drop (k+1))=cv):=by
        have h:=HB.out;rw[dr.out,dof,WU,getD_some ex.out] at h;exact h
       have cl:wi.cell? ⟨w.heap.size,k,none⟩=some (.int .i64 o):=by
        rw[((bL.out.ext YP.out).ext YI.out).cell,Vs (by omega),if_pos hkl,getD_some eo]
       have q3:(k:Int)<(ms.length:Int):=by omega
       have q4:(c:Int)<(row.length:Int):=by omega
       have k30:(k:Int)<30:=by omega
       have hw2:IntKind.i64.wrap (x-o)=x-o:=IntWalk.i64_in _ (by omega);replace hrl:=Hd hrl;clear HB ex er dr eo dof hr hq rD
       by_cases hb0:bb<0
       ·rw[if_pos hb0] at HB2
        have t1:decide (bb<0)=true:=decide_eq_true hb0;go_wp2_with (fail);go_quiet (fail);go_wp2_with (fail);go_quiet (fail);go_wp2_with (fail);go_roundw
        case rel=>exact⟨k+1,x-o,by go_num,rfl,by omega,HB2,YI.out.drewN _⟩
        case measure=>simp[intOf];omega
       ·rw[if_neg hb0] at HB2
        have t1:decide (bb<0)=false:=decide_eq_false hb0
        by_cases hxb:x-o<bb
        ·rw[if_pos hxb] at HB2
         have t2:decide (x-o<bb)=true:=decide_eq_true hxb;go_wp2_with (fail);go_quiet (fail);go_wp2_with (fail);go_quiet (fail);go_wp2_with (fail);go_roundw
         case rel=>exact⟨k+1,x-o,by go_num,rfl,by omega,HB2,YI.out.drewN _⟩
         case measure=>simp[intOf];omega
        ·rw[if_neg hxb] at HB2
         have t2:decide (x-o<bb)=false:=decide_eq_false hxb;go_wp2_with (fail);go_quiet (fail);go_wp2_with (fail);go_roundw
         case rel=>exact⟨k+1,bb,by go_num,rfl,by omega,HB2,YI.out.drewN _⟩
         case measure=>simp[intOf];omega
      ·have q3:¬(k:Int)<(ms.length:Int):=by omega
       have hbo:bb=cv:=by
        have h:=HB.out;rw[List.drop_of_length_le (by omega)] at h;exact h
       obtain rfl:=hbo;have nb:¬bb<0:=by omega
       have hw1:IntKind.i64.wrap (s0+s1+bb)=s0+s1+bb:=IntWalk.i64_in _ (by omega);clear HB hcv;go_wp2_with (fail);go_roundw
       case rel=>exact⟨c+1,by go_num,by rw[SN.out,Int.add_assoc],by omega,YP.out.tr YI.out⟩
       case measure=>simp[intOf];omega
    ·obtain rfl:c=L:=by omega
     have q2:¬(c:Int)<(c:Int):=by omega
     have FIN:Hid (s0+Zj (cols.take c)=tot):=Hd (by rw[TOT2.out,<-LC.out,List.take_length]);go_wp2_with (fail);go_ret;exact⟨ZM FIN.out,Y.out.tr YP.out⟩
theorem Zhc {w:World}{base n c:Nat}{C:Option Addr}{us:List Value}{rows:List (List Int)}(h3:OwV w base 22 1 C n c us)(h4:RowsO w base us rows)(hi:∀ r∈rows,Ints r) : RdE 1 RInts w C rows:=by
 rcases h3.read with h0 | ⟨b',off,cur,hA,hb,hc⟩
 ·left
  have:=h4.1;rw[h0] at this;exact List.eq_nil_of_length_eq_zero this.symm
 ·refine .inr ⟨b',off,hA,(Array.getElem?_eq_some_iff.1 hb).1,fun k r hr=>?_⟩
  obtain⟨A',c',hu,ho⟩:=h4.2 k r hr;refine⟨[.slice A' r.length c'],⟨A',c',rfl,ho.read,hi r (List.mem_of_getElem? hr),ho.le.1,ho.le.2⟩,rfl,fun j v hj=>?_⟩
  cases j with
  | zero =>
   simp at hj;subst hj;rw[cell_of_row w b' _ cur _ (0,0) hb]
   simpa using hc k _ hu
  | succ j=>simp at hj
def Wo (rows:List (List Int))(l:List Nat) : List (List Int):=rows.map fun row=>l.map fun c=>row.getD c 0
theorem Zco (i:InstP)(us:List Value)(P:Option Addr)(pc:Nat)(p:List Int)(w:World)(H:RInst w us i)(ok:SquareOk i)(hP:RdI w P p)(lp:p.length<=1000000000) :
  Calls Tryz.prog 98 #[.agg (List.toArray us),.slice P p.length pc] w fun e w'=>e=.returned (.tuple #[.int .i64 (Yz i.cost p).1,.int .i64 (Yz i.cost p).2])/\Ext w w':=by
 have rok:=ZF ok;have l1:=rok.n1;have l2:=rok.n2;have hnn:i.n=(i.cost.length:Int):=ok.len.symm;have FR:=fun(W:World) (x:Ext w W)=>Zbu i us P pc p W (H.ext x) i.cost.length hnn l1 l2 (hP.ext x) lp
 clear ok;obtain⟨kind,nn,cap,xw,xv,co⟩:=i;obtain⟨A,a,B,b,D,d,rfl,-,-,⟨hC,-,-⟩⟩:=H;simp only at *;subst hnn;obtain⟨r,hr⟩:∃ r,Hid (Z1 co.length p=r):=⟨_,rfl⟩;rw[hr.out] at FR;replace hP:=Hd hP;replace hC:=Hd hC;have B1:Hid (Blk (w.alloc (.cells #[.int .i64 kind,.int .i64 co.length,.int .i64 cap,.slice A xw.length a,.slice B xv.length b,.slice D co.length d] 25)) w.heap.size 25 #[.int .i64 kind,.int .i64 co.length,.int .i64 cap,.slice A xw.length a,.slice B xv.length b,.slice D co.length d]):=.new rfl
 cases r with
 | none =>
  have e:Yz co p=(0,1):=by unfold Yz;rw[hr.out]
  rw[e];unfold Zfo at FR;replace FR:=Hd FR;go_enter Tryz.func98,Tryz.ntmps98;go_wp2_with (fail);refine(FR.out _ (by(repeat (first | assumption | exact Ext.rf _ | apply Ext.drew | apply Ext.drewN | apply Ext.alloc)))).mono ?_;rintro e w1 ⟨rfl,x1⟩;have X1:=Hd (Ext.tr (a:=w) (by(repeat (first | assumption | exact Ext.rf _ | apply Ext.drew | apply Ext.drewN | apply Ext.alloc))) x1);clear x1;go_wp2_with (fail);go_ret2;exact⟨rfl,X1.out⟩
 | some m =>
  obtain⟨hpl,hin,hS⟩:=XD l2 hr.out;have hlen:=ZZ l2 hr.out;obtain⟨tot,ht⟩:∃ tot,Hid (tot=Zv co p+(if p.length<co.length then ZW (co.drop p.length) (Zf m) else 0)):=⟨_,rfl⟩;have e:Yz co p=(tot,0):=by unfold Yz;rw[hr.out];simp only[<-ht.out]
  rw[e];clear e;have RB:=Hd (ZaA (rows:=co.drop p.length) (m:=m) (by rw[List.length_drop];omega) (fun row hr c hc=>rok.get (List.mem_of_mem_drop hr) (hS.2 c hc)));have hsub:=Hd hS.2;replace FR:=fun(W:World) (x:Ext w W)=>(show Calls _ _ _ W (V3 m W) from FR W x)
  unfold V3 at FR;replace FR:=Hd FR;clear hr hS;generalize Zf m=l at *;replace hin:=Hd hin;replace rok:=Hd rok;go_enter Tryz.func98,Tryz.ntmps98;go_wp2_with (fail);refine(FR.out _ (by(repeat (first | assumption | exact Ext.rf _ | apply Ext.drew | apply Ext.drewN | apply Ext.alloc)))).mono ?_;rintro e w1 ⟨A1,c1,rfl,o1,x1⟩;have X1:=Hd (Ext.tr (a:=w) (by(repeat (first | assumption | exact Ext.rf _ | apply Ext.drew | apply Ext.drewN | apply Ext.alloc))) x1);have BB:=Hd (B1.out.ext x1);replace o1:=Hd o1.read;clear x1;go_wp2_with (fail);go_loopw [9,8] (fun v s wr=>∃ (k:Nat) (su:Int),v=.int .i64 k/\s=.int .i64 su/\k<=p.length/\Hid (Zv co (p.take k)=su)/\Hid (Ext w1 wr)) (fun v _ _=>p.length-(intOf v).toNat)
  case atStart=>exact⟨0,0,rfl,rfl,by omega,(by cases co<;>rfl:Zv co (p.take 0)=0),Ext.rf _⟩
  case round =>
   obtain⟨wo,rfl⟩:∃ wo:World,wo=wr:=⟨_,rfl⟩;obtain⟨k,su,rfl,rfl,hk,HS,Y⟩:=hrel;have bdS:Hid (0<=su/\su<=2147483647*24):=by
    have h1:=VY (B:=2147483647) (rows:=co) (p:=p.take k) (by omega) fun row hr c hc=>by
     have:=hin.out c (List.mem_of_mem_take hc);exact rok.out.get hr (by omega)
    have h2:(p.take k).length<=24:=by rw[List.length_take];omega
    have h:0<=su/\su<=2147483647*24:=by
     rw[<-HS.out];omega
    exact h
   have d5:wo.cell? ⟨w.heap.size,5,none⟩=some (.slice D co.length d):=(BB.out.ext Y.out).cell 5;have d1:wo.cell? ⟨w.heap.size,1,none⟩=some (.int .i64 co.length):=(BB.out.ext Y.out).cell 1;have XW:=Hd (X1.out.tr Y.out)
   by_cases hlt:k<p.length
   ·have hkr:k<co.length:=by omega
    obtain⟨cb,cof,D',row,d',rfl,_,cD,er,_,rD,iD,ld,md⟩:=(hC.out.ext XW.out fun _ _ h=>h.ext XW.out).ints hkr;have hmem:=List.mem_of_getElem? er.out;obtain⟨pb,po,c,rfl,zp,cp,ep,_⟩:=(hP.out.ext XW.out).at hlt;have hc:=hin.out c (List.mem_of_getElem? ep.out);obtain⟨i,rfl⟩:∃ i:Nat,c=(i:Int):=⟨c.toNat,by omega⟩;have lrow:=rok.out.row row hmem;obtain⟨rb,ro,y,rfl,zy,cy,ey,_⟩:=rD.at (k:=i) (by omega);have yb:=rok.out.get hmem (c:=i) (by omega);rw[getD_some ey.out] at yb;have b1:=bdS.out;have hw:IntKind.i64.wrap (su+y)=su+y:=IntWalk.i64_in _ (by omega);have HS2:Hid (Zv co (p.take (k+1))=su+y):=Hd (by
     rw[Vp er.out ep.out,HS.out,Int.toNat_natCast,getD_some ey.out])
    have q1:(k:Int)<(co.length:Int):=by omega
    have q2:(k:Int)<(p.length:Int):=by omega
    have q3:(i:Int)<(row.length:Int):=by omega
    clear er ep ey lrow b1 yb HS hc rD hmem d1;go_wp2_with (fail);go_quiet (fail);go_wp2_with (fail);go_roundw
    case rel=>exact⟨k+1,su+y,by go_num,rfl,by omega,HS2,Y.out.drewN _⟩
    case measure=>simp[intOf];omega
   ·obtain rfl:k=p.length:=by omega
    have HS2:Hid (Zv co p=su):=by
     have h:=HS.out;rw[List.take_length] at h;exact h
    have q0:¬((p.length:Int)<(p.length:Int)):=by omega
    obtain⟨i0,hi,hz0,hz1,hz2⟩:=info_parts (VU);replace hi:=Hd hi;replace hz0:=Hd hz0;replace hz1:=Hd hz1;replace hz2:=Hd hz2;have START:Hid (OwV wo w1.heap.size 22 1 none 0 0 []/\RowsO wo w1.heap.size [] ((Wo (co.drop p.length) l).take 0)/\Ext w1 wo):=⟨OwV.nil _ _ _ _,RowsO.nil _ _,Y.out⟩;clear HS d1 d5;go_wp2_with (fail);go_loopw [11,10] (fun v mv wr=>∃ (r k:Nat) (M':Option Addr) (mc:Nat) (ws:List Value),v=.int .i64 r/\mv=.slice M' k mc/\Hid (r=p.length+k)/\r<=co.length/\Hid (OwV wr w1.heap.size 22 1 M' k mc ws/\RowsO wr w1.heap.size ws ((Wo (co.drop p.length) l).take k)/\Ext w1 wr)) (fun v _ _=>co.length-(intOf v).toNat)
    case atStart=>exact⟨p.length,0,none,0,[],rfl,rfl,rfl,by omega,START⟩
    case round =>
     obtain⟨wp,rfl⟩:∃ wp:World,wp=wr:=⟨_,rfl⟩;obtain⟨r,k,M',mc,ws,rfl,rfl,hrk,hr,HH⟩:=hrel;clear START;obtain⟨oV,oR,YP⟩:=HH.out;have XP:=Hd (X1.out.tr YP);have d1:wp.cell? ⟨w.heap.size,1,none⟩=some (.int .i64 co.length):=(BB.out.ext YP).cell 1
     by_cases hrn:r<co.length
     ·have q1:(r:Int)<(co.length:Int):=by omega
      obtain⟨cb,cof,D',row,d',rfl,zcb,cD,er,_,rD,iD,ld,md⟩:=(hC.out.ext XP.out fun _ _ h=>h.ext XP.out).ints hrn;have hmem:=List.mem_of_getElem? er.out;have lrow:=Hd (rok.out.row row hmem);have etk:Hid ((Wo (co.drop p.length) l).take (k+1)=(Wo (co.drop p.length) l).take k++[l.map fun c=>row.getD c 0]):=by
       have e0:(Wo (co.drop p.length) l)[k]?=some (l.map fun c=>row.getD c 0):=by
        unfold Wo;rw[List.getElem?_map,List.getElem?_drop,<-hrk.out,er.out]
        rfl
       have h:(Wo (co.drop p.length) l).take (k+1)=(Wo (co.drop p.length) l).take k++[l.map fun c=>row.getD c 0]:=by rw[List.take_add_one,e0];rfl
       exact h
      have z1p:=YP.size;have S0:Hid (OwI (wp.alloc (.cells #[] 3)) wp.heap.size (some ⟨wp.heap.size,0,none⟩) 0 []):=OwI.new (xs:=[]) rfl (Nat.le_refl _) YL;have X0:Hid (Ext wp (wp.alloc (.cells #[] 3))):=(Ext.rf _).alloc _;have hk24:k<=24:=by have:=hrk.out;omega
      replace oV:=Hd oV;replace oR:=Hd oR;replace YP:=Hd YP;replace rD:=Hd rD;have zD:=World.block_lt_of_cell? _ _ cD;clear er hmem HH;go_wp2_with (fail);go_loopw [13,12] (fun v rv wr=>∃ (j:Nat) (R':Option Addr) (rc:Nat) (xs:List Int),v=.int .i64 j/\rv=.slice R' xs.length rc/\j<=l.length/\Hid (xs=(l.take j).map fun c=>row.getD c 0)/\Hid (OwI wr wp.heap.size R' rc xs)/\Hid (Ext wp wr)) (fun v _ _=>l.length-(intOf v).toNat)
      case atStart=>exact⟨0,_,_,[],rfl,rfl,by omega,rfl,S0,X0⟩
      case round =>
       obtain⟨wi,rfl⟩:∃ wi:World,wi=wr:=⟨_,rfl⟩;obtain⟨j,R',rc,xs,rfl,rfl,hj,hxs,oX,YI⟩:=hrel;clear S0 X0;have lxs:xs.length=j:=by rw[hxs.out,List.length_map,List.length_take];omega
       by_cases hjl:j<l.length
       ·have YA:=Hd (YP.out.tr YI.out)
        have q2:(j:Int)<(l.length:Int):=by omega
        have e5:wp.cell? ⟨w.heap.size,5,none⟩=some (.slice (some ⟨cb,cof,none⟩) co.length d):=(BB.out.ext YP.out).cell 5;have z5:w.heap.size<wp.heap.size:=(BB.out.ext YP.out).lt;have d5:=Zc YI.out z5 e5;have cD':wi.cell? ⟨cb,cof+r,none⟩=some (.slice D' row.length d'):=Zc YI.out zD cD;have ej:l[j]?=some l[j]:=List.getElem?_eq_getElem hjl;have hjs:=hsub.out _ (List.getElem_mem hjl);have hxs2:Hid (xs++[row.getD l[j] 0]=(l.take (j+1)).map fun c=>row.getD c 0):=Hd (by
         rw[List.take_add_one,ej,List.map_append,<-hxs.out];rfl)
        generalize l[j]=c at *;obtain⟨lb,lo,xk,rfl,zl,ck,exk,_⟩:=(o1.out.ext YP.out).at (k:=j) (by rw[Zg];exact hjl);obtain rfl:xk=(c:Int):=by
         have h:=exk.out;rw[ZD ej] at h;exact(Option.some.inj h).symm
        obtain⟨rb,ro,y,rfl,zy,cy,ey,_⟩:=rD.out.at (k:=c) (by rw[lrow.out];exact hjs);rw[getD_some ey.out] at hxs2;have q3:(c:Int)<(row.length:Int):=by rw[lrow.out];omega
        have ck':=Zc YI.out zl ck;have cy':=Zc YI.out zy cy;have zpi:=YI.out.size;replace lxs:=Hd lxs;have hj24:j<24:=by omega
        clear exk ej ey hjs;go_wp2_with (fail);go_region_held3 (fun w'=>w'.cell? ⟨w.heap.size,5,none⟩=some (.slice (some ⟨cb,cof,none⟩) co.length d)/\w'.cell? ⟨cb,cof+r,none⟩=some (.slice (some ⟨rb,ro,none⟩) row.length d')/\w'.cell? ⟨lb,lo+j,none⟩=some (.int .i64 (c:Int))/\w'.cell? ⟨rb,ro+c,none⟩=some (.int .i64 y)) (go_keep)
         (first | (refine Zei _ (by rfl) _ _ (by rfl) wp.heap.size R' xs.length rc xs [y] (some ⟨wi.heap.size,0,none⟩) 1 (by rfl) (by rfl) (by rfl) ?_ ?_ ?_ ?_ ?_;(refine OwI.ext oX.out ?_;(repeat (first | assumption | exact Ext.rf _ | apply Ext.drew | apply Ext.drewN | apply Ext.alloc)));(exact .blk (by(first | exact .new (by simp) | exact .drew (.new (by simp)) | exact .alloc (.new (by simp)) _ | exact .drew (.alloc (.new (by simp)) _) | exact .alloc (.alloc (.new (by simp)) _) _ | exact .drew (.alloc (.alloc (.new (by simp)) _) _) | (repeat (first | assumption | (refine Blk.new ?_;(focus (simp;done))) | apply Blk.drew | apply Blk.drewN | apply Blk.alloc)))) rfl);(have h8:=lxs.out;simp;omega);(simp;omega);rintro A7 c7 w7 o7 g7 _;have Y7:Ext wp w7:=Ext.grow (a:=wp) (Ext.tr YI.out (by(repeat (first | assumption | exact Ext.rf _ | apply Ext.drew | apply Ext.drewN | apply Ext.alloc)))) g7 (fun kk hkk=>(oX.out.lt kk hkk).1);have s1:=Zc Y7 z5 e5;have s2:=Zc Y7 zD cD;have s3:=Zc Y7 zl ck;have s4:=Zc Y7 zy cy))
        have O7:Hid (OwI w7 wp.heap.size A7 c7 (xs++[y])):=o7;replace Y7:=Hd Y7;clear o7 g7 s1 s2 s3 s4;go_wp2_with (fail);go_roundw
        case rel=>exact⟨j+1,A7,c7,xs++[y],by go_num,by first | rfl | simp,by omega,hxs2,OwI.ext O7.out (by(repeat (first | assumption | exact Ext.rf _ | apply Ext.drew | apply Ext.drewN | apply Ext.alloc))),Ext.tr Y7.out (by(repeat (first | assumption | exact Ext.rf _ | apply Ext.drew | apply Ext.drewN | apply Ext.alloc)))⟩
        case measure=>simp[intOf];omega
       ·obtain rfl:j=l.length:=by omega
        have q2:¬(l.length:Int)<(l.length:Int):=by omega
        have hxs2:Hid (xs=l.map fun c=>row.getD c 0):=by
         have h:=hxs.out;rw[List.take_length] at h;exact h
        have X6:=Hd ((Ext.tr YI.out ((Ext.rf wi).alloc (.cells #[.slice R' xs.length rc] 22))));have oV5:=oV.out.ext YI.out;have zz:=YI.out.size;have M5:=Hd (oV5.ext ((Ext.rf wi).alloc (.cells #[.slice R' xs.length rc] 22)));clear oV5 hxs;replace lxs:=Hd lxs;go_wp2_with (at_builtin;refine Yd _ (e:=22) Tryz.underlying23 hi.out hz0.out hz1.out hz2.out (by simp[Value.cells]) (by omega) rfl _ _ rfl w1.heap.size M' k mc ws (some ⟨wi.heap.size,0,none⟩) 1 1 [.slice R' xs.length rc] rfl rfl M5.out (RdV.blk (.new (by simp))).rdC (by simp) (by simp[Value.oneCell']) (by simp only[maxLen];omega) (by omega) (by simp;omega) ?_;rintro C6 c6 w6 o6 g6 _);have M6:=M5.out.grownT g6;have NEW:Hid (OwV w6 w1.heap.size 22 1 C6 (k+1) c6 (ws++[.slice R' xs.length rc])/\RowsO w6 w1.heap.size (ws++[.slice R' xs.length rc]) ((Wo (co.drop p.length) l).take (k+1))/\Ext w1 w6):=by
         refine⟨o6,?_,(YP.out.tr X6.out).modT M6 (Nat.le_refl _)⟩;rw[etk.out,<-hxs2.out];exact((oR.out.ext X6.out).modT M6 (by decide)).snoc (((oX.out.more z1p).ext ((Ext.rf _).alloc _)).modT M6 (by decide))
        clear o6 g6 M6;go_wp2_with (fail);go_roundw
        case rel=>exact⟨r+1,k+1,C6,c6,_,by go_num,rfl,by have:=hrk.out;show r+1=_+(k+1);omega,by omega,NEW⟩
        case measure=>simp[intOf];omega
     ·obtain rfl:r=co.length:=by omega
      have q1:¬(co.length:Int)<(co.length:Int):=by omega
      have hk:=hrk.out;have lsub:(Wo (co.drop p.length) l).length=k:=by unfold Wo;rw[List.length_map,List.length_drop];omega
      rw[<-lsub,List.take_length] at oR;have bd1:=bdS.out;have ht2:=ht.out;rw[HS2.out] at ht2
      by_cases hk0:k=0
      ·subst hk0
       have e0:tot=su:=by rw[ht2,if_neg (by omega)];omega
       have RN:=Hd (fun(W:World)=>Zdd M' mc W);have hw9:IntKind.i64.wrap (su+0)=su:=by rw[Int.add_zero];exact IntWalk.i64_in _ (by omega)
       replace e0:=Hd e0;have YP':=Hd YP;clear HH oV oR YP ht2 hk lsub;go_wp2_with (fail);refine(RN.out _).mono ?_;rintro e w9 ⟨rfl,x9⟩;go_wp2_with (fail);go_ret2;rw[e0.out];exact⟨by first | rfl | (congr 2;simp),XP.out.tr x9⟩
      ·have e0:tot=su+ZW (co.drop p.length) l:=by rw[ht2,if_pos (by omega)]
       have RE:Hid (∀ W,Ext wp W->Calls Tryz.prog 152 #[.slice M' k mc] W fun e w'=>e=.returned (.int .i64 (ZW (co.drop p.length) l))/\Ext W w'):=by
        intro W x;have hsm:∀ row∈Wo (co.drop p.length) l,∃ q∈co,row=l.map fun c=>q.getD c 0:=fun row h=>by
         obtain⟨q,hq,rfl⟩:=List.mem_map.1 h;exact⟨q,List.mem_of_mem_drop hq,rfl⟩
        have hnum:∀ row∈Wo (co.drop p.length) l,∀ x∈row,0<=x/\x<=2147483647:=fun row h x hx=>by
         obtain⟨q,hq,rfl⟩:=hsm row h;obtain⟨c,hc,rfl⟩:=List.mem_map.1 hx;exact rok.out.get hq (hsub.out c hc)
        have h:=Zde (Wo (co.drop p.length) l) l.length M' mc W (Zhc (oV.ext x) (oR.ext x) (fun r hr x hx=>by have:=hnum r hr x hx;omega)) (fun row h=>by obtain⟨q,_,rfl⟩:=hsm row h;simp) (by omega) (by omega) (by omega) (by omega) hnum;rw[show WW (Wo (co.drop p.length) l) l.length=ZW (co.drop p.length) l from ZaC _ _,lsub] at h;exact h
       have rb:=RB.out;generalize ZW (co.drop p.length) l=rp at *;have hw9:IntKind.i64.wrap (su+rp)=su+rp:=IntWalk.i64_in _ (by omega);replace e0:=Hd e0;clear HH oV oR YP ht2 hk lsub;go_wp2_with (fail);refine(RE.out _ (by(repeat (first | assumption | exact Ext.rf _ | apply Ext.drew | apply Ext.drewN | apply Ext.alloc)))).mono ?_;rintro e w9 ⟨rfl,x9⟩;go_wp2_with (fail);go_ret2;rw[e0.out];exact⟨rfl,XP.out.tr x9⟩
theorem XO {m c x:Nat}(h:m<18446744073709551616) : x∈Zf (ZL m c)↔x∈Zf m/\x≠c:=by
 rw[Qe h,List.mem_filter]
 constructor
 ·rintro ⟨h1,h2⟩
  exact⟨h1,fun e=>by subst e;simp at h2⟩
 ·rintro ⟨h1,h2⟩
  exact⟨h1,by simp;exact fun e=>h2 e.symm⟩
theorem QC {n:Nat} : ∀ {p:List Int} {m q:Nat},SubN n m->Yj m p=some q->∃ l:List Nat,p=Zd l/\l.Nodup/\(∀ x∈l,x∈Zf m)/\∀ x,x∈Zf q↔x∈Zf m/\x∉l
 | [],m,q,_,e=>by
  simp only[Yj,Option.some.injEq] at e;subst e;exact⟨[],rfl,List.Pairwise.nil,by simp,by simp⟩
 | c::p,m,q,h,e=>by
  unfold Yj at e;split at e
  ·rename_i hc
   obtain⟨l,rfl,h1,h2,h3⟩:=QC (h.clr _) e;have hm:c.toNat∈Zf m:=Z4.2 ⟨by omega,hc.2.2⟩;have hnot:c.toNat∉l:=fun hl=>((XO h.1).1 (h2 _ hl)).2 rfl
   refine⟨c.toNat::l,?_,List.nodup_cons.2 ⟨hnot,h1⟩,?_,fun x=>?_⟩
   ·simp only[Zd,List.map_cons,List.cons.injEq,and_true]
    omega
   ·intro x hx
    rcases List.mem_cons.1 hx with rfl | hx
    ·exact hm
    ·exact((XO h.1).1 (h2 x hx)).1
   ·rw[h3 x,XO h.1]
    simp only[List.mem_cons,not_or];exact⟨fun⟨⟨a,b⟩,c⟩=>⟨a,b,c⟩,fun⟨a,b,c⟩=>⟨⟨a,b⟩,c⟩⟩
  ·cases e
theorem Uk {n:Nat}(h24:n<=24){p:List Int}{q:Nat}(e:Z1 n p=some q) : ∃ l:List Nat,p=Zd l/\l.Nodup/\(∀ x∈l,x<n)/\∀ x,x∈Zf q↔x<n/\x∉l:=by
 unfold Z1 at e;split at e
 ·cases e
 ·obtain⟨l,h1,h2,h3,h4⟩:=QC (Xr h24) e
  have hm:∀ x,x∈Zf (2^n-1)↔x<n:=fun x=>by rw[XR (by omega),List.mem_range]
  exact⟨l,h1,h2,fun x hx=>(hm x).1 (h3 x hx),fun x=>by rw[h4 x,hm x]⟩
theorem XS {n:Nat}(h24:n<=24){p:List Int}{m c:Nat}(e:Z1 n p=some m)(hc:c∈Zf m) : Z1 n (p++[(c:Int)])=some (ZL m c):=by
 have hlen:=ZZ h24 e;have hpos:0<(Zf m).length:=List.length_pos_of_mem hc;unfold Z1 at e ⊢;rw[if_neg (by omega)] at e;rw[if_neg (by rw[List.length_append,List.length_singleton];omega)];have key:∀ {p:List Int} {m0:Nat},Yj m0 p=some m->Yj m0 (p++[(c:Int)])=some (ZL m c):=by
  intro p
  induction p with
  | nil =>
   intro m0 h;simp only[Yj,Option.some.injEq] at h;subst h;have:=Z4.1 hc;show Yj m0 ((c:Int)::[])=_;unfold Yj;rw[if_pos ⟨by omega,by omega,by rw[Int.toNat_natCast];exact this.2⟩,Int.toNat_natCast]
   rfl
  | cons d p ih =>
   intro m0 h;show Yj m0 (d::(p++[(c:Int)]))=_;unfold Yj at h ⊢;split at h
   ·rename_i hd
    rw[if_pos hd];exact ih h
   ·cases h
 exact key e
theorem Zbw : ∀ (rows:List (List Int)) (p q:List Int),Zv rows (p++q)=Zv rows p+Zv (rows.drop p.length) q
 | rows,[],q=>by cases rows<;>simp[Zv]
 | [],c::p,q=>by simp[Zv]
 | r::rows,c::p,q=>by
  have:=Zbw rows p q;simp only[List.cons_append,Zv,List.length_cons,List.drop_succ_cons];omega
theorem Zfq {c:Nat} : ∀ {rows:List (List Int)} {off:List Int} {b:Int},(∀ (k:Nat) (x:List Int) (o:Int),rows[k]?=some x->off[k]?=some o->0<=x.getD c 0-o)->(0<=b->WU c b rows off<=b)/\∀ (k:Nat) (x:List Int) (o:Int),rows[k]?=some x->off[k]?=some o->WU c b rows off<=x.getD c 0-o
 | [],off,b,_=>⟨fun _=>by cases off<;>exact Int.le_refl _,fun k x o h=>by simp at h⟩
 | row::rows,[],b,_=>⟨fun _=>Int.le_refl _,fun k x o _ h=>by simp at h⟩
 | row::rows,o::off,b,h=>by
  have hx:=h 0 row o rfl rfl;have ih:=Zfq (rows:=rows) (off:=off) (b:=if b<0 then row.getD c 0-o else if row.getD c 0-o<b then row.getD c 0-o else b) (fun k x o h1 h2=>h (k+1) x o h1 h2);unfold WU;refine⟨fun hb=>?_,fun k x o' h1 h2=>?_⟩
  ·refine Int.le_trans (ih.1 ?_) ?_<;>split<;>(try split)<;>omega
  ·cases k with
   | zero =>
    simp only[List.getElem?_cons_zero,Option.some.injEq] at h1 h2;subst h1 h2;refine Int.le_trans (ih.1 ?_) ?_<;>split<;>(try split)<;>omega
   | succ k=>exact ih.2 k x o' (by simpa using h1) (by simpa using h2)
theorem JB (row:List Int)(l:List Nat) : Zs (fun c=>row.getD c 0) (-1) l=Xc (-1) (l.map fun c=>row.getD c 0):=(Vq _ _ _).symm
theorem Zf0 {rows:List (List Int)}{l q:List Nat}(hq:q.Perm l)(hl:rows.length=l.length)(num:∀ row∈rows,∀ c∈l,0<=row.getD c 0) : ZW rows l<=Zv rows (Zd q):=by
 have ho:∀ (k:Nat) (x:List Int) (o:Int),rows[k]?=some x->(VW rows l)[k]?=some o->∀ c∈l,0<=x.getD c 0-o:=fun k x o h1 h2 c hc=>by
  unfold VW at h2;rw[List.getElem?_map,h1] at h2;obtain rfl:=Option.some.inj h2;have hx:=List.mem_of_getElem? h1;have h3:=(Vh (l:=l.map fun c=>x.getD c 0) (b:=-1) fun y hy=>by
   obtain⟨c',hc',rfl⟩:=List.mem_map.1 hy;exact num x hx c' hc').1 (x.getD c 0) (List.mem_map.2 ⟨c,hc,rfl⟩)
  show 0<=x.getD c 0-Zs (fun c=>x.getD c 0) (-1) l;rw[JB];omega
 have h:=Zav (F:=fun c=>WU c (-1) rows (VW rows l)) (rows:=rows) (off:=VW rows l) (q:=q) (by rw[hq.length_eq];exact hl) (by simp[VW,hq.length_eq,hl]) fun k c x o h1 h2 h3=>by
  have hc:c∈l:=hq.mem_iff.1 (List.mem_of_getElem? h3);have:=(Zfq (c:=c) (b:=-1) (rows:=rows) (off:=VW rows l) fun k x o a b=>ho k x o a b c hc).2 k x o h1 h2;omega
 have e:=Xp (hq.map fun c=>WU c (-1) rows (VW rows l));unfold ZW;omega
theorem Q2 {l:List Int}(h:∀ x∈l,0<=x) : 0<=Zj l:=XU h
theorem ZeB {rows:List (List Int)}{l:List Nat}(hl:l≠[])(hr:rows≠[])(num:∀ row∈rows,∀ c∈l,0<=row.getD c 0/\row.getD c 0<=2147483647) : 0<=ZW rows l:=by
 have ho:∀ x∈VW rows l,0<=x/\x<=2147483647:=fun x hx=>by
  obtain⟨row,h,rfl⟩:=List.mem_map.1 hx;rw[JB];refine Vg (fun y hy=>?_) (by omega) (.inr (by simpa using hl));obtain⟨c,hc,rfl⟩:=List.mem_map.1 hy;exact num row h c hc
 have hc:∀ x∈l.map (fun c=>WU c (-1) rows (VW rows l)),0<=x:=fun x hx=>by
  obtain⟨c,hc,rfl⟩:=List.mem_map.1 hx;refine(Q1 (B:=2147483647) (fun k x o h1 h2=>?_) (by simp[VW]) (by omega) (.inr hr)).1;have hx:=List.mem_of_getElem? h1;have hob:=ho o (List.mem_of_getElem? h2);unfold VW at h2;rw[List.getElem?_map,h1] at h2;obtain rfl:=Option.some.inj h2;have h3:=(Vh (l:=l.map fun c=>x.getD c 0) (b:=-1) fun y hy=>by
   obtain⟨c',hc',rfl⟩:=List.mem_map.1 hy;exact(num x hx c' hc').1).1 (x.getD c 0) (List.mem_map.2 ⟨c,hc,rfl⟩)
  have h4:=num x hx c hc;simp only[JB] at hob ⊢;omega
 have h1:=Q2 fun x hx=>(ho x hx).1
 have h2:=Q2 hc;unfold ZW;omega
def Xk (rows:List (List Int))(n:Nat) : Nat->List Int->Int
 | 0,p=>Zv rows p
 | f+1,p=>ZH (fun x=>Xk rows n f (p++[x])) (-1) (match Z1 n p with | none=>[] | some m=>Zd (Zf m))
theorem Qg {f:Int->Int} : ∀ {l:List Int} {b:Int},(∀ x∈l,0<=f x)->(0<=b\/l≠[])->(ZH f b l=b/\0<=b)\/∃ x∈l,ZH f b l=f x
 | [],b,_,h=>by
  rcases h with h | h
  ·exact .inl ⟨rfl,h⟩
  ·exact absurd rfl h
 | x::l,b,h,_=>by
  have hx:=h x (by simp);have ih:=Qg (f:=f) (l:=l) (b:=if b<0 then f x else if f x<b then f x else b) (fun y hy=>h y (by simp[hy])) (.inl (by split<;>(try split)<;>omega));unfold ZH;rcases ih with⟨e,_⟩ | ⟨y,hy,e⟩
  ·rw[e]
   split
   ·exact .inr ⟨x,by simp,rfl⟩
   ·split
    ·exact .inr ⟨x,by simp,rfl⟩
    ·exact .inl ⟨rfl,by omega⟩
  ·exact .inr ⟨y,by simp[hy],e⟩
theorem Qh {rows:List (List Int)}(h24:rows.length<=24)(num:∀ row∈rows,∀ c,c<rows.length->0<=row.getD c 0) : ∀ (f:Nat) (p:List Int) (m:Nat),Z1 rows.length p=some m->f=rows.length-p.length->∃ q:List Nat,q.Perm (Zf m)/\Xk rows rows.length f p=Zv rows (p++Zd q)
 | 0,p,m,hp,hf=>by
  have hlen:=ZZ h24 hp;refine⟨[],?_,by simp[Xk,Zd]⟩;rw[List.eq_nil_of_length_eq_zero (show (Zf m).length=0 by omega)]
 | f+1,p,m,hp,hf=>by
  have hlen:=ZZ h24 hp;have hsub:=(XD h24 hp).2.2;have ih:∀ c∈Zf m,∃ q:List Nat,q.Perm (Zf (ZL m c))/\Xk rows rows.length f (p++[(c:Int)])=Zv rows (p++[(c:Int)]++Zd q):=fun c hc =>
   Qh h24 num f _ _ (XS h24 hp hc) (by rw[List.length_append,List.length_singleton];omega)
  have hpos:∀ x∈Zd (Zf m),0<=Xk rows rows.length f (p++[x]):=fun x hx=>by
   obtain⟨c,hc,rfl⟩:=List.mem_map.1 hx;obtain⟨q,h1,h2⟩:=ih c hc;rw[h2];have hin:=(XD h24 hp).2.1;have:∀ (rs:List (List Int)) (l:List Int),(∀ row∈rs,row∈rows)->(∀ x∈l,0<=x/\x<rows.length)->0<=Zv rs l:=by
    intro rs
    induction rs with
    | nil=>intro l _ _;simp[Zv]
    | cons r rs ihr =>
     intro l h3 h4
     cases l with
     | nil=>simp[Zv]
     | cons d l =>
      have h5:=h4 d (by simp);have h6:=num r (h3 r (by simp)) d.toNat (by omega);have h7:=ihr l (fun y hy=>h3 y (by simp[hy])) (fun y hy=>h4 y (by simp[hy]));simp only[Zv];omega
   refine this rows _ (fun _ h=>h) fun y hy=>?_
   rcases List.mem_append.1 hy with hy | hy
   ·rcases List.mem_append.1 hy with hy | hy
    ·exact hin y hy
    ·obtain rfl:=List.mem_singleton.1 hy
     have:=hsub.2 c hc;omega
   ·obtain⟨d,hd,rfl⟩:=List.mem_map.1 hy
    have:=hsub.2 d (((XO hsub.1).1 (h1.mem_iff.1 hd)).1);omega
  have hne:Zf m≠[]:=by
   intro e;rw[e] at hlen;simp at hlen;omega
  have e:Xk rows rows.length (f+1) p=ZH (fun x=>Xk rows rows.length f (p++[x])) (-1) (Zd (Zf m)):=by
   show ZH _ (-1) (match Z1 rows.length p with | none=>[] | some m=>Zd (Zf m))=_;rw[hp]
  rcases Qg (b:=-1) hpos (.inr (by simpa [Zd] using hne)) with⟨_,h⟩ | ⟨x,hx,h⟩
  ·omega
  ·obtain⟨c,hc,rfl⟩:=List.mem_map.1 hx
   obtain⟨q,h1,h2⟩:=ih c hc;refine⟨c::q,?_,?_⟩
   ·refine(h1.cons c).trans ?_
    refine(List.perm_ext_iff_of_nodup ?_ ((Zw m).imp fun h=>Nat.ne_of_lt h)).2 fun x=>?_
    ·refine List.nodup_cons.2 ⟨fun h=>((XO hsub.1).1 h).2 rfl,(Zw _).imp fun h=>Nat.ne_of_lt h⟩
    ·rw[List.mem_cons,XO hsub.1]
     constructor
     ·rintro (rfl | ⟨h,_⟩)
      ·exact hc
      ·exact h
     ·intro h
      by_cases e:x=c
      ·exact .inl e
      ·exact .inr ⟨h,e⟩
   ·rw[e,h,h2]
    simp[Zd]
theorem Vc {rows:List (List Int)}(ok:RowsOk rows){p:List Int}{m:Nat}(hp:Z1 rows.length p=some m) : 0<=(Yz rows p).1/\(Yz rows p).1<=Xk rows rows.length (rows.length-p.length) p/\(Yz rows p).2=0:=by
 have h24:=ok.n2;have hlen:=ZZ h24 hp;obtain⟨hpl,hin,hsub⟩:=XD h24 hp;have num:∀ row∈rows,∀ c,c<rows.length->0<=row.getD c 0:=fun row hr c hc=>(ok.get hr hc).1
 obtain⟨q,h1,h2⟩:=Qh h24 num _ p m hp rfl;have hb:Yz rows p=(Zv rows p+(if p.length<rows.length then ZW (rows.drop p.length) (Zf m) else 0),0):=by unfold Yz;rw[hp]
 have hc:=(VY (B:=2147483647) (rows:=rows) (p:=p) (by omega) fun row hr c hc=>by
  have:=hin c hc;exact ok.get hr (by omega)).1
 rw[hb,h2,Zbw];simp only
 by_cases hlt:p.length<rows.length
 ·rw[if_pos hlt]
  have h3:=Zf0 (rows:=rows.drop p.length) h1 (by rw[List.length_drop];omega) fun row hr c hc=>num row (List.mem_of_mem_drop hr) c (hsub.2 c hc)
  have h4:=ZeB (rows:=rows.drop p.length) (l:=Zf m) (by intro e;rw[e] at hlen;simp at hlen;omega) (by intro e;have:=congrArg List.length e;rw[List.length_drop] at this;simp at this;omega) fun row hr c hc=>ok.get (List.mem_of_mem_drop hr) (hsub.2 c hc)
  exact⟨by omega,by omega,trivial⟩
 ·rw[if_neg hlt]
  have:q=[]:=List.eq_nil_of_length_eq_zero (by rw[h1.length_eq];omega);subst this;have e:Zv (rows.drop p.length) (Zd [])=0:=by cases rows.drop p.length<;>rfl
  rw[e];exact⟨by omega,by omega,trivial⟩
theorem ZaE {n:Nat}(h24:n<=24){p:List Int}{m:Nat}(hp:Z1 n p=some m)(hl:p.length=n) : ∃ l:List Nat,p=Zd l/\l.Perm (List.range n):=by
 obtain⟨l,h1,h2,h3,h4⟩:=Uk h24 hp;have hlen:=ZZ h24 hp;have he:Zf m=[]:=List.eq_nil_of_length_eq_zero (by omega);refine⟨l,h1,(List.perm_ext_iff_of_nodup h2 List.nodup_range).2 fun x=>?_⟩;rw[List.mem_range];refine⟨h3 x,fun hx=>?_⟩
 by_cases hxl:x∈l
 ·exact hxl
 ·exfalso
  have:=(h4 x).2 ⟨hx,hxl⟩;rw[he] at this
  cases this
def ZC (rows:List (List Int)) : Nat->List Nat->Int
 | last,[]=>Za rows last 0
 | last,u::q=>Za rows last u+ZC rows u q
section
variable {rows:List (List Int)}
theorem Q3 {p:List Int}{m:Nat}(hp:Z1 rows.length p=some m) : ∃ l:List Nat,(V2 rows p).1=Zd l/\l.Perm (Zf m)/\(V2 rows p).2=0:=by
 refine⟨Wb (ltC (cfR (rows.getD p.length []))) (Zf m),?_,YU _ _ _,?_⟩<;>(unfold V2;rw[hp])
theorem XT {n:Nat} : Z1 n []=some (2^n-1):=by
 unfold Z1;rw[if_neg (by simp)]
 rfl
end
end Go.Proofs.YtmojhhlcocjoaaaGreatDoor
namespace Go.Proofs.YtmojhhlcocjoaaaGreatDoor
def Xu (rows:List (List Int))(m last:Nat)(cost:Int) : List Int->Option (Nat×Nat×Int)
 | []=>some (m,last,cost)
 | c::p=>if 0<=c/\c<64/\m.testBit c.toNat=true then Xu rows (ZL m c.toNat) c.toNat (cost+Za rows last c.toNat) p else none
def Z5 (rows:List (List Int))(p:List Int) : Option (Nat×Nat×Int):=if rows.length-1<p.length then none else Xu rows (ZL (2^rows.length-1) 0) 0 0 p
def V4 (rows:List (List Int))(p:List Int) : List Int×Int :=
 match Z5 rows p with
 | none=>([],1)
 | some (m,last,_)=>(Zd (Wb (ltC (cfR (rows.getD last []))) (Zf m)),0)
def YR (us:List Nat)(last src:Nat) : List Nat:=if src=last then us else 0::us.filter fun x=>decide (src≠x)
def UE (rows:List (List Int))(us:List Nat)(last src:Nat) : Int:=max (Zs (fun dst=>Za rows src dst) (-1) (YR us last src)) 0
def QD (rows:List (List Int))(us:List Nat)(last dst:Nat) : Int:=Zs (fun src=>Za rows src dst-UE rows us last src) (-1) ((last::us).filter fun src=>decide (dst∈YR us last src))
def ZT (rows:List (List Int))(us:List Nat)(last:Nat) : Int:=Zj ((last::us).map fun src=>UE rows us last src)+Zj ((0::us).map fun dst=>max (QD rows us last dst) 0)
def Yp (p:Int×Int)(n:Int) : Int×Int:=if n<p.1 then(n,p.1) else if n<p.2 then(p.1,n) else p
def ZO (rows:List (List Int))(us:List Nat)(last u:Nat) : Int×Int :=
 (us.filter fun x=>decide (u≠x)).foldl (fun p v=>Yp p (Za rows u v)) (min (Za rows u last) (Za rows u 0),max (Za rows u last) (Za rows u 0))
def Xv (rows:List (List Int))(us:List Nat)(last:Nat) : Int :=
 Zj (us.map fun u=>(ZO rows us last u).1+(ZO rows us last u).2)+Zs (fun u=>Za rows last u) (-1) us+Zs (fun u=>Za rows u 0) (-1) us
def YD (rows:List (List Int))(mirror:Bool)(p:List Int) : Int×Int :=
 match Z5 rows p with
 | none=>(0,1)
 | some (m,last,c)=>(c+(if Zf m=[] then Za rows last 0 else if mirror=true then max (ZT rows (Zf m) last) ((Xv rows (Zf m) last+1) / 2) else ZT rows (Zf m) last),0)
theorem Vi {f:Nat->Int} : ∀ {l:List Nat} {b:Int},(∀ x∈l,0<=f x)->(∀ x∈l,Zs f b l<=f x)/\(0<=b->Zs f b l<=b):=fun {l b} h=>by
 have h1:=Vh (l:=l.map f) (b:=b) fun y hy=>by
  obtain⟨x,hx,rfl⟩:=List.mem_map.1 hy;exact h x hx
 rw[Vq] at h1;exact⟨fun x hx=>h1.1 (f x) (List.mem_map.2 ⟨x,hx,rfl⟩),h1.2⟩
theorem ZaF {f:Nat->Int}{B:Int}{l:List Nat}(h:∀ x∈l,0<=f x/\f x<=B)(hl:l≠[])(hB:0<=B) : 0<=Zs f (-1) l/\Zs f (-1) l<=B:=by
 rw[<-Vq];refine Vg (fun y hy=>?_) (by omega) (.inr (by simpa using hl));obtain⟨x,hx,rfl⟩:=List.mem_map.1 hy;exact h x hx
section
variable {rows:List (List Int)} {us:List Nat} {last:Nat}
theorem ZiW {B:Int}(num:∀ a b,(a=last\/a∈us)->(b=0\/b∈us)->0<=Za rows a b/\Za rows a b<=B){src dst:Nat}(hs:src∈last::us)(hd:dst∈YR us last src) : UE rows us last src+max (QD rows us last dst) 0<=Za rows src dst:=by
 have hcol:∀ {s d:Nat},d∈YR us last s->d=0\/d∈us:=fun {s d} h=>by
  unfold YR at h;split at h
  ·exact .inr h
  ·rcases List.mem_cons.1 h with h | h
   ·exact .inl h
   ·exact .inr (List.mem_filter.1 h).1
 have hsrc:∀ {s:Nat},s∈last::us->s=last\/s∈us:=fun {s} h=>List.mem_cons.1 h
 have hoff:∀ s∈last::us,∀ d∈YR us last s,UE rows us last s<=Za rows s d/\0<=UE rows us last s:=fun s h1 d h2=>by
  have h3:=(Vi (f:=fun dst=>Za rows s dst) (l:=YR us last s) (b:=-1) fun x hx=>(num s x (hsrc h1) (hcol hx)).1).1 d h2;have h4:=(num s d (hsrc h1) (hcol h2)).1;unfold UE;omega
 have h1:=hoff src hs dst hd;have h2:=(Vi (f:=fun src=>Za rows src dst-UE rows us last src) (l:=(last::us).filter fun src=>decide (dst∈YR us last src)) (b:=-1) fun x hx=>by
  have h3:=List.mem_filter.1 hx;have h4:=hoff x h3.1 dst (of_decide_eq_true h3.2);omega).1 src (List.mem_filter.2 ⟨hs,decide_eq_true hd⟩)
 unfold QD;omega
theorem Zfr {F G:Nat->Int} : ∀ (q:List Nat) (s:Nat),(∀ a b,(a,b)∈(s::q).zip (q++[0])->F a+G b<=Za rows a b)->Zj ((s::q).map F)+Zj ((q++[0]).map G)<=ZC rows s q
 | [],s,h=>by
  have:=h s 0 (by simp);simp only[List.map_cons,List.map_nil,List.nil_append,Zj,ZC];omega
 | u::q,s,h=>by
  have h1:=h s u (by simp);have h2:=Zfr q u fun a b hab=>h a b (by
   simp only[List.cons_append,List.zip_cons_cons,List.mem_cons];exact .inr hab)
  simp only[List.map_cons,List.cons_append,Zj,ZC] at h2 ⊢;omega
theorem Zfs : ∀ (q:List Nat) (s a b:Nat),(a,b)∈(s::q).zip (q++[0])->(s::q).Nodup->a∈s::q/\(b=0\/b∈q)/\(a=s->q=[]\/b∈q)/\(b∈q->a≠b\/b=0)
 | [],s,a,b,h,_=>by
  simp at h;obtain⟨rfl,rfl⟩:=h;exact⟨by simp,.inl rfl,fun _=>.inl rfl,fun h=>by cases h⟩
 | u::q,s,a,b,h,hn=>by
  have hn':=List.nodup_cons.1 hn;simp only[List.cons_append,List.zip_cons_cons,List.mem_cons,Prod.mk.injEq] at h;rcases h with⟨rfl,rfl⟩ | h
  ·exact⟨by simp,.inr (by simp),fun _=>.inr (by simp),fun _=>.inl fun e=>hn'.1 (by simp[e])⟩
  ·have ih:=Zfs q u a b h hn'.2
   refine⟨List.mem_cons_of_mem _ ih.1,?_,fun e=>?_,fun hb=>?_⟩
   ·rcases ih.2.1 with h | h
    ·exact .inl h
    ·exact .inr (by simp[h])
   ·subst e
    exact absurd ih.1 hn'.1
   ·rcases List.mem_cons.1 hb with rfl | hb
    ·rcases ih.2.1 with h0 | h0
     ·exact .inr h0
     ·exact absurd h0 (List.nodup_cons.1 hn'.2).1
    ·exact ih.2.2.2 hb
theorem ZeC {B:Int}(num:∀ a b,(a=last\/a∈us)->(b=0\/b∈us)->0<=Za rows a b/\Za rows a b<=B)(hn:(last::us).Nodup)(hu:us≠[])(h0:0∉us){q:List Nat}(hq:q.Perm us) : ZT rows us last<=ZC rows last q:=by
 have hnq:(last::q).Nodup:=(hq.cons last).nodup_iff.2 hn;have h:=Zfr (rows:=rows) (F:=fun src=>UE rows us last src) (G:=fun dst=>max (QD rows us last dst) 0) q last fun a b hab=>by
  obtain⟨z1,z2,z3,z4⟩:=Zfs q last a b hab hnq;refine ZiW num ((hq.cons last).mem_iff.1 z1) ?_;unfold YR
  by_cases e:a=last
  ·rw[if_pos e]
   rcases z3 e with h | h
   ·exfalso
    rw[h] at hq;exact hu (List.Perm.eq_nil (hq.symm))
   ·exact hq.mem_iff.1 h
  ·rw[if_neg e]
   rcases z2 with rfl | h
   ·simp
   ·refine List.mem_cons_of_mem _ (List.mem_filter.2 ⟨hq.mem_iff.1 h,decide_eq_true ?_⟩)
    rcases z4 h with h' | h'
    ·exact h'
    ·subst h'
     exact absurd (hq.mem_iff.1 h) h0
 have e1:=Xp (((hq.cons last)).map fun src=>UE rows us last src);have e2:Zj ((q++[0]).map fun dst=>max (QD rows us last dst) 0)=Zj ((0::us).map fun dst=>max (QD rows us last dst) 0) :=
  Xp (((List.perm_append_comm (l₁:=q) (l₂:=[0])).trans (hq.cons 0)).map _)
 unfold ZT;rw[<-e1,<-e2];exact h
def Two (p:Int×Int)(l:List Int) : Prop:=p.1<=p.2/\(∀ x∈l,p.1<=x)/\l.Pairwise fun x y=>p.1+p.2<=x+y
theorem Two.put {p:Int×Int}{l:List Int}(h:Two p l)(n:Int) : Two (Yp p n) (l++[n]):=by
 obtain⟨h1,h2,h3⟩:=h;have key:∀ {q:Int×Int},q.1<=q.2->q.1<=p.1->q.1<=n->q.1+q.2<=p.1+p.2->(∀ x∈l,q.1+q.2<=x+n)->Two q (l++[n]):=by
  intro q k1 k2 k3 k4 k5;refine⟨k1,fun x hx=>?_,List.pairwise_append.2 ⟨h3.imp fun hxy=>by omega,List.pairwise_singleton _ _,fun x hx y hy=>?_⟩⟩
  ·rcases List.mem_append.1 hx with hx | hx
   ·have:=h2 x hx;omega
   ·obtain rfl:=List.mem_singleton.1 hx;exact k3
  ·obtain rfl:=List.mem_singleton.1 hy
   exact k5 x hx
 unfold Yp;split
 ·exact key (by simp only;omega) (by simp only;omega) (by simp only;omega) (by simp only;omega) fun x hx=>by have:=h2 x hx;simp only;omega
 ·split
  ·exact key (by simp only;omega) (by simp only;omega) (by simp only;omega) (by simp only;omega) fun x hx=>by have:=h2 x hx;simp only;omega
  ·exact key (by omega) (by omega) (by omega) (by omega) fun x hx=>by have:=h2 x hx;omega
theorem Zdf (f:Nat->Int) : ∀ (vs:List Nat) (p:Int×Int) (l:List Int),Two p l->Two (vs.foldl (fun p v=>Yp p (f v)) p) (l++vs.map f)
 | [],p,l,h=>by simpa using h
 | v::vs,p,l,h=>by
  have:=Zdf f vs (Yp p (f v)) (l++[f v]) (h.put (f v))
  simpa using this
theorem Zf1 (rows:List (List Int))(us:List Nat)(last u:Nat) : Two (ZO rows us last u) ([Za rows u last,Za rows u 0]++(us.filter fun x=>decide (u≠x)).map fun v=>Za rows u v):=by
 refine Zdf (fun v=>Za rows u v) _ _ _ ⟨by simp only;omega,fun x hx=>?_,?_⟩
 ·simp at hx
  rcases hx with rfl | rfl<;>(simp only;omega)
 ·simp only[List.pairwise_cons,List.mem_singleton,forall_eq,List.not_mem_nil,false_imp_iff,implies_true,List.Pairwise.nil,and_true]
  omega
theorem Zft {u a b:Nat}(hu:us.Nodup)(ha:a=last\/(a∈us/\u≠a))(hb:b=0\/(b∈us/\u≠b))(hab:a∈us->b∈us->a≠b)(hl:last∉us)(h0:0∉us) : (ZO rows us last u).1+(ZO rows us last u).2<=Za rows u a+Za rows u b:=by
 obtain⟨_,_,h3⟩:=Zf1 rows us last u;rw[List.pairwise_append] at h3;obtain⟨k1,k2,k3⟩:=h3;have m:∀ {x:Nat},x∈us->u≠x->Za rows u x∈(us.filter fun x=>decide (u≠x)).map fun v=>Za rows u v:=fun {x} h1 h2=>List.mem_map.2 ⟨x,List.mem_filter.2 ⟨h1,decide_eq_true h2⟩,rfl⟩
 rcases ha with rfl | ⟨a1,a2⟩
 ·rcases hb with rfl | ⟨b1,b2⟩
  ·simp only[List.pairwise_cons,List.mem_singleton,forall_eq] at k1
   exact k1.1
  ·exact k3 _ (by simp) _ (m b1 b2)
 ·rcases hb with rfl | ⟨b1,b2⟩
  ·have:=k3 (Za rows u 0) (by simp) _ (m a1 a2)
   omega
  ·have hne:=hab a1 b1
   rw[List.pairwise_map] at k2;have hfn:(us.filter fun x=>decide (u≠x)).Nodup:=List.Pairwise.filter _ hu;obtain⟨i,hi,ei⟩:=List.mem_iff_getElem.1 (List.mem_filter.2 ⟨a1,decide_eq_true a2⟩:a∈us.filter fun x=>decide (u≠x));obtain⟨j,hj,ej⟩:=List.mem_iff_getElem.1 (List.mem_filter.2 ⟨b1,decide_eq_true b2⟩:b∈us.filter fun x=>decide (u≠x));rcases Nat.lt_trichotomy i j with h | h | h
   ·have:=List.pairwise_iff_getElem.1 k2 i j hi hj h
    rw[ei,ej] at this;exact this
   ·subst h
    exact absurd (ei.symm.trans ej) hne
   ·have:=List.pairwise_iff_getElem.1 k2 j i hj hi h
    rw[ei,ej] at this;omega
end
end Go.Proofs.YtmojhhlcocjoaaaGreatDoor
namespace Go.Proofs.YtmojhhlcocjoaaaGreatDoor
section
variable {rows:List (List Int)} {us:List Nat} {last:Nat}
def Zdg (rows:List (List Int))(us:List Nat)(last u:Nat) : Int:=(ZO rows us last u).1+(ZO rows us last u).2
def Zhd (rows:List (List Int))(us:List Nat)(last:Nat) : Nat->List Nat->Prop
 | _,[]=>True
 | s,[u]=>Zdg rows us last u<=Za rows s u+Za rows u 0
 | s,u::v::q=>Zdg rows us last u<=Za rows s u+Za rows u v/\Zhd rows us last u (v::q)
theorem Zbx : ∀ (q:List Nat) (s u:Nat),Zhd rows us last s (u::q)->Zj ((u::q).map (Zdg rows us last))+Za rows s u+Za rows ((u::q).getLast (by simp)) 0<=2*ZC rows s (u::q)
 | [],s,u,h=>by
  simp only[Zhd] at h;simp only[List.map_cons,List.map_nil,Zj,List.getLast_singleton,ZC];omega
 | v::q,s,u,h=>by
  simp only[Zhd] at h;have ih:=Zbx q u v h.2;have e:(u::v::q).getLast (by simp)=(v::q).getLast (by simp):=List.getLast_cons (by simp);rw[e];simp only[List.map_cons,Zj,ZC] at ih ⊢;omega
theorem Zfu (sym:∀ a b,(a=last\/a∈us)->(b=last\/b∈us)->Za rows a b=Za rows b a)(hu:us.Nodup)(hl:last∉us)(h0:0∉us) : ∀ (q:List Nat) (s:Nat),q.Nodup->(∀ x∈q,x∈us)->s∉q->(s=last\/s∈us)->Zhd rows us last s q
 | [],_,_,_,_,_=>trivial
 | [u],s,_,hq,hs,hsl=>by
  have huu:=hq u (by simp);have hne:u≠s:=fun e=>hs (by simp[e])
  have:=Zft (rows:=rows) (us:=us) (last:=last) (u:=u) (a:=s) (b:=0) hu (hsl.imp id fun h=>⟨h,hne⟩) (.inl rfl) (fun _ h=>absurd h h0) hl h0;rw[sym u s (.inr huu) hsl] at this;exact this
 | u::v::q,s,hn,hq,hs,hsl=>by
  have huu:=hq u (by simp);have hvv:=hq v (by simp);have hne:u≠s:=fun e=>hs (by simp[e])
  have hn':=List.nodup_cons.1 hn;have huv:u≠v:=fun e=>hn'.1 (by simp[e])
  have hsv:s≠v:=fun e=>hs (by simp[e])
  have:=Zft (rows:=rows) (us:=us) (last:=last) (u:=u) (a:=s) (b:=v) hu (hsl.imp id fun h=>⟨h,hne⟩) (.inr ⟨hvv,huv⟩) (fun _ _=>hsv) hl h0;rw[sym u s (.inr huu) hsl] at this;exact⟨this,Zfu sym hu hl h0 (v::q) u hn'.2 (fun x hx=>hq x (by simp[hx])) hn'.1 (.inr huu)⟩
theorem Zhe (num:∀ a b,(a=last\/a∈us)->(b=0\/b∈us)->0<=Za rows a b)(sym:∀ a b,(a=last\/a∈us)->(b=last\/b∈us)->Za rows a b=Za rows b a)(hu:us.Nodup)(hl:last∉us)(h0:0∉us){q:List Nat}(hq:q.Perm us)(hne:us≠[]) : Xv rows us last<=2*ZC rows last q:=by
 match q,hq with
 | [],hq=>exact absurd (List.Perm.eq_nil hq.symm) hne
 | u::q,hq =>
  have hsub:∀ x∈u::q,x∈us:=fun x hx=>hq.mem_iff.1 hx
  have h1:=Zbx q last u (Zfu sym hu hl h0 (u::q) last (hq.nodup_iff.2 hu) hsub (fun h=>hl (hsub _ h)) (.inl rfl));have h2:=(Vi (f:=fun u=>Za rows last u) (l:=us) (b:=-1) fun x hx=>num last x (.inl rfl) (.inr hx)).1 u (hsub u (by simp));have h3:=(Vi (f:=fun u=>Za rows u 0) (l:=us) (b:=-1) fun x hx=>num x 0 (.inr hx) (.inl rfl)).1 _ (hsub _ (List.getLast_mem (l:=u::q) (by simp)));have e:=Xp (hq.map (Zdg rows us last));have e2:Zj (us.map (Zdg rows us last))=Zj (us.map fun u=>(ZO rows us last u).1+(ZO rows us last u).2):=rfl;unfold Xv;rw[<-e2,<-e];omega
end
def UU : Nat->List Int->Nat
 | s,[]=>s
 | _,c::p=>UU c.toNat p
def UV (rows:List (List Int)) : Nat->List Int->Int
 | _,[]=>0
 | s,c::p=>Za rows s c.toNat+UV rows c.toNat p
theorem Zdh (rows:List (List Int)) : ∀ (p:List Int) (m last:Nat) (cost:Int),Xu rows m last cost p=(Yj m p).map fun q=>(q,UU last p,cost+UV rows last p)
 | [],m,last,cost=>by simp[Xu,Yj,UU,UV]
 | c::p,m,last,cost=>by
  unfold Xu Yj;split
  ·rw[Zdh rows p]
   cases Yj (ZL m c.toNat) p with
   | none=>rfl
   | some q =>
    simp only[Option.map_some,UU,UV,Option.some.injEq,Prod.mk.injEq,true_and];omega
  ·rfl
theorem Vj : ∀ (l:List Nat) (s:Nat),UU s (Zd l)=s\/UU s (Zd l)∈l
 | [],s=>.inl rfl
 | c::l,s=>by
  have ih:=Vj l c;simp only[Zd,List.map_cons,UU,Int.toNat_natCast] at ih ⊢;rcases ih with h | h
  ·right;rw[h];simp
  ·right;simp[h]
theorem JC (rows:List (List Int)) : ∀ (l q:List Nat) (s:Nat),ZC rows s (l++q)=UV rows s (Zd l)+ZC rows (UU s (Zd l)) q
 | [],q,s=>by simp[UV,Zd,UU]
 | c::l,q,s=>by
  have:=JC rows l q c;simp only[List.cons_append,ZC,Zd,List.map_cons,UV,UU,Int.toNat_natCast] at this ⊢;omega
def Vt (n:Nat) : Nat:=ZL (2^n-1) 0
theorem Zby {n:Nat}(h:n<=24) : SubN n (Vt n):=(Xr h).clr 0
theorem Qi {n:Nat}(h:n<=24){x:Nat} : x∈Zf (Vt n)↔x<n/\x≠0:=by
 unfold Vt;rw[XO (Xr h).1,XR (by omega),List.mem_range]
theorem Zf2 {n:Nat}(h1:1<=n)(h:n<=24) : (Zf (Vt n)).length=n-1:=by
 have h2:=VR (Zw (2^n-1)) (i:=0) (by rw[XR (by omega)];simp;omega);rw[<-Qe (Xr h).1,XR (by omega),List.length_range] at h2;unfold Vt;omega
structure WalkOk (rows:List (List Int))(p:List Int)(m last:Nat)(cost:Int)(l:List Nat) : Prop where
 eq:p=Zd l
 nodup:l.Nodup
 inn:∀ x∈l,x<rows.length/\x≠0
 rest:∀ x,x∈Zf m↔(x<rows.length/\x≠0)/\x∉l
 len:(Zf m).length+l.length=rows.length-1
 sub:SubN rows.length m
 last:last=UU 0 (Zd l)
 cost:cost=UV rows 0 (Zd l)
theorem YK {rows:List (List Int)}(h1:1<=rows.length)(h24:rows.length<=24){p:List Int}{m last:Nat}{cost:Int}(h:Z5 rows p=some (m,last,cost)) : ∃ l,WalkOk rows p m last cost l:=by
 unfold Z5 at h;split at h
 ·cases h
 ·rw[Zdh] at h
  cases hf:Yj (ZL (2^rows.length-1) 0) p with
  | none=>rw[hf] at h;cases h
  | some q =>
   rw[hf] at h;simp only[Option.map_some,Option.some.injEq,Prod.mk.injEq] at h;obtain⟨rfl,rfl,rfl⟩:=h;have hs:=Zby h24;obtain⟨l,rfl,a1,a2,a3⟩:=QC hs hf;have a4:=Jz hs hf;rw[Zf2 h1 h24,Zg] at a4;exact⟨l,rfl,a1,fun x hx=>(Qi h24).1 (a2 x hx),fun x=>by rw[a3 x,Qi h24],a4,Jw hs hf,rfl,by omega⟩
theorem ZaG (rows:List (List Int)){c:Nat}(hc64:c<64) : ∀ {p:List Int} {m0 m s last:Nat} {c0 cost:Int},Xu rows m0 s c0 p=some (m,last,cost)->m.testBit c=true->Xu rows m0 s c0 (p++[(c:Int)])=some (ZL m c,c,cost+Za rows last c)
 | [],m0,m,s,last,c0,cost,h,hb=>by
  simp only[Xu,Option.some.injEq,Prod.mk.injEq] at h;obtain⟨rfl,rfl,rfl⟩:=h;show Xu rows m0 s c0 ((c:Int)::[])=_;unfold Xu;rw[if_pos ⟨by omega,by omega,by rw[Int.toNat_natCast];exact hb⟩,Int.toNat_natCast]
  rfl
 | d::p,m0,m,s,last,c0,cost,h,hb=>by
  show Xu rows m0 s c0 (d::(p++[(c:Int)]))=_;unfold Xu at h ⊢;split at h
  ·rename_i hd
   rw[if_pos hd];exact ZaG rows hc64 h hb
  ·cases h
theorem Wz {rows:List (List Int)}(h1:1<=rows.length)(h24:rows.length<=24){p:List Int}{m last:Nat}{cost:Int}(h:Z5 rows p=some (m,last,cost)){c:Nat}(hc:c∈Zf m) : Z5 rows (p++[(c:Int)])=some (ZL m c,c,cost+Za rows last c):=by
 obtain⟨l,W⟩:=YK h1 h24 h;have hpos:0<(Zf m).length:=List.length_pos_of_mem hc;have hlen:=W.len;have hpl:p.length=l.length:=by rw[W.eq,Zg]
 have hb:=Z4.1 hc;unfold Z5 at h ⊢;rw[if_neg (by omega)] at h;rw[if_neg (by rw[List.length_append,List.length_singleton];omega)];exact ZaG rows hb.1 h hb.2
def YS (rows:List (List Int)) : Nat->List Int->Int
 | 0,p=>ZC rows 0 (p.map Int.toNat)
 | f+1,p=>ZH (fun x=>YS rows f (p++[x])) (-1) (match Z5 rows p with | none=>[] | some (m,_,_)=>Zd (Zf m))
theorem Z8 : ∀ l:List Nat,(Zd l).map Int.toNat=l
 | []=>rfl
 | c::l=>by
  have:=Z8 l;simp only[Zd,List.map_cons,Int.toNat_natCast] at this ⊢;rw[this]
theorem V5 {rows:List (List Int)}(num:∀ a b,a<rows.length->b<rows.length->0<=Za rows a b) : ∀ (q:List Nat) (s:Nat),s<rows.length->(∀ x∈q,x<rows.length)->0<=ZC rows s q
 | [],s,hs,_=>num s 0 hs (by omega)
 | u::q,s,hs,h=>by
  have h1:=num s u hs (h u (by simp));have h2:=V5 num q u (h u (by simp)) fun x hx=>h x (by simp[hx])
  simp only[ZC];omega
theorem Vu {rows:List (List Int)}(h1:1<=rows.length)(h24:rows.length<=24)(num:∀ a b,a<rows.length->b<rows.length->0<=Za rows a b) : ∀ (f:Nat) (p:List Int) (m last:Nat) (cost:Int) (l:List Nat),Z5 rows p=some (m,last,cost)->WalkOk rows p m last cost l->f=rows.length-1-p.length->∃ q:List Nat,q.Perm (Zf m)/\YS rows f p=ZC rows 0 (l++q)
 | 0,p,m,last,cost,l,hp,W,hf=>by
  have hlen:=W.len;have hpl:p.length=l.length:=by rw[W.eq,Zg]
  refine⟨[],?_,by rw[List.append_nil];show ZC rows 0 (p.map Int.toNat)=_;rw[W.eq,Z8]⟩;rw[List.eq_nil_of_length_eq_zero (show (Zf m).length=0 by omega)]
 | f+1,p,m,last,cost,l,hp,W,hf=>by
  have hlen:=W.len;have hpl:p.length=l.length:=by rw[W.eq,Zg]
  have ih:∀ c∈Zf m,∃ q:List Nat,q.Perm (Zf (ZL m c))/\YS rows f (p++[(c:Int)])=ZC rows 0 ((l++[c])++q):=fun c hc=>by
   have hs:=Wz h1 h24 hp hc;obtain⟨l',W'⟩:=YK h1 h24 hs;have e:l'=l++[c]:=by
    have:=W'.eq;rw[W.eq] at this;have h2:=congrArg (List.map Int.toNat) this;rw[Z8] at h2;rw[<-h2,List.map_append,Z8]
    rfl
   subst e;exact Vu h1 h24 num f _ _ _ _ _ hs W' (by rw[List.length_append,List.length_singleton];omega)
  have hpos:∀ x∈Zd (Zf m),0<=YS rows f (p++[x]):=fun x hx=>by
   obtain⟨c,hc,rfl⟩:=List.mem_map.1 hx;obtain⟨q,a1,a2⟩:=ih c hc;rw[a2];refine V5 num _ _ (by omega) fun y hy=>?_
   rcases List.mem_append.1 hy with hy | hy
   ·rcases List.mem_append.1 hy with hy | hy
    ·exact(W.inn y hy).1
    ·obtain rfl:=List.mem_singleton.1 hy
     exact((W.rest y).1 hc).1.1
   ·exact((W.rest y).1 ((XO W.sub.1).1 (a1.mem_iff.1 hy)).1).1.1
  have hne:Zf m≠[]:=by
   intro e;rw[e] at hlen;simp at hlen;omega
  have e:YS rows (f+1) p=ZH (fun x=>YS rows f (p++[x])) (-1) (Zd (Zf m)):=by
   show ZH _ (-1) (match Z5 rows p with | none=>[] | some (m,_,_)=>Zd (Zf m))=_;rw[hp]
  rcases Qg (b:=-1) hpos (.inr (by simpa [Zd] using hne)) with⟨_,h⟩ | ⟨x,hx,h⟩
  ·omega
  ·obtain⟨c,hc,rfl⟩:=List.mem_map.1 hx
   obtain⟨q,a1,a2⟩:=ih c hc;refine⟨c::q,?_,?_⟩
   ·refine(a1.cons c).trans ?_
    refine(List.perm_ext_iff_of_nodup ?_ ((Zw m).imp fun h=>Nat.ne_of_lt h)).2 fun x=>?_
    ·refine List.nodup_cons.2 ⟨fun h=>((XO W.sub.1).1 h).2 rfl,(Zw _).imp fun h=>Nat.ne_of_lt h⟩
    ·rw[List.mem_cons,XO W.sub.1]
     constructor
     ·rintro (rfl | ⟨h,_⟩)
      ·exact hc
      ·exact h
     ·intro h
      by_cases e:x=c
      ·exact .inl e
      ·exact .inr ⟨h,e⟩
   ·rw[e,h,a2]
    simp
theorem Ul {rows:List (List Int)}{mirror:Bool}(h1:1<=rows.length)(h24:rows.length<=24)(num:∀ a b,a<rows.length->b<rows.length->0<=Za rows a b/\Za rows a b<=2147483647)(sym:mirror=true->∀ a b,a<rows.length->b<rows.length->Za rows a b=Za rows b a){p:List Int}{m last:Nat}{cost:Int}(hp:Z5 rows p=some (m,last,cost)) :
  0<=(YD rows mirror p).1/\(YD rows mirror p).1<=YS rows (rows.length-1-p.length) p/\(YD rows mirror p).2=0:=by
 obtain⟨l,W⟩:=YK h1 h24 hp;obtain⟨q,a1,a2⟩:=Vu h1 h24 (fun a b x y=>(num a b x y).1) _ p m last cost l hp W rfl;have hll:last<rows.length:=by
  rw[W.last];rcases Vj l 0 with h | h
  ·rw[h];omega
  ·exact(W.inn _ h).1
 have hus:∀ x∈Zf m,x<rows.length:=fun x hx=>((W.rest x).1 hx).1.1
 have h0:0∉Zf m:=fun h=>((W.rest 0).1 h).1.2 rfl
 have hnl:last∉Zf m:=fun h=>by
  have h2:=(W.rest last).1 h;rcases Vj l 0 with h3 | h3
  ·exact h2.1.2 (by rw[W.last,h3])
  ·exact h2.2 (by rw[W.last];exact h3)
 have hnd:(Zf m).Nodup:=(Zw m).imp fun h=>Nat.ne_of_lt h
 have hA:∀ a,(a=last\/a∈Zf m)->a<rows.length:=fun a h=>h.elim (fun e=>by rw[e];exact hll) (hus a)
 have num':∀ a b,(a=last\/a∈Zf m)->(b=0\/b∈Zf m)->0<=Za rows a b/\Za rows a b<=2147483647:=fun a b ha hb=>num a b (hA a ha) (hb.elim (fun e=>by omega) (hus b))
 have hway:0<=cost:=by
  rw[W.cost];have key:∀ (l:List Nat) (s:Nat),s<rows.length->(∀ x∈l,x<rows.length)->0<=UV rows s (Zd l):=by
   intro l
   induction l with
   | nil=>intro s _ _;simp[UV,Zd]
   | cons c l ih =>
    intro s hs h;have h2:=(num s c hs (h c (by simp))).1;have h3:=ih c (h c (by simp)) fun x hx=>h x (by simp[hx])
    simp only[Zd,List.map_cons,UV,Int.toNat_natCast] at h3 ⊢;omega
  exact key l 0 (by omega) fun x hx=>(W.inn x hx).1
 have hb:YD rows mirror p=(cost+(if Zf m=[] then Za rows last 0 else if mirror=true then max (ZT rows (Zf m) last) ((Xv rows (Zf m) last+1) / 2) else ZT rows (Zf m) last),0):=by unfold YD;rw[hp]
 rw[hb,a2,JC,<-W.last,<-W.cost];simp only
 by_cases he:Zf m=[]
 ·rw[if_pos he]
  have:q=[]:=List.Perm.eq_nil (he ▸ a1);subst this;have:=(num' last 0 (.inl rfl) (.inl rfl)).1;exact⟨by omega,by simp only[ZC];omega,trivial⟩
 ·rw[if_neg he]
  have r1:=ZeC num' (List.nodup_cons.2 ⟨hnl,hnd⟩) he h0 a1;have r0:0<=ZT rows (Zf m) last:=by
   have k1:0<=Zj ((last::Zf m).map fun src=>UE rows (Zf m) last src):=Q2 fun x hx=>by
    obtain⟨y,_,rfl⟩:=List.mem_map.1 hx;unfold UE;omega
   have k2:0<=Zj ((0::Zf m).map fun dst=>max (QD rows (Zf m) last dst) 0):=Q2 fun x hx=>by
    obtain⟨y,_,rfl⟩:=List.mem_map.1 hx;omega
   unfold ZT;omega
  cases hm:mirror with
  | false=>exact⟨by simp only[if_neg (show ¬(false=true) by simp)];omega,by simp only[if_neg (show ¬(false=true) by simp)];omega,trivial⟩
  | true =>
   have r2:=Zhe (fun a b x y=>(num' a b x y).1) (fun a b ha hb=>sym hm a b (hA a ha) (hA b hb)) hnd hnl h0 a1 he;simp only[if_true];refine⟨by omega,by omega,trivial⟩
end Go.Proofs.YtmojhhlcocjoaaaGreatDoor
namespace Go.Proofs.YtmojhhlcocjoaaaGreatDoor
theorem QE {f:Int->Int} : ∀ {l:List Int} {b:Int},(∀ x∈l,0<=f x)->(∀ x∈l,ZH f b l<=f x)/\(0<=b->ZH f b l<=b)
 | [],b,_=>⟨(fun x h=>by simp at h),fun _=>Int.le_refl _⟩
 | x::l,b,h=>by
  have hx:=h x (by simp);have ih:=QE (f:=f) (l:=l) (b:=if b<0 then f x else if f x<b then f x else b) (fun y hy=>h y (by simp[hy]));have h2:=ih.2 (by split<;>(try split)<;>omega);unfold ZH;refine⟨fun y hy=>?_,fun hb=>?_⟩
  ·rcases List.mem_cons.1 hy with rfl | hy
   ·refine Int.le_trans h2 ?_
    split<;>(try split)<;>omega
   ·exact ih.1 y hy
  ·refine Int.le_trans h2 ?_
   split<;>(try split)<;>omega
theorem Zbz {m c:Nat}(hm:m<18446744073709551616){q:List Nat}(h:(c::q).Perm (Zf m)) : q.Perm (Zf (ZL m c)):=by
 have hnd:(c::q).Nodup:=h.nodup_iff.2 ((Zw m).imp fun h=>Nat.ne_of_lt h);obtain⟨h1,h2⟩:=List.nodup_cons.1 hnd;refine(List.perm_ext_iff_of_nodup h2 ((Zw _).imp fun h=>Nat.ne_of_lt h)).2 fun x=>?_
 rw[XO hm,<-h.mem_iff,List.mem_cons]
 constructor
 ·intro hx
  exact⟨.inr hx,fun e=>h1 (e ▸ hx)⟩
 ·rintro ⟨rfl | hx,hne⟩
  ·exact absurd rfl hne
  ·exact hx
theorem ZaH {rows:List (List Int)}(h24:rows.length<=24)(num:∀ row∈rows,∀ c,c<rows.length->0<=row.getD c 0) : ∀ (f:Nat) (p:List Int) (m:Nat),Z1 rows.length p=some m->f=rows.length-p.length->∀ q:List Nat,q.Perm (Zf m)->Xk rows rows.length f p<=Zv rows (p++Zd q)
 | 0,p,m,hp,hf=>fun q hq=>by
  have hlen:=ZZ h24 hp;have h0:q=[]:=List.eq_nil_of_length_eq_zero (by rw[hq.length_eq];omega);subst h0;simp[Xk,Zd]
 | f+1,p,m,hp,hf=>fun q hq=>by
  have hlen:=ZZ h24 hp;have hsub:=(XD h24 hp).2.2;have hpos:∀ x∈Zd (Zf m),0<=Xk rows rows.length f (p++[x]):=fun x hx=>by
   obtain⟨c,hc,rfl⟩:=List.mem_map.1 hx;obtain⟨q',h1,h2⟩:=Qh h24 num f _ _ (XS h24 hp hc) (by rw[List.length_append,List.length_singleton];omega);rw[h2];have hin:=(XD h24 hp).2.1;have:∀ (rs:List (List Int)) (l:List Int),(∀ row∈rs,row∈rows)->(∀ x∈l,0<=x/\x<rows.length)->0<=Zv rs l:=by
    intro rs
    induction rs with
    | nil=>intro l _ _;simp[Zv]
    | cons r rs ihr =>
     intro l h3 h4
     cases l with
     | nil=>simp[Zv]
     | cons d l =>
      have h5:=h4 d (by simp);have h6:=num r (h3 r (by simp)) d.toNat (by omega);have h7:=ihr l (fun y hy=>h3 y (by simp[hy])) (fun y hy=>h4 y (by simp[hy]));simp only[Zv];omega
   refine this rows _ (fun _ h=>h) fun y hy=>?_
   rcases List.mem_append.1 hy with hy | hy
   ·rcases List.mem_append.1 hy with hy | hy
    ·exact hin y hy
    ·obtain rfl:=List.mem_singleton.1 hy
     have:=hsub.2 c hc;omega
   ·obtain⟨d,hd,rfl⟩:=List.mem_map.1 hy
    have:=hsub.2 d (((XO hsub.1).1 (h1.mem_iff.1 hd)).1);omega
  have e:Xk rows rows.length (f+1) p=ZH (fun x=>Xk rows rows.length f (p++[x])) (-1) (Zd (Zf m)):=by
   show ZH _ (-1) (match Z1 rows.length p with | none=>[] | some m=>Zd (Zf m))=_;rw[hp]
  rw[e]
  cases q with
  | nil =>
   have:=hq.length_eq;simp at this;omega
  | cons c q =>
   have hc:c∈Zf m:=hq.mem_iff.1 (by simp);refine Int.le_trans ((QE hpos).1 (c:Int) (List.mem_map.2 ⟨c,hc,rfl⟩)) ?_;have h:=ZaH h24 num f _ _ (XS h24 hp hc) (by rw[List.length_append,List.length_singleton];omega) q (Zbz hsub.1 hq);have e2:p++Zd (c::q)=p++[(c:Int)]++Zd q:=by simp[Zd]
   rw[e2];exact h
theorem ZaI {rows:List (List Int)}(h1:1<=rows.length)(h24:rows.length<=24)(num:∀ a b,a<rows.length->b<rows.length->0<=Za rows a b) : ∀ (f:Nat) (p:List Int) (m last:Nat) (cost:Int) (l:List Nat),Z5 rows p=some (m,last,cost)->WalkOk rows p m last cost l->f=rows.length-1-p.length->∀ q:List Nat,q.Perm (Zf m)->YS rows f p<=ZC rows 0 (l++q)
 | 0,p,m,last,cost,l,hp,W,hf=>fun q hq=>by
  have hlen:=W.len;have hpl:p.length=l.length:=by rw[W.eq,Zg]
  have h0:q=[]:=List.eq_nil_of_length_eq_zero (by rw[hq.length_eq];omega);subst h0;rw[List.append_nil];show ZC rows 0 (p.map Int.toNat)<=_;rw[W.eq,Z8];exact Int.le_refl _
 | f+1,p,m,last,cost,l,hp,W,hf=>fun q hq=>by
  have hlen:=W.len;have hpl:p.length=l.length:=by rw[W.eq,Zg]
  have nx:∀ c∈Zf m,∃ (m' last':Nat) (cost':Int),Z5 rows (p++[(c:Int)])=some (m',last',cost')/\m'=ZL m c/\WalkOk rows (p++[(c:Int)]) m' last' cost' (l++[c]):=fun c hc=>by
   have hs:=Wz h1 h24 hp hc;obtain⟨l',W'⟩:=YK h1 h24 hs;have e:l'=l++[c]:=by
    have:=W'.eq;rw[W.eq] at this;have h2:=congrArg (List.map Int.toNat) this;rw[Z8] at h2;rw[<-h2,List.map_append,Z8]
    rfl
   subst e;exact⟨_,_,_,hs,rfl,W'⟩
  have hpos:∀ x∈Zd (Zf m),0<=YS rows f (p++[x]):=fun x hx=>by
   obtain⟨c,hc,rfl⟩:=List.mem_map.1 hx;obtain⟨m',last',cost',hs,rfl,W'⟩:=nx c hc;obtain⟨q',a1,a2⟩:=Vu h1 h24 num f _ _ _ _ _ hs W' (by rw[List.length_append,List.length_singleton];omega);rw[a2];refine V5 num _ _ (by omega) fun y hy=>?_
   rcases List.mem_append.1 hy with hy | hy
   ·exact(W'.inn y hy).1
   ·exact((W'.rest y).1 (a1.mem_iff.1 hy)).1.1
  have e:YS rows (f+1) p=ZH (fun x=>YS rows f (p++[x])) (-1) (Zd (Zf m)):=by
   show ZH _ (-1) (match Z5 rows p with | none=>[] | some (m,_,_)=>Zd (Zf m))=_;rw[hp]
  rw[e]
  cases q with
  | nil =>
   have:=hq.length_eq;simp at this;omega
  | cons c q =>
   have hc:c∈Zf m:=hq.mem_iff.1 (by simp);refine Int.le_trans ((QE hpos).1 (c:Int) (List.mem_map.2 ⟨c,hc,rfl⟩)) ?_;obtain⟨m',last',cost',hs,rfl,W'⟩:=nx c hc;have h:=ZaI h1 h24 num f _ _ _ _ _ hs W' (by rw[List.length_append,List.length_singleton];omega) q (Zbz W.sub.1 hq);rw[List.append_assoc] at h;exact h
def pkB (b c:Int) : Int:=if 0<=c/\(b<0\/c<b) then c else b
def XG (cap:Int)(ws vs:List Int) : Nat->List Int->Int
 | 0,x=>if cap<Zr x ws then -1 else ZE x vs
 | f+1,x=>pkB (pkB (-1) (XG cap ws vs f (x++[0]))) (XG cap ws vs f (x++[1]))
def Zcp (n:Nat)(x y:List Int) : Prop:=(∃ s,y=x++s)/\y.length=n/\∀ v∈y,v=0\/v=1
theorem Zf3 {n:Nat}{x y:List Int}(h:Zcp n x y)(hl:x.length<n) : Zcp n (x++[0]) y\/Zcp n (x++[1]) y:=by
 obtain⟨⟨s,rfl⟩,h1,h2⟩:=h
 cases s with
 | nil=>simp at h1;omega
 | cons a s =>
  rcases h2 a (by simp) with rfl | rfl
  ·exact .inl ⟨⟨s,by simp⟩,h1,h2⟩
  ·exact .inr ⟨⟨s,by simp⟩,h1,h2⟩
theorem ZbA {n:Nat}{x y:List Int}{b:Int}(h:Zcp n (x++[b]) y) : Zcp n x y:=by
 obtain⟨⟨s,rfl⟩,h1,h2⟩:=h;exact⟨⟨b::s,by simp⟩,h1,h2⟩
theorem JD {vs:List Int}(hv:∀ x∈vs,0<=x) : ∀ (x:List Int),0<=ZE x vs:=fun x=>by
 unfold ZE;refine XU fun z hz=>?_
 obtain⟨k,hk,rfl⟩:=List.mem_iff_getElem.1 hz;rw[List.getElem_zipWith];have:=hv _ (List.getElem_mem (by simp at hk;omega:k<vs.length));split<;>omega
theorem V6 {cap:Int}{ws vs:List Int}{n:Nat}(hv:∀ x∈vs,0<=x) : ∀ (f:Nat) (x:List Int),(∀ v∈x,v=0\/v=1)->x.length+f=n ->
  (XG cap ws vs f x=-1\/∃ y,Zcp n x y/\Zr y ws<=cap/\XG cap ws vs f x=ZE y vs)/\∀ y,Zcp n x y->Zr y ws<=cap->0<=XG cap ws vs f x/\XG cap ws vs f x<=ZE y vs
 | 0,x,h01,hl=>by
  unfold XG
  by_cases hc:cap<Zr x ws
  ·rw[if_pos hc]
   refine⟨.inl rfl,fun y hy hy2=>?_⟩;obtain⟨⟨s,rfl⟩,h1,h2⟩:=hy;have:s=[]:=List.eq_nil_of_length_eq_zero (by simp at h1;omega);subst this;rw[List.append_nil] at hy2;omega
  ·rw[if_neg hc]
   refine⟨.inr ⟨x,⟨⟨[],by simp⟩,by omega,h01⟩,by omega,rfl⟩,fun y hy hy2=>?_⟩;obtain⟨⟨s,rfl⟩,h1,h2⟩:=hy;have:s=[]:=List.eq_nil_of_length_eq_zero (by simp at h1;omega);subst this;rw[List.append_nil];exact⟨JD hv x,Int.le_refl _⟩
 | f+1,x,h01,hl=>by
  have g0:∀ v∈x++[0],v=0\/v=1:=fun v hv=>by
   rcases List.mem_append.1 hv with h | h
   ·exact h01 v h
   ·exact .inl (List.mem_singleton.1 h)
  have g1:∀ v∈x++[1],v=0\/v=1:=fun v hv=>by
   rcases List.mem_append.1 hv with h | h
   ·exact h01 v h
   ·exact .inr (List.mem_singleton.1 h)
  obtain⟨a1,a2⟩:=V6 (cap:=cap) (ws:=ws) (n:=n) hv f (x++[0]) g0 (by simp;omega);obtain⟨b1,b2⟩:=V6 (cap:=cap) (ws:=ws) (n:=n) hv f (x++[1]) g1 (by simp;omega);have e:XG cap ws vs (f+1) x=pkB (pkB (-1) (XG cap ws vs f (x++[0]))) (XG cap ws vs f (x++[1])):=rfl;rw[e];have a3:-1<=XG cap ws vs f (x++[0]):=by
   rcases a1 with h | ⟨y,_,_,h⟩
   ·omega
   ·have:=JD hv y;omega
  have b3:-1<=XG cap ws vs f (x++[1]):=by
   rcases b1 with h | ⟨y,_,_,h⟩
   ·omega
   ·have:=JD hv y;omega
  generalize XG cap ws vs f (x++[0])=a at *;generalize XG cap ws vs f (x++[1])=b at *;have e1:pkB (-1) a=a:=by
   unfold pkB;split<;>omega
  rw[e1];have e2:(pkB a b=a/\(b=-1\/(0<=a/\a<=b)))\/(pkB a b=b/\0<=b/\(a=-1\/b<a)):=by
   unfold pkB;split<;>omega
  constructor
  ·rcases e2 with⟨h,_⟩ | ⟨h,_⟩
   ·rw[h]
    rcases a1 with h2 | ⟨y,h3,h4,h5⟩
    ·exact .inl h2
    ·exact .inr ⟨y,ZbA h3,h4,h5⟩
   ·rw[h]
    rcases b1 with h2 | ⟨y,h3,h4,h5⟩
    ·exact .inl h2
    ·exact .inr ⟨y,ZbA h3,h4,h5⟩
  ·intro y hy hc
   rcases Zf3 hy (by omega) with h | h
   ·have:=a2 y h hc
    omega
   ·have:=b2 y h hc
    omega
theorem Zfv : ∀ (n:Nat) (y:List Int),y.length=n->(∀ v∈y,v=0\/v=1)->∃ m,m<2^n/\y=xB m n
 | 0,y,h,_=>⟨0,by simp,by rw[List.eq_nil_of_length_eq_zero h];rfl⟩
 | n+1,y,h,h01=>by
  obtain⟨z,b,rfl⟩:∃ z b,y=z++[b]:=by
   have hne:y≠[]:=fun e=>by rw[e] at h;simp at h
   exact⟨y.dropLast,y.getLast hne,(List.dropLast_concat_getLast hne).symm⟩
  obtain⟨m,hm,rfl⟩:=Zfv n z (by simpa using h) (fun v hv=>h01 v (by simp[hv]));have e0:m.testBit n=false:=Nat.testBit_lt_two_pow hm;have hp:2^(n+1)=2^n+2^n:=by rw[Nat.pow_succ];omega
  rcases h01 b (by simp) with rfl | rfl
  ·refine⟨m,by omega,?_⟩
   unfold xB;rw[List.range_succ,List.map_append,List.map_singleton,e0]
   rfl
  ·refine⟨2^n+m,by omega,?_⟩
   unfold xB;rw[List.range_succ,List.map_append,List.map_singleton,Nat.testBit_two_pow_add_eq,e0]
   congr 1
   refine List.map_congr_left fun j hj=>?_
   rw[Nat.testBit_two_pow_add_gt (List.mem_range.1 hj)]
def Z9 (co:List (List Int)) : List Nat->Int
 | []=>0
 | u::q=>ZC co u q
theorem Vv {rows:List (List Int)}(num:∀ a b,a<rows.length->b<rows.length->0<=Za rows a b/\Za rows a b<=2147483647) : ∀ (q:List Nat) (s:Nat),s<rows.length->(∀ x∈q,x<rows.length)->0<=ZC rows s q/\ZC rows s q<=2147483647*((q.length:Int)+1)
 | [],s,hs,_=>by have:=num s 0 hs (by omega);simp only[ZC,List.length_nil];omega
 | u::q,s,hs,h=>by
  have h1:=num s u hs (h u (by simp));have h2:=Vv num q u (h u (by simp)) fun x hx=>h x (by simp[hx])
  simp only[ZC,List.length_cons];omega
theorem UW {l:List Nat}{k y:Nat}(h:l[k]?=some y) : (Zd l)[k]?=some (y:Int):=by simp[Zd,h]
end Go.Proofs.YtmojhhlcocjoaaaGreatDoor
namespace Go.Proofs.YtmojhhlcocjoaaaGreatDoor
open Go.RowKit Go.ChangeShapes Go.WideShapes Go.ChangeAt Go.Deep
def WX (rows:List (List Int)) : Bool:=decide (∀ x,x<rows.length->∀ y,y<x->Za rows x y=Za rows y x)
theorem ZbB {rows:List (List Int)}(h:∀ x,x<rows.length->∀ y,y<x->Za rows x y=Za rows y x) : WX rows=true:=decide_eq_true h
theorem ZaJ {rows:List (List Int)}{x y:Nat}(hx:x<rows.length)(hy:y<x)(h:Za rows x y≠Za rows y x) : WX rows=false:=decide_eq_false fun k=>h (k x hx y hy)
theorem Zhf {rows:List (List Int)}(h:WX rows=true)(a b:Nat)(ha:a<rows.length)(hb:b<rows.length) : Za rows a b=Za rows b a:=by
 have k:=of_decide_eq_true h;rcases Nat.lt_trichotomy a b with hc | hc | hc
 ·exact(k b hb a hc).symm
 ·subst hc;rfl
 ·exact k a ha b hc
theorem ZeD (i:InstP)(us:List Value)(w:World)(H:RInst w us i)(hc:Zh i=0)(hk:i.kind=3) :
  Calls Tryz.prog 74 #[.agg (List.toArray us)] w fun e w'=>e=.returned (.bool (WX i.cost))/\Ext w w':=by
 have ok:=Zp hc (by omega);have lw:i.weight.length<=1000000000:=by rw[ok.w];simp
 have lv:i.value.length<=1000000000:=by rw[ok.v];simp
 have CH:=fun(W:World) (x:Ext w W)=>YM i us W (H.ext x) lw lv
 rw[hc] at CH;have rok:=ZF ok;have n24:=rok.n2;clear ok lw lv hc;obtain⟨kind,nn,cap,xw,xv,co⟩:=i;obtain⟨A,a,B,b,D,d,rfl,-,-,⟨hC,-,-⟩⟩:=H;simp only at *;subst hk;have B1:Hid (Blk (w.alloc (.cells #[.int .i64 3,.int .i64 nn,.int .i64 cap,.slice A xw.length a,.slice B xv.length b,.slice D co.length d] 25)) w.heap.size 25 #[.int .i64 3,.int .i64 nn,.int .i64 cap,.slice A xw.length a,.slice B xv.length b,.slice D co.length d]):=.new rfl;replace CH:=Hd CH;replace hC:=Hd hC;replace rok:=Hd rok;obtain⟨mm,hmm⟩:∃ mm,Hid (WX co=mm):=⟨_,rfl⟩;rw[hmm.out];go_enter Tryz.func74,Tryz.ntmps74;go_wp2_with (fail);refine(CH.out _ (by(repeat (first | assumption | exact Ext.rf _ | apply Ext.drew | apply Ext.drewN | apply Ext.alloc)))).mono ?_;rintro e w1 ⟨rfl,x1⟩;have X1:=Hd (Ext.tr (a:=w) (by(repeat (first | assumption | exact Ext.rf _ | apply Ext.drew | apply Ext.drewN | apply Ext.alloc))) x1);have BB:=Hd (B1.out.ext x1);have d5:=BB.out.c5;clear x1;go_wp2_with (fail);go_loopw [17] (fun v wr=>∃ k:Nat,v=.int .i64 k/\k<=co.length/\Hid (∀ x,x<k->∀ y,y<x->Za co x y=Za co y x)/\Hid (Ext w1 wr)) (fun v _=>co.length-(intOf v).toNat)
 case atStart=>exact⟨0,rfl,by omega,fun x hx=>absurd hx (Nat.not_lt_zero _),Ext.rf _⟩
 case round =>
  obtain⟨wo,rfl⟩:∃ wo:World,wo=wr:=⟨_,rfl⟩;obtain⟨k,rfl,hk,HS,Y⟩:=hrel
  by_cases hlt:k<co.length
  ·have XW:Hid (Ext w wo):=X1.out.tr Y.out
   obtain⟨cb,cof,D',row,d',rfl,zb,cD,er,_,rD,iD,ld,md⟩:=(hC.out.ext XW.out fun _ _ h=>h.ext XW.out).ints hlt;have lrow:=rok.out.row row (List.mem_of_getElem? er.out);have q1:(k:Int)<(co.length:Int):=by omega
   replace er:=Hd er.out;replace rD:=Hd rD;go_wp2_with (fail);go_loopw [23] (fun v wr=>∃ j:Nat,v=.int .i64 j/\j<=k/\Hid (∀ y,y<j->Za co k y=Za co y k)/\Hid (Ext wo wr)) (fun v _=>k-(intOf v).toNat)
   case atStart=>exact⟨0,rfl,by omega,fun y hy=>absurd hy (Nat.not_lt_zero _),Ext.rf _⟩
   case round =>
    obtain⟨wi,rfl⟩:∃ wi:World,wi=wr:=⟨_,rfl⟩;obtain⟨j,rfl,hj,HJ,Z⟩:=hrel;have XZ:=Hd (Ext.tr (a:=w) (XW.out) Z.out)
    by_cases hlj:j<k
    ·obtain⟨cb',cof',D2,row2,d2,hq,zb2,cD2,er2,_,rD2,iD2,ld2,md2⟩:=(hC.out.ext XZ.out fun _ _ h=>h.ext XZ.out).ints (r:=j) (by omega)
     obtain⟨rfl,rfl⟩:cb=cb'/\cof=cof':=by simpa using hq
     have lrow2:=rok.out.row row2 (List.mem_of_getElem? er2.out);obtain⟨rb,ro,x,rfl,zx,cx,ex,_⟩:=(rD.out.ext Z.out).at (k:=j) (by omega);obtain⟨rb2,ro2,y,rfl,zy,cy,ey,_⟩:=rD2.at (k:=k) (by omega);have d5':wi.cell? ⟨w.heap.size,5,none⟩=some (.slice (some ⟨cb,cof,none⟩) co.length d):=((BB.out.ext Y.out).ext Z.out).cell 5;have exy:Hid (Za co k j=x/\Za co j k=y):=by
      refine⟨?_,?_⟩
      ·unfold Za;rw[getD_some er.out,getD_some ex.out]
      ·unfold Za;rw[getD_some er2.out,getD_some ey.out]
     have q2:(j:Int)<(co.length:Int):=by omega
     have q3:(j:Int)<(row.length:Int):=by omega
     have q4:(k:Int)<(row2.length:Int):=by omega
     replace ex:=Hd ex.out;replace ey:=Hd ey.out;replace er2:=Hd er2.out;replace rD2:=Hd rD2;clear hq
     by_cases hxy:x=y
     ·subst hxy
      have t0:(x != x)=false:=by simp
      have NX:Hid (∀ yy,yy<j+1->Za co k yy=Za co yy k):=fun yy hy=>by
       by_cases e:yy=j
       ·subst e;rw[exy.out.1,exy.out.2]
       ·exact HJ.out yy (by omega)
      go_wp2_with (fail);go_quiet (fail);go_wp2_with (fail);go_roundw
      case rel=>exact⟨j+1,by go_num,by omega,NX,Z.out.drewN _⟩
      case measure=>simp[intOf];omega
     ·have t0:(x != y)=true:=by simpa using hxy
      have HM:Hid (mm=false):=Hd (by
       rw[<-hmm.out];exact ZaJ hlt hlj (by rw[exy.out.1,exy.out.2];exact hxy))
      go_wp2_with (fail);go_quiet (fail);go_wp2_with (fail);go_ret;rw[HM.out];exact⟨rfl,XZ.out.drewN _⟩
    ·obtain rfl:j=k:=by omega
     have q2:¬(j:Int)<(j:Int):=by omega
     have HS3:Hid (∀ x,x<j+1->∀ y,y<x->Za co x y=Za co y x):=fun x hx=>by
      by_cases e:x=j
      ·subst e;exact HJ.out
      ·exact HS.out x (by omega)
     have YZ:=Hd (Y.out.tr Z.out);go_wp2_with (fail);go_roundw
     case rel=>exact⟨j+1,by go_num,by omega,HS3,YZ.out⟩
     case measure=>simp[intOf];omega
  ·obtain rfl:k=co.length:=by omega
   have HM:Hid (mm=true):=Hd (by
    rw[<-hmm.out];exact ZbB HS.out)
   have q2:¬(co.length:Int)<(co.length:Int):=by omega
   have XW:=Hd (X1.out.tr Y.out);go_wp2_with (fail);go_ret;rw[HM.out];exact⟨rfl,XW.out⟩
def Zt : Int->List Int->Int
 | b,[]=>b
 | b,x::l=>Zt (if 0<=x/\(b<0\/x<b) then x else b) l
theorem WC {B:Int} : ∀ {l:List Int} {b:Int},(∀ x∈l,x<=B)->b<=B->Zt b l<=B
 | [],b,_,h=>h
 | x::l,b,h,hb=>by
  unfold Zt;refine WC (fun y hy=>h y (by simp[hy])) ?_;have:=h x (by simp);split<;>omega
def Qm (c:Nat)(b:Int) : List (List Int)->List Int->Int
 | row::rows,o::off=>Qm c (if 0<=row.getD c 0/\(b<0\/row.getD c 0-o<b) then row.getD c 0-o else b) rows off
 | _,_=>b
theorem Zfw {c:Nat}{B:Int} : ∀ {rows:List (List Int)} {off:List Int} {b:Int},(∀ row∈rows,row.getD c 0<=B)->(∀ o∈off,0<=o)->b<=B->Qm c b rows off<=B
 | [],off,b,_,_,h=>by cases off<;>exact h
 | _::_,[],b,_,_,h=>h
 | row::rows,o::off,b,hr,ho,hb=>by
  have h1:=hr row (by simp);have h2:=ho o (by simp);unfold Qm;refine Zfw (fun q hq=>hr q (by simp[hq])) (fun q hq=>ho q (by simp[hq])) ?_;split<;>omega
def Wg (ms:List (List Int)) : List Int:=ms.map fun row=>max (Zt (-1) row) 0
def Wp (ms:List (List Int))(L:Nat) : List Int:=(List.range L).map fun c=>max (Qm c (-1) ms (Wg ms)) 0
def YY (ms:List (List Int))(L:Nat) : Int:=Zj (Wg ms)+Zj (Wp ms L)
theorem Zcq (ms:List (List Int))(L:Nat)(M:Option Addr)(mc:Nat)(w:World)(hM:RdE 1 RInts w M ms)(hl:∀ row∈ms,row.length=L)(h0:0<L)(hL:L<=24)(hn0:0<ms.length)(hn:ms.length<=24)(num:∀ row∈ms,∀ x∈row,x<=2147483647) :
  Calls Tryz.prog 152 #[.slice M ms.length mc] w fun e w'=>e=.returned (.int .i64 (YY ms L))/\Ext w w':=by
 have LO:(Wg ms).length=ms.length:=by simp[Wg]
 have OB:∀ x∈Wg ms,0<=x/\x<=2147483647:=fun x hx=>by
  obtain⟨row,hr,rfl⟩:=List.mem_map.1 hx;have:=WC (b:=-1) (num row hr) (by omega);omega
 have OG:∀ k row,ms[k]?=some row->(Wg ms)[k]?=some (max (Zt (-1) row) 0):=fun k row h=>by unfold Wg;rw[List.getElem?_map,h];rfl
 have CB:∀ x∈Wp ms L,0<=x/\x<=2147483647:=fun x hx=>by
  obtain⟨c,hc,rfl⟩:=List.mem_map.1 hx;have:=Zfw (c:=c) (b:=-1) (B:=2147483647) (rows:=ms) (off:=Wg ms) (fun row hr=>by
   have hcl:c<row.length:=by rw[hl row hr];exact List.mem_range.1 hc
   have e:row.getD c 0=row[c]:=by simp[List.getD,hcl]
   rw[e];exact num row hr _ (List.getElem_mem hcl)) (fun o ho=>(OB o ho).1) (by omega)
  omega
 have CG:∀ c,c<L->(Wp ms L)[c]?=some (max (Qm c (-1) ms (Wg ms)) 0):=fun c hc=>by simp[Wp,hc]
 have LC:(Wp ms L).length=L:=by simp[Wp]
 have TOT:Hid (YY ms L=Zj (Wg ms)+Zj (Wp ms L)):=rfl;generalize YY ms L=tot at *;have SB:=Xj OB (by omega);have SC:=Xj CB (by omega);have LZ:=ZaD (Wg ms);generalize Wg ms=off at *;generalize Wp ms L=cols at *;have START:Hid (Ext w (w.alloc (.cells #[.int .i64 0,.int .i64 0,.int .i64 0,.int .i64 0,.int .i64 0,.int .i64 0,.int .i64 0,.int .i64 0,.int .i64 0,.int .i64 0,.int .i64 0,.int .i64 0,.int .i64 0,.int .i64 0,.int .i64 0,.int .i64 0,.int .i64 0,.int .i64 0,.int .i64 0,.int .i64 0,.int .i64 0,.int .i64 0,.int .i64 0,.int .i64 0,.int .i64 0,.int .i64 0,.int .i64 0,.int .i64 0,.int .i64 0,.int .i64 0] 229))/\Blk (w.alloc (.cells #[.int .i64 0,.int .i64 0,.int .i64 0,.int .i64 0,.int .i64 0,.int .i64 0,.int .i64 0,.int .i64 0,.int .i64 0,.int .i64 0,.int .i64 0,.int .i64 0,.int .i64 0,.int .i64 0,.int .i64 0,.int .i64 0,.int .i64 0,.int .i64 0,.int .i64 0,.int .i64 0,.int .i64 0,.int .i64 0,.int .i64 0,.int .i64 0,.int .i64 0,.int .i64 0,.int .i64 0,.int .i64 0,.int .i64 0,.int .i64 0] 229)) w.heap.size 229 (Vr off 0)) :=
  ⟨(Ext.rf _).alloc _,by rw[LZ];exact .new rfl⟩
 replace LO:=Hd LO;replace OB:=Hd OB;replace OG:=Hd OG;replace CB:=Hd CB;replace CG:=Hd CG;replace LC:=Hd LC;replace SB:=Hd SB;replace SC:=Hd SC;replace hl:=Hd hl;replace num:=Hd num;replace hM:=Hd hM;clear LZ;go_enter Tryz.func152,Tryz.ntmps152;go_wp2_with (fail);go_loopw [5,3] (fun v s wr=>∃ k:Nat,v=.int .i64 k/\s=.int .i64 (Zj (off.take k))/\k<=ms.length/\Hid (Ext w wr/\Blk wr w.heap.size 229 (Vr off k))) (fun v _ _=>ms.length-(intOf v).toNat)
 case atStart=>exact⟨0,rfl,rfl,by omega,START⟩
 case round =>
  obtain⟨wo,rfl⟩:∃ wo:World,wo=wr:=⟨_,rfl⟩;obtain⟨k,rfl,rfl,hk,HH⟩:=hrel;clear START
  by_cases hlt:k<ms.length
  ·obtain⟨Y,bL⟩:=HH.out
   obtain⟨mb,mo,D,row,d,rfl,_,cD,er,_,rD,iD,ld,md⟩:=(hM.out.ext Y fun _ _ h=>h.ext Y).ints hlt;have hr:=List.mem_of_getElem? er.out;have eo:=OG.out k row er.out;have ob:=OB.out _ (List.mem_of_getElem? eo);have hrl:Hid (row.length=L):=hl.out row hr;have q1:(k:Int)<(ms.length:Int):=by omega
   obtain⟨o0,ho⟩:∃ o0,Hid (Zt (-1) row=o0):=⟨_,rfl⟩;rw[ho.out] at eo ob;obtain⟨o,hoo⟩:∃ o,Hid (o=max o0 0):=⟨_,rfl⟩;rw[<-hoo.out] at eo ob;have SN:=YC eo;have sb1:=SB.out k;obtain⟨s,hs⟩:∃ s,Hid (s=Zj (off.take k)):=⟨_,rfl⟩;rw[<-hs.out] at SN sb1 ⊢;have hnum:=Hd (num.out row hr);have zD:=World.block_lt_of_cell? _ _ cD;replace SN:=Hd SN;replace eo:=Hd eo;replace Y:=Hd Y;replace bL:=Hd bL;replace rD:=Hd rD;replace iD:=Hd iD;clear er HH hr;go_wp2_with (fail);go_loopw [7,6] (fun v bv wr=>∃ (j:Nat) (bb:Int),v=.int .i64 j/\bv=.int .i64 bb/\j<=row.length/\Hid (Zt bb (row.drop j)=o0)/\Hid (Ext wo wr)) (fun v _ _=>row.length-(intOf v).toNat)
   case atStart=>exact⟨0,-1,rfl,rfl,by omega,ho,Ext.rf _⟩
   case round =>
    obtain⟨wi,rfl⟩:∃ wi:World,wi=wr:=⟨_,rfl⟩;obtain⟨j,bb,rfl,rfl,hj,HB,YI⟩:=hrel;have cD':wi.cell? ⟨mb,mo+k,none⟩=some (.slice D row.length d):=Zc YI.out zD cD
    by_cases hjl:j<row.length
    ·obtain⟨rb,ro,x,rfl,_,cx,ex,dx⟩:=(rD.out.ext YI.out).at hjl
     have q2:(j:Int)<(row.length:Int):=by omega
     have hx:=hnum.out x (List.mem_of_getElem? ex.out);have HB2:Hid (Zt (if 0<=x/\(bb<0\/x<bb) then x else bb) (row.drop (j+1))=o0):=by
      have h:=HB.out;rw[dx.out] at h;exact h
     clear HB ex dx hx
     by_cases hx0:0<=x
     ·by_cases hb0:bb<0
      ·rw[if_pos ⟨hx0,.inl hb0⟩] at HB2
       go_wp2_with (fail);go_roundw
       case rel=>exact⟨j+1,x,by go_num,rfl,by omega,HB2,YI⟩
       case measure=>simp[intOf];omega
      ·by_cases hxb:x<bb
       ·rw[if_pos ⟨hx0,.inr hxb⟩] at HB2
        go_wp2_with (fail);go_roundw
        case rel=>exact⟨j+1,x,by go_num,rfl,by omega,HB2,YI⟩
        case measure=>simp[intOf];omega
       ·rw[if_neg (by omega)] at HB2
        go_wp2_with (fail);go_roundw
        case rel=>exact⟨j+1,bb,by go_num,rfl,by omega,HB2,YI⟩
        case measure=>simp[intOf];omega
     ·rw[if_neg (by omega)] at HB2
      go_wp2_with (fail);go_roundw
      case rel=>exact⟨j+1,bb,by go_num,rfl,by omega,HB2,YI⟩
      case measure=>simp[intOf];omega
    ·have q2:¬(j:Int)<(row.length:Int):=by omega
     have hbo:bb=o0:=by
      have h:=HB.out;rw[List.drop_of_length_le (by omega)] at h;exact h
     obtain rfl:=hbo;have bI:=bL.out.ext YI.out;have fl:=bI.free k;have k30:(k:Int)<30:=by omega
     have hw1:IntKind.i64.wrap (s+o)=s+o:=IntWalk.i64_in _ (by omega);have NX:Hid (Ext w (wi.setCell ⟨w.heap.size,k,none⟩ (.int .i64 o))/\Blk (wi.setCell ⟨w.heap.size,k,none⟩ (.int .i64 o)) w.heap.size 229 (Vr off (k+1))):=by
      refine⟨(Y.out.tr YI.out).setNew (p:=⟨w.heap.size,k,none⟩) (Nat.le_refl _) _,?_⟩;rw[<-Zbv (by omega) eo.out];exact bI.set k _
     have cl:wi.cell? ⟨w.heap.size,k,none⟩=some (.int .i64 (if k<k then off.getD k 0 else 0)):=by rw[bI.cell,Vs (by omega)]
     clear HB bI ho
     by_cases nb:bb<0
     ·obtain rfl:o=0:=by rw[hoo.out];omega
      clear hoo;go_wp2_with (first | go_quiet (fail) | go_region);go_roundw
      case rel=>exact⟨k+1,by go_num,by rw[SN.out];first | rfl | (congr 1;omega) | simp,by omega,NX.out⟩
      case measure=>simp[intOf];omega
     ·obtain rfl:o=bb:=by rw[hoo.out];omega
      clear hoo;go_wp2_with (first | go_quiet (fail) | go_region);go_roundw
      case rel=>exact⟨k+1,by go_num,by rw[SN.out],by omega,NX.out⟩
      case measure=>simp[intOf];omega
  ·obtain rfl:k=ms.length:=by omega
   have q1:¬(ms.length:Int)<(ms.length:Int):=by omega
   have SO:Hid (Zj (off.take ms.length)=Zj off):=Hd (by rw[<-LO.out,List.take_length]);have so:=SB.out ms.length;rw[SO.out] at so ⊢;obtain⟨Y,bL⟩:=HH.out;replace Y:=Hd Y;replace bL:=Hd bL;have TOT2:Hid (tot=Zj off+Zj cols):=TOT.out;obtain⟨s0,hs0⟩:∃ s0,Hid (s0=Zj off):=⟨_,rfl⟩;rw[<-hs0.out] at so TOT2 ⊢;clear HH SO TOT SB;go_wp2_with (fail);go_loopw [8,3] (fun v s wr=>∃ c:Nat,v=.int .i64 c/\s=.int .i64 (s0+Zj (cols.take c))/\c<=L/\Hid (Ext wo wr)) (fun v _ _=>L-(intOf v).toNat)
   case atStart=>exact⟨0,rfl,by rw[List.take_zero];simp[Zj],by omega,Ext.rf _⟩
   case round =>
    obtain⟨wp,rfl⟩:∃ wp:World,wp=wr:=⟨_,rfl⟩;obtain⟨c,rfl,rfl,hc,YP⟩:=hrel;have sc1:=SC.out c;obtain⟨mb,mo,D0,row0,d0,rfl,zb,cD0,er0,_,_,_,_,_⟩:=(hM.out.ext (Y.out.tr YP.out) fun _ _ h=>h.ext (Y.out.tr YP.out)).ints (r:=0) hn0;have hl0:row0.length=L:=hl.out row0 (List.mem_of_getElem? er0.out);rw[hl0] at cD0;rw[Nat.add_zero] at cD0;clear er0 hl0
    by_cases hcl:c<L
    ·have q2:(c:Int)<(L:Int):=by omega
     have ec:=CG.out c hcl;obtain⟨c0v,hcv⟩:∃ cv,Hid (Qm c (-1) ms off=cv):=⟨_,rfl⟩;rw[hcv.out] at ec;obtain⟨cv,hcc⟩:∃ cv,Hid (cv=max c0v 0):=⟨_,rfl⟩;rw[<-hcc.out] at ec;have cb:=CB.out _ (List.mem_of_getElem? ec);have SN:=YC ec;obtain⟨s1,hs1⟩:∃ s1,Hid (s1=Zj (cols.take c)):=⟨_,rfl⟩;rw[<-hs1.out] at SN sc1 ⊢;replace SN:=Hd SN;clear ec;go_wp2_with (fail);go_loopw [10,9] (fun v bv wr=>∃ (k:Nat) (bb:Int),v=.int .i64 k/\bv=.int .i64 bb/\k<=ms.length/\Hid (Qm c bb (ms.drop k) (off.drop k)=c0v)/\Hid (Ext wp wr)) (fun v _ _=>ms.length-(intOf v).toNat)
     case atStart=>exact⟨0,-1,rfl,rfl,by omega,hcv,Ext.rf _⟩
     case round =>
      obtain⟨wi,rfl⟩:∃ wi:World,wi=wr:=⟨_,rfl⟩;obtain⟨k,bb,rfl,rfl,hk,HB,YI⟩:=hrel
      by_cases hkl:k<ms.length
      ·have YA:=(Y.out.tr YP.out).tr YI.out
       obtain⟨mb',mo',D,row,d,hq,_,cD,er,dr,rD,iD,ld,md⟩:=(hM.out.ext YA fun _ _ h=>h.ext YA).ints hkl;obtain⟨rfl,rfl⟩:mb=mb'/\mo=mo':=by simpa using hq
       have hr:=List.mem_of_getElem? er.out;have eo:=OG.out k row er.out;have hrl:=hl.out row hr;obtain⟨rb,ro,x,rfl,_,cx,ex,_⟩:=rD.at (k:=c) (by omega);have hx:=num.out row hr x (List.mem_of_getElem? ex.out);have ob:=OB.out _ (List.mem_of_getElem? eo);obtain⟨o,ho⟩:∃ o,Hid (max (Zt (-1) row) 0=o):=⟨_,rfl⟩;rw[ho.out] at eo ob;have dof:off.drop k=o::off.drop (k+1):=by
        have hkl2:k<off.length:=by rw[LO.out];exact hkl
        rw[List.drop_eq_getElem_cons hkl2];rw[List.getElem?_eq_getElem hkl2] at eo;rw[Option.some.inj eo]
       have HB2:Hid (Qm c (if 0<=x/\(bb<0\/x-o<bb) then x-o else bb) (ms.drop (k+1)) (off.drop (k+1))=c0v):=by
        have h:=HB.out;rw[dr.out,dof,Qm,getD_some ex.out] at h;exact h
       have cl:wi.cell? ⟨w.heap.size,k,none⟩=some (.int .i64 o):=by
        rw[((bL.out.ext YP.out).ext YI.out).cell,Vs (by omega),if_pos hkl,getD_some eo]
       have q3:(k:Int)<(ms.length:Int):=by omega
       have q4:(c:Int)<(row.length:Int):=by omega
       have k30:(k:Int)<30:=by omega
       replace hrl:=Hd hrl;clear HB ex er dr eo dof hr hq rD
       by_cases hx0:0<=x
       ·have t0:decide (0<=x)=true:=decide_eq_true hx0
        have hw2:IntKind.i64.wrap (x-o)=x-o:=IntWalk.i64_in _ (by omega)
        by_cases hb0:bb<0
        ·rw[if_pos ⟨hx0,.inl hb0⟩] at HB2
         have t1:decide (bb<0)=true:=decide_eq_true hb0;go_wp2_with (fail);go_quiet (fail);go_wp2_with (fail);go_quiet (fail);go_wp2_with (fail);go_roundw
         case rel=>exact⟨k+1,x-o,by go_num,rfl,by omega,HB2,YI.out.drewN _⟩
         case measure=>simp[intOf];omega
        ·have t1:decide (bb<0)=false:=decide_eq_false hb0
         by_cases hxb:x-o<bb
         ·rw[if_pos ⟨hx0,.inr hxb⟩] at HB2
          have t2:decide (x-o<bb)=true:=decide_eq_true hxb;go_wp2_with (fail);go_quiet (fail);go_wp2_with (fail);go_quiet (fail);go_wp2_with (fail);go_roundw
          case rel=>exact⟨k+1,x-o,by go_num,rfl,by omega,HB2,YI.out.drewN _⟩
          case measure=>simp[intOf];omega
         ·rw[if_neg (by omega)] at HB2
          have t2:decide (x-o<bb)=false:=decide_eq_false hxb;go_wp2_with (fail);go_quiet (fail);go_wp2_with (fail);go_roundw
          case rel=>exact⟨k+1,bb,by go_num,rfl,by omega,HB2,YI.out.drewN _⟩
          case measure=>simp[intOf];omega
       ·have t0:decide (0<=x)=false:=decide_eq_false hx0
        rw[if_neg (by omega)] at HB2;go_wp2_with (fail);go_quiet (fail);go_wp2_with (fail);go_roundw
        case rel=>exact⟨k+1,bb,by go_num,rfl,by omega,HB2,YI.out.drewN _⟩
        case measure=>simp[intOf];omega
      ·have q3:¬(k:Int)<(ms.length:Int):=by omega
       have hbo:bb=c0v:=by
        have h:=HB.out;rw[List.drop_of_length_le (by omega)] at h;exact h
       obtain rfl:=hbo;have hw1:IntKind.i64.wrap (s0+s1+cv)=s0+s1+cv:=IntWalk.i64_in _ (by omega);clear HB hcv
       by_cases nb:bb<0
       ·obtain rfl:cv=0:=by rw[hcc.out];omega
        clear hcc;go_wp2_with (fail);go_roundw
        case rel=>exact⟨c+1,by go_num,by rw[SN.out];first | (rw[Int.add_zero]) | rfl | simp,by omega,YP.out.tr YI.out⟩
        case measure=>simp[intOf];omega
       ·obtain rfl:cv=bb:=by rw[hcc.out];omega
        clear hcc;go_wp2_with (fail);go_roundw
        case rel=>exact⟨c+1,by go_num,by rw[SN.out,Int.add_assoc],by omega,YP.out.tr YI.out⟩
        case measure=>simp[intOf];omega
    ·obtain rfl:c=L:=by omega
     have q2:¬(c:Int)<(c:Int):=by omega
     have FIN:Hid (s0+Zj (cols.take c)=tot):=Hd (by rw[TOT2.out,<-LC.out,List.take_length]);go_wp2_with (fail);go_ret;exact⟨ZM FIN.out,Y.out.tr YP.out⟩
theorem QF {f:Nat->Int} : ∀ {l:List Nat} {b:Int},(∀ x∈l,0<=f x)->(0<=b\/l≠[])->(Zs f b l=b/\0<=b)\/∃ x∈l,Zs f b l=f x
 | [],b,_,h=>by
  rcases h with h | h
  ·exact .inl ⟨rfl,h⟩
  ·exact absurd rfl h
 | x::l,b,h,_=>by
  have hx:=h x (by simp);have ih:=QF (f:=f) (l:=l) (b:=if b<0 then f x else if f x<b then f x else b) (fun y hy=>h y (by simp[hy])) (.inl (by split<;>(try split)<;>omega));have e:Zs f b (x::l)=Zs f (if b<0 then f x else if f x<b then f x else b) l:=rfl;rw[e];rcases ih with⟨e,_⟩ | ⟨y,hy,e⟩
  ·rw[e]
   split
   ·exact .inr ⟨x,by simp,rfl⟩
   ·split
    ·exact .inr ⟨x,by simp,rfl⟩
    ·exact .inl ⟨rfl,by omega⟩
  ·exact .inr ⟨y,by simp[hy],e⟩
theorem Zdi {f:Nat->Int}{l l':List Nat}(hp:l.Perm l')(h:∀ x∈l,0<=f x) : Zs f (-1) l=Zs f (-1) l':=by
 by_cases hl:l=[]
 ·subst hl
  rw[List.Perm.eq_nil hp.symm]
 ·have h':∀ x∈l',0<=f x:=fun x hx=>h x (hp.mem_iff.2 hx)
  have hl':l'≠[]:=fun e=>hl (List.Perm.eq_nil (e ▸ hp))
  rcases QF h (b:=-1) (.inr hl) with⟨_,h1⟩ | ⟨x,hx,h1⟩
  ·omega
  ·rcases QF h' (b:=-1) (.inr hl') with⟨_,h2⟩ | ⟨y,hy,h2⟩
   ·omega
   ·have a1:=(Vi (b:=-1) h).1 y (hp.mem_iff.2 hy)
    have a2:=(Vi (b:=-1) h').1 x (hp.mem_iff.1 hx);omega
theorem Um {f g:Nat->Int} : ∀ {l:List Nat} {b:Int},(∀ x∈l,f x=g x)->Zs f b l=Zs g b l
 | [],_,_=>rfl
 | x::l,b,h=>by
  show Zs f (if b<0 then f x else if f x<b then f x else b) l=Zs g (if b<0 then g x else if g x<b then g x else b) l;rw[h x (by simp)];exact Um fun y hy=>h y (by simp[hy])
theorem ZaK (f:Nat->Int) : ∀ (l:List Nat) (b:Int),Zt b (l.map f)=Zs f b (l.filter fun x=>decide (0<=f x))
 | [],b=>rfl
 | x::l,b=>by
  show Zt (if 0<=f x/\(b<0\/f x<b) then f x else b) (l.map f)=_;rw[ZaK f l]
  by_cases h:0<=f x
  ·rw[List.filter_cons_of_pos (by simpa using h)]
   show _=Zs f (if b<0 then f x else if f x<b then f x else b) _
   congr 1
   split<;>split<;>(try split)<;>omega
  ·rw[List.filter_cons_of_neg (by simpa using h),if_neg (fun h2=>h h2.1)]
theorem Zdj (r:Nat->List Int)(o:Nat->Int)(c:Nat) : ∀ (S:List Nat) (b:Int),Qm c b (S.map r) (S.map o)=Zs (fun s=>(r s).getD c 0-o s) b (S.filter fun s=>decide (0<=(r s).getD c 0))
 | [],b=>rfl
 | s::S,b=>by
  simp only[List.map_cons,Qm];rw[Zdj r o c S]
  by_cases h:0<=(r s).getD c 0
  ·rw[List.filter_cons_of_pos (by simpa using h)]
   show _=Zs _ (if b<0 then(r s).getD c 0-o s else if (r s).getD c 0-o s<b then(r s).getD c 0-o s else b) _
   congr 1
   split<;>split<;>(try split)<;>omega
  ·rw[List.filter_cons_of_neg (by simpa using h),if_neg (fun h2=>h h2.1)]
section
variable {rows:List (List Int)} {us:List Nat} {last:Nat}
def XH (rows:List (List Int))(us:List Nat)(last src dst:Nat) : Int:=if dst∈YR us last src then Za rows src dst else -1
def Wv (rows:List (List Int))(us:List Nat)(last:Nat) : List (List Int):=(last::us).map fun src=>(us++[0]).map fun dst=>XH rows us last src dst
theorem J1 (num:∀ a b,(a=last\/a∈us)->(b=0\/b∈us)->0<=Za rows a b){src dst:Nat}(hs:src∈last::us)(hd:dst∈us++[0]) : decide (0<=XH rows us last src dst)=decide (dst∈YR us last src):=by
 have h:=num src dst (List.mem_cons.1 hs) (by
  rcases List.mem_append.1 hd with h | h
  ·exact .inr h
  ·exact .inl (List.mem_singleton.1 h))
 unfold XH
 by_cases hc:dst∈YR us last src
 ·rw[if_pos hc,decide_eq_true hc,decide_eq_true h]
 ·rw[if_neg hc,decide_eq_false hc]
  rfl
theorem Zhg (num:∀ a b,(a=last\/a∈us)->(b=0\/b∈us)->0<=Za rows a b)(hl:last∉us)(h0:0∉us) : Wg (Wv rows us last)=(last::us).map fun src=>UE rows us last src:=by
 unfold Wg Wv;rw[List.map_map];refine List.map_congr_left fun src hs=>?_
 show max (Zt (-1) ((us++[0]).map fun dst=>XH rows us last src dst)) 0=UE rows us last src;have hf:(us++[0]).filter (fun x=>decide (0<=XH rows us last src x))=(us++[0]).filter fun x=>decide (x∈YR us last src):=List.filter_congr fun x hx=>J1 num hs hx
 rw[ZaK,hf];have e1:Zs (fun dst=>XH rows us last src dst) (-1) ((us++[0]).filter fun x=>decide (x∈YR us last src))=Zs (fun dst=>Za rows src dst) (-1) ((us++[0]).filter fun x=>decide (x∈YR us last src)):=Um fun x hx=>by
  unfold XH;rw[if_pos (of_decide_eq_true (List.mem_filter.1 hx).2)]
 have e2:((us++[0]).filter fun x=>decide (x∈YR us last src)).Perm (YR us last src):=by
  unfold YR
  by_cases e:src=last
  ·rw[if_pos e,List.filter_append,List.filter_eq_self.2 (fun x hx=>decide_eq_true hx),List.filter_cons_of_neg (by simpa using h0)]
   simp
  ·rw[if_neg e,List.filter_append]
   have a1:us.filter (fun x=>decide (x∈0::us.filter fun x=>decide (src≠x)))=us.filter fun x=>decide (src≠x):=List.filter_congr fun x hx=>by
    rw[decide_eq_decide,List.mem_cons,List.mem_filter]
    constructor
    ·rintro (h | h)
     ·subst h;exact absurd hx h0
     ·exact of_decide_eq_true h.2
    ·exact fun h=>.inr ⟨hx,decide_eq_true h⟩
   have a2:[0].filter (fun x=>decide (x∈0::us.filter fun x=>decide (src≠x)))=[0]:=by simp
   rw[a1,a2];exact List.perm_append_comm (l₂:=[0])
 rw[e1,Zdi e2 fun x hx=>num src x (List.mem_cons.1 hs) (by
  rcases List.mem_append.1 (List.mem_filter.1 hx).1 with h | h
  ·exact .inr h
  ·exact .inl (List.mem_singleton.1 h))]
 rfl
theorem Q4 {f:Nat->Int}{D:List Nat}{c d:Nat}(h:D[c]?=some d) : (D.map f).getD c 0=f d:=by
 simp[List.getD,h]
theorem J2 (num:∀ a b,(a=last\/a∈us)->(b=0\/b∈us)->0<=Za rows a b)(hl:last∉us)(h0:0∉us) : YY (Wv rows us last) (us.length+1)=ZT rows us last:=by
 have ho:=Zhg num hl h0;have hc:∀ (c d:Nat),(us++[0])[c]?=some d->Qm c (-1) (Wv rows us last) (Wg (Wv rows us last))=QD rows us last d:=fun c d hd=>by
  rw[ho];unfold Wv;refine Eq.trans (Zdj (fun src=>(us++[0]).map fun dst=>XH rows us last src dst) (fun src=>UE rows us last src) c (last::us) (-1)) ?_;have hdm:=List.mem_of_getElem? hd;have e1:(last::us).filter (fun s=>decide (0<=((us++[0]).map fun dst=>XH rows us last s dst).getD c 0))=(last::us).filter fun s=>decide (d∈YR us last s):=List.filter_congr fun s hs=>by
   rw[Q4 hd];exact J1 num hs hdm
  rw[e1];unfold QD;refine Um fun s hs=>?_
  rw[Q4 hd];unfold XH;rw[if_pos (of_decide_eq_true (List.mem_filter.1 hs).2)]
 unfold YY ZT;rw[ho]
 congr 1
 have e2:Wp (Wv rows us last) (us.length+1)=(us++[0]).map fun dst=>max (QD rows us last dst) 0:=by
  have hr:(List.range (us.length+1)).map (fun c=>(us++[0]).getD c 0)=us++[0]:=by
   apply List.ext_getElem
   ·simp
   ·intro k h1 h2
    rw[List.getElem_map,List.getElem_range];simp only[List.getD];rw[List.getElem?_eq_getElem h2]
    rfl
  refine Eq.trans ?_ (congrArg (List.map fun dst=>max (QD rows us last dst) 0) hr);rw[List.map_map];unfold Wp;refine List.map_congr_left fun c hcr=>?_
  have hk:c<(us++[0]).length:=by
   have:=List.mem_range.1 hcr;simp only[List.length_append,List.length_singleton];exact this
  obtain⟨d,hd⟩:∃ d,(us++[0])[c]?=some d:=⟨_,List.getElem?_eq_getElem hk⟩;have e3:(us++[0]).getD c 0=d:=getD_some hd;simp only[Function.comp_apply];rw[hc c d hd,e3]
 rw[e2];exact Xp ((List.perm_append_comm (l₁:=us) (l₂:=[0])).map _)
theorem Zic : (Wv rows us last).length=us.length+1:=by simp[Wv]
theorem Zid : ∀ row∈Wv rows us last,row.length=us.length+1:=fun row h=>by
 obtain⟨s,_,rfl⟩:=List.mem_map.1 h;simp
theorem Zie {B:Int}(hB:0<=B)(num:∀ a b,(a=last\/a∈us)->(b=0\/b∈us)->0<=Za rows a b/\Za rows a b<=B) : ∀ row∈Wv rows us last,∀ x∈row,-1<=x/\x<=B:=fun row h x hx=>by
 obtain⟨s,hs,rfl⟩:=List.mem_map.1 h;obtain⟨d,hd,rfl⟩:=List.mem_map.1 hx;have h2:=num s d (List.mem_cons.1 hs) (by
  rcases List.mem_append.1 hd with h | h
  ·exact .inr h
  ·exact .inl (List.mem_singleton.1 h))
 unfold XH;split<;>omega
end
section
variable {rows:List (List Int)}
theorem Q5 {p:List Int}{m last:Nat}{cost:Int}(hp:Z5 rows p=some (m,last,cost)) : ∃ l:List Nat,(V4 rows p).1=Zd l/\l.Perm (Zf m)/\(V4 rows p).2=0:=by
 refine⟨Wb (ltC (cfR (rows.getD last []))) (Zf m),?_,YU _ _ _,?_⟩<;>(unfold V4;rw[hp])
theorem JE (h1:1<=rows.length)(h24:rows.length<=24){p:List Int}{m last:Nat}{cost:Int}(h:Z5 rows p=some (m,last,cost)) : (Zf m).length+p.length=rows.length-1:=by
 obtain⟨l,W⟩:=YK h1 h24 h;have:=W.len;rw[W.eq,Zg];exact this
theorem YX : Z5 rows []=some (Vt rows.length,0,0):=by
 unfold Z5;rw[if_neg (by simp)]
 rfl
end
end Go.Proofs.YtmojhhlcocjoaaaGreatDoor
namespace Go.Proofs.YtmojhhlcocjoaaaGreatDoor
open Go.RowKit Go.ChangeShapes Go.WideShapes Go.ChangeAt Go.Deep
theorem Zdk (m i:Nat)(hm:m<18446744073709551616)(hi:i<64)(w:World) : Calls Tryz.prog 139 #[setV m,.int .i64 i] w fun e w'=>e=.returned (setV (m ||| 2^i))/\Ext w w':=by
 unfold setV;have K:=bits_or_u64_nat m (2^i) hm (Nat.pow_lt_pow_right (by omega) hi);have sh:=Zg6 i hi;generalize 2^i=b2 at *;generalize m ||| b2=z at *
 replace K:=Hd K;replace sh:=Hd sh;have B1':Blk ((w.alloc (.cells #[.int .u64 m,.int .u64 0] 141)).alloc (.cells #[.int .u64 0,.int .u64 0] 141)) w.heap.size 141 #[.int .u64 m,.int .u64 0]:=.alloc (.new rfl) _;have B2:Blk ((w.alloc (.cells #[.int .u64 m,.int .u64 0] 141)).alloc (.cells #[.int .u64 0,.int .u64 0] 141)) (w.heap.size+1) 141 #[.int .u64 0,.int .u64 0]:=.new (by simp);have B1:Blk (w.alloc (.cells #[.int .u64 m,.int .u64 0] 141)) w.heap.size 141 #[.int .u64 m,.int .u64 0]:=.new rfl;go_enter Tryz.func139,Tryz.ntmps139;go_wp2_with (fail);refine(Zey _ _).mono ?_;rintro e w1 ⟨rfl,x1⟩;have e1:(decide (0<=(i:Int))&&decide ((i:Int)<128))=true:=by simp;omega
 rw[e1];have c0:w1.cell? ⟨w.heap.size,0,none⟩=some (.int .u64 m):=(B1'.ext x1).cell 0;have c1:w1.cell? ⟨w.heap.size,1,none⟩=some (.int .u64 0):=(B1'.ext x1).cell 1;have f0:=(B1'.ext x1).free 0;have r0:w1.cell? ⟨w.heap.size+1,0,none⟩=some (.int .u64 0):=(B2.ext x1).cell 0;have r1:w1.cell? ⟨w.heap.size+1,1,none⟩=some (.int .u64 0):=(B2.ext x1).cell 1;have g0:=(B2.ext x1).free 0;have g1:=(B2.ext x1).free 1;have X1:=Hd (Ext.tr (a:=w) (by(repeat (first | assumption | exact Ext.rf _ | apply Ext.drew | apply Ext.drewN | apply Ext.alloc))) x1);replace K:=K.out;replace sh:=sh.out;have wz:IntKind.i64.wrap 0=0:=by decide
 have q1:(i:Int) / 64=0:=by omega
 have q2:(i:Int).tmod 64=(i:Int):=by rw[Int.tmod_eq_emod_of_nonneg (by omega)];omega
 have bA:=B1'.ext x1;have bR:=B2.ext x1;clear x1 B1' B2 e1 c1 f0 r0 r1 g0 g1;have bA2:=Hd (bA.set 0 (.int .u64 z));have bR2:=Hd (bR.far (p:=⟨w.heap.size,0,none⟩) (by simp) (.int .u64 z));have X2:=Hd (X1.out.setNew (p:=⟨w.heap.size,0,none⟩) (Nat.le_refl _) (.int .u64 z));have fA:w1.frozen? ⟨w.heap.size,0,none⟩=false:=bA.free 0;go_upto_region 2 with(fail);refine wp_region_any (by kernel_rfl) ?_
 change wpAny _ _ _ _ _ _ _ (World.drew _)
 refine Zb (i:=0) (op:=Op.move (Operand.tmp 1)) (t:=3) (d:=some 7) (v:=?_) rfl (by decide +kernel) (by decide +kernel) (by decide +kernel) (fun _ _ _ h=>h) ?_ ?_
 case refine_2=>(intro _;unfold Ze;go_simp;try with_reducible rfl)
 try simp only[lay]
 refine Zb (i:=1) (op:=Op.binOp BinOp.quo 3 (Operand.tmp 7) (Operand.const (Value.int IntKind.i64 64)) 3) (t:=3) (d:=some 8) (v:=?_) rfl (by decide +kernel) (by decide +kernel) (by decide +kernel) (fun _ _ _ h=>h) ?_ ?_
 case refine_2=>(intro _;unfold Ze;go_simp;try with_reducible rfl)
 try simp only[lay]
 refine Zb (i:=2) (op:=Op.indexAddr 141 (Operand.tmp 2) (Operand.tmp 8)) (t:=0) (d:=some 9) (v:=?_) rfl (by decide +kernel) (by decide +kernel) (by decide +kernel) (fun _ _ _ h=>h) ?_ ?_
 case refine_2=>(intro _;unfold Ze;go_simp;try with_reducible rfl)
 try simp only[lay]
 refine Zb (i:=4) (op:=Op.move (Operand.tmp 1)) (t:=3) (d:=some 11) (v:=?_) rfl (by decide +kernel) (by decide +kernel) (by decide +kernel) (fun _ _ _ h=>h) ?_ ?_
 case refine_2=>(intro _;unfold Ze;go_simp;try with_reducible rfl)
 try simp only[lay]
 refine Zb (i:=5) (op:=Op.binOp BinOp.rem 3 (Operand.tmp 11) (Operand.const (Value.int IntKind.i64 64)) 3) (t:=3) (d:=some 12) (v:=?_) rfl (by decide +kernel) (by decide +kernel) (by decide +kernel) (fun _ _ _ h=>h) ?_ ?_
 case refine_2=>(intro _;unfold Ze;go_simp;try with_reducible rfl)
 try simp only[lay]
 refine Zb (i:=6) (op:=Op.binOp BinOp.shl 53 (Operand.const (Value.int IntKind.u64 1)) (Operand.tmp 12) 3) (t:=53) (d:=some 13) (v:=?_) rfl (by decide +kernel) (by decide +kernel) (by decide +kernel) (fun _ _ _ h=>h) ?_ ?_
 case refine_2=>(intro _;unfold Ze;go_simp;try with_reducible rfl)
 try simp only[lay]
 refine Zm 3 (by decide +kernel) (Zy (T:=53) (x:=Operand.tmp 9) (t:=53) (d:=some 10) rfl (.pointer (some ⟨w.heap.size,0,none⟩)) (by kernel_rfl) (.int .u64 m) (by go_simp) ?_)
 try simp only[lay]
 refine Zb (i:=7) (op:=Op.binOp BinOp.or 53 (Operand.tmp 10) (Operand.tmp 13) 53) (t:=53) (d:=some 14) (v:=?_) rfl (by decide +kernel) (by decide +kernel) (by decide +kernel) (fun _ _ _ h=>h) ?_ ?_
 case refine_2=>(intro _;unfold Ze;go_simp;try with_reducible rfl)
 try simp only[lay]
 refine Zb (i:=8) (op:=Op.indexAddr 141 (Operand.tmp 2) (Operand.tmp 8)) (t:=0) (d:=some 15) (v:=?_) rfl (by decide +kernel) (by decide +kernel) (by decide +kernel) (fun _ _ _ h=>h) ?_ ?_
 case refine_2=>(intro _;unfold Ze;go_simp;try with_reducible rfl)
 try simp only[lay]
 refine Zm 9 (by decide +kernel) (Wk rfl (.pointer (some ⟨w.heap.size,0,none⟩)) (.int .u64 z) (by kernel_rfl) (by kernel_rfl) (by go_simp;rfl) ?_);refine wpAny_done (by kernel_rfl) ?_ _;clear c0 fA bA bR X1 hm K sh;generalize w1.setCell ⟨w.heap.size,0,none⟩ (.int .u64 z)=w2 at *;clear w1;have c0:=bA2.out.c0;have c1:=bA2.out.c1;have r0:=bR2.out.c0;have r1:=bR2.out.c1;have g0:=bR2.out.free 0;have g1:=bR2.out.free 1;go_simp;go_wp2_with (fail);refine bodyPost_ret (v:=.agg #[.int .u64 z,.int .u64 0]) (by simp[results,Tryz.results139,go_sem, *]) rfl ⟨rfl,?_⟩;exact((X2.out.setNew (p:=⟨w.heap.size+1,0,none⟩) (by simp) _).setNew (p:=⟨w.heap.size+1,1,none⟩) (by simp) _).drew
theorem ZeE (rows:List (List Int))(m last:Nat)(cost c:Int)(p:List Int) : Xu rows m last cost (c::p)=if 0<=c/\c<64/\m.testBit c.toNat=true then Xu rows (ZL m c.toNat) c.toNat (cost+Za rows last c.toNat) p else none:=rfl
end Go.Proofs.YtmojhhlcocjoaaaGreatDoor
namespace Go.Proofs.YtmojhhlcocjoaaaGreatDoor
open Go
section
variable {P:Program} {ops:Array Oper} {Q:Exit->Act->World->Prop}
theorem Xt (rem:List (Nat×Option Tmp))(f:Nat->Value){listed0:Array Bool}(listed1:Array Bool)(hok:VE ops listed0 listed1 rem=true){a0:Act}{w:World}{n:Nat}
  (step:∀ p∈rem,∀ u:Nat->Value,(∀ j∈Ww ops rem p.1,u j=f j)->∀ K:Act->World->Prop,K ((Zn a0 rem u).put p.2 (f p.1)) w->wpOp P ops Q p.1 K (Zn a0 rem u) w)
  (done:wpAny P .any ops Q n listed1 (Zn a0 rem f) w):wpAny P .any ops Q (rem.length+n) listed0 a0 w:=by
 refine Yu rem (fun w'=>w'=w) (fun i v _=>v=f i) (fun _ _=>True) listed1 hok (fun _ _ _ _ h _=>h) ?_ n ?_ rfl
 ·rintro p hp u w' rfl hD K hK
  exact step p hp u hD K (hK _ _ rfl rfl trivial)
 ·rintro u w' rfl hV
  have:∀ qs:List (Nat×Option Tmp),(∀ p∈qs,u p.1=f p.1)->Zn a0 qs u=Zn a0 qs f:=by
   intro qs
   induction qs with
   | nil=>intro _;rfl
   | cons q qs ih =>
    intro h;simp only[Zn,ih (fun p hp=>h p (List.mem_cons_of_mem _ hp)),h q List.mem_cons_self]
  rw[this rem hV];exact done
end
end Go.Proofs.YtmojhhlcocjoaaaGreatDoor
namespace Go.Proofs.YtmojhhlcocjoaaaGreatDoor
open Go.RowKit Go.ChangeShapes Go.WideShapes Go.ChangeAt Go.Deep
open Go.RowKit Go.ChangeShapes Go.WideShapes Go.ChangeAt Go.Deep Go.Shelf
attribute [local go_sem] Oper.semAt_some
theorem ZbC (u:World)(x:Int) : (Instr.buildSlice 22 1 #[(0,.int .i64 x)]).run Tryz.prog u=.ok (.slice (some ⟨u.heap.size,0,none⟩) 1 1) (u.alloc (.cells #[.int .i64 x] 3)):=by go_simp
end Go.Proofs.YtmojhhlcocjoaaaGreatDoor
namespace Go.Proofs.YtmojhhlcocjoaaaGreatDoor
open Go.RowKit Go.ChangeShapes Go.WideShapes Go.ChangeAt Go.Deep Go.Shelf
attribute [local go_sem] Oper.semAt_some
theorem Zif {B n:Int}{p:Int×Int}(h1:0<=p.1/\p.1<=B)(h2:0<=p.2/\p.2<=B)(hn:0<=n/\n<=B) : (0<=(Yp p n).1/\(Yp p n).1<=B)/\0<=(Yp p n).2/\(Yp p n).2<=B:=by
 unfold Yp;split
 ·exact⟨hn,h1⟩
 ·split
  ·exact⟨h1,hn⟩
  ·exact⟨h1,h2⟩
theorem ZaL {B:Int}{f:Nat->Int} : ∀ (l:List Nat) (p:Int×Int),(0<=p.1/\p.1<=B)->(0<=p.2/\p.2<=B)->(∀ v∈l,0<=f v/\f v<=B)->(0<=(l.foldl (fun p v=>Yp p (f v)) p).1/\(l.foldl (fun p v=>Yp p (f v)) p).1<=B)/\0<=(l.foldl (fun p v=>Yp p (f v)) p).2/\(l.foldl (fun p v=>Yp p (f v)) p).2<=B
 | [],_,h1,h2,_=>⟨h1,h2⟩
 | v::l,p,h1,h2,h=>by
  have h3:=Zif h1 h2 (h v (by simp));exact ZaL l _ h3.1 h3.2 fun x hx=>h x (by simp[hx])
end Go.Proofs.YtmojhhlcocjoaaaGreatDoor
namespace Go.Proofs.YtmojhhlcocjoaaaGreatDoor
open Go.RowKit Go.ChangeShapes Go.WideShapes Go.ChangeAt Go.Deep
theorem JF {rows:List (List Int)}(h1:1<=rows.length){p:List Int}{m last:Nat}{cost:Int}{l:List Nat}(h:WalkOk rows p m last cost l) : last<rows.length:=by
 rw[h.last];rcases Vj l 0 with e | e
 ·rw[e];exact h1
 ·exact(h.inn _ e).1
theorem WY {f:Nat->Int}{B:Int} : ∀ (l:List Nat),(∀ x∈l,0<=f x/\f x<=B)->0<=Zj (l.map f)/\Zj (l.map f)<=B*(l.length:Int)
 | [],_=>by simp[Zj]
 | x::l,h=>by
  have h1:=h x (by simp);have h2:=WY l fun y hy=>h y (by simp[hy])
  have h3:B*((l.length:Int)+1)=B*(l.length:Int)+B:=by rw[Int.mul_add,Int.mul_one]
  simp only[List.map_cons,Zj,List.length_cons,Int.natCast_add,Int.natCast_one];omega
theorem Zcr {rows:List (List Int)}(num:∀ a b,a<rows.length->b<rows.length->0<=Za rows a b/\Za rows a b<=2147483647) : ∀ (l:List Nat) (s:Nat),s<rows.length->(∀ x∈l,x<rows.length)->0<=UV rows s (Zd l)/\UV rows s (Zd l)<=2147483647*(l.length:Int)
 | [],_,_,_=>by simp[UV,Zd]
 | x::l,s,hs,h=>by
  have h1:=num s x hs (h x (by simp));have h2:=Zcr num l x (h x (by simp)) fun y hy=>h y (by simp[hy])
  have e:UV rows s (Zd (x::l))=Za rows s x+UV rows x (Zd l):=by simp[Zd,UV]
  rw[e];simp only[List.length_cons,Int.natCast_add,Int.natCast_one];omega
section
variable {rows:List (List Int)} {us:List Nat} {last:Nat}
theorem ZaM (num:∀ a b,a<rows.length->b<rows.length->0<=Za rows a b/\Za rows a b<=2147483647)(h0:0<rows.length)(hl:last<rows.length)(hu:∀ x∈us,x<rows.length)(hlen:us.length<=24) : 0<=ZT rows us last/\ZT rows us last<=2147483647*100:=by
 have hcol:∀ {s:Nat},∀ d∈YR us last s,d<rows.length:=fun {s} d h=>by
  unfold YR at h;split at h
  ·exact hu d h
  ·rcases List.mem_cons.1 h with rfl | h
   ·exact h0
   ·exact hu d (List.mem_filter.1 h).1
 have hsrc:∀ s∈last::us,s<rows.length:=fun s h=>by
  rcases List.mem_cons.1 h with rfl | h
  ·exact hl
  ·exact hu s h
 have hoff:∀ s∈last::us,0<=UE rows us last s/\UE rows us last s<=2147483647:=fun s hs=>by
  have h1:=VX (f:=fun dst=>Za rows s dst) (B:=2147483647) (l:=YR us last s) (b:=-1) (fun c hc=>by
   have:=num s c (hsrc s hs) (hcol c hc);omega) (by omega) (by omega)
  unfold UE;omega
 have h1:=WY (f:=fun src=>UE rows us last src) (last::us) hoff;have h2:=WY (f:=fun dst=>max (QD rows us last dst) 0) (B:=4294967294) (0::us) fun d hd=>by
  have hd':d<rows.length:=by
   rcases List.mem_cons.1 hd with rfl | hd
   ·exact h0
   ·exact hu d hd
  have h3:-4294967294<=QD rows us last d/\QD rows us last d<=4294967294:=by
   unfold QD;refine VX (fun s hs=>?_) (by omega) (by omega);have h4:=num s d (hsrc s (List.mem_filter.1 hs).1) hd';have h5:=hoff s (List.mem_filter.1 hs).1;omega
  omega
 unfold ZT;simp only[List.length_cons] at h1 h2;omega
theorem Zdl (num:∀ a b,a<rows.length->b<rows.length->0<=Za rows a b/\Za rows a b<=2147483647)(h0:0<rows.length)(hl:last<rows.length)(hu:∀ x∈us,x<rows.length)(hlen:us.length<=24)(hne:us≠[]) : 0<=Xv rows us last/\Xv rows us last<=4294967294*30:=by
 have h1:=WY (f:=fun u=>(ZO rows us last u).1+(ZO rows us last u).2) (B:=4294967294) us fun y hy=>by
  have k0:=hu y hy;have k1:=num y last k0 hl;have k2:=num y 0 k0 h0;have h3:=ZaL (B:=2147483647) (f:=fun v=>Za rows y v) (us.filter fun j=>decide (y≠j)) (min (Za rows y last) (Za rows y 0),max (Za rows y last) (Za rows y 0)) (by simp only;omega) (by simp only;omega) fun v hv=>num y v k0 (hu v (List.mem_filter.1 hv).1)
  have h4:ZO rows us last y=(us.filter fun j=>decide (y≠j)).foldl (fun p v=>Yp p (Za rows y v)) (min (Za rows y last) (Za rows y 0),max (Za rows y last) (Za rows y 0)):=rfl;rw[<-h4] at h3;omega
 have h2:=ZaF (f:=fun u=>Za rows last u) (B:=2147483647) (l:=us) (fun x hx=>num last x hl (hu x hx)) hne (by omega);have h3:=ZaF (f:=fun u=>Za rows u 0) (B:=2147483647) (l:=us) (fun x hx=>num x 0 (hu x hx) h0) hne (by omega);unfold Xv;omega
end
end Go.Proofs.YtmojhhlcocjoaaaGreatDoor
namespace Go.Proofs.YtmojhhlcocjoaaaGreatDoor
open Go.RowKit Go.ChangeShapes Go.WideShapes Go.ChangeAt Go.Deep
theorem XQ {w:World}{D:Option Addr}{co:List (List Int)}(rok:RowsOk co)(hC:RdE 1 RInts w D co){r c:Nat}(hr:r<co.length)(hc:c<co.length) :
  ∃ cb cof rb ro d',D=some ⟨cb,cof,none⟩/\w.cell? ⟨cb,cof+r,none⟩=some (.slice (some ⟨rb,ro,none⟩) co.length d')/\w.cell? ⟨rb,ro+c,none⟩=some (.int .i64 (Za co r c)):=by
 obtain⟨cb,cof,D',row,d',rfl,zb,cD,er,_,rD,iD,ld,md⟩:=hC.ints hr;have lrow:=rok.row row (List.mem_of_getElem? er.out);obtain⟨rb,ro,x,rfl,zx,cx,ex,_⟩:=rD.at (k:=c) (by omega);refine⟨cb,cof,rb,ro,d',rfl,by rw[cD,lrow],?_⟩;rw[cx];unfold Za;rw[getD_some er.out,getD_some ex.out]
theorem Qj {w:World}{cb cof:Nat}{co:List (List Int)}(rok:RowsOk co)(hC:RdE 1 RInts w (some ⟨cb,cof,none⟩) co){r c:Nat}(hr:r<co.length)(hc:c<co.length) :
  ∃ rb ro d',w.cell? ⟨cb,cof+r,none⟩=some (.slice (some ⟨rb,ro,none⟩) co.length d')/\w.cell? ⟨rb,ro+c,none⟩=some (.int .i64 (Za co r c)):=by
 obtain⟨cb',cof',rb,ro,d',h,h1,h2⟩:=XQ rok hC hr hc;obtain⟨rfl,rfl⟩:cb=cb'/\cof=cof':=by simpa using h
 exact⟨rb,ro,d',h1,h2⟩
theorem Yl {rows:List (List Int)}(ok:RowsOk rows)(a b:Nat)(ha:a<rows.length)(hb:b<rows.length) : 0<=Za rows a b/\Za rows a b<=2147483647:=by
 have e1:rows[a]?=some rows[a]:=List.getElem?_eq_getElem ha;have e2:=ok.row _ (List.getElem_mem ha);have e3:(rows[a])[b]?=some (rows[a])[b]:=List.getElem?_eq_getElem (by omega);unfold Za;rw[getD_some e1,getD_some e3];exact ok.num _ (List.getElem_mem ha) _ (List.getElem_mem _)
theorem Zdm (i:InstP)(us:List Value)(w:World)(H:RInst w us i)(ok:SquareOk i) :
  Calls Tryz.prog 154 #[.agg (List.toArray us)] w fun e w'=>e=.returned (.bool (WX i.cost))/\Ext w w':=by
 have rok:=ZF ok;have n24:=rok.n2;have hnn:i.n=(i.cost.length:Int):=ok.len.symm;clear ok;obtain⟨kind,nn,cap,xw,xv,co⟩:=i;obtain⟨A,a,B,b,D,d,rfl,-,-,⟨hC,-,-⟩⟩:=H;simp only at *;subst hnn;have B1:Hid (Blk (w.alloc (.cells #[.int .i64 kind,.int .i64 co.length,.int .i64 cap,.slice A xw.length a,.slice B xv.length b,.slice D co.length d] 25)) w.heap.size 25 #[.int .i64 kind,.int .i64 co.length,.int .i64 cap,.slice A xw.length a,.slice B xv.length b,.slice D co.length d]):=.new rfl;replace hC:=Hd hC;replace rok:=Hd rok;obtain⟨mm,hmm⟩:∃ mm,Hid (WX co=mm):=⟨_,rfl⟩;rw[hmm.out];go_enter Tryz.func154,Tryz.ntmps154;have X1:Hid (Ext w (w.alloc (.cells #[.int .i64 kind,.int .i64 co.length,.int .i64 cap,.slice A xw.length a,.slice B xv.length b,.slice D co.length d] 25))):=(Ext.rf _).alloc _;go_wp2_with (fail);generalize w.alloc (.cells #[.int .i64 kind,.int .i64 co.length,.int .i64 cap,.slice A xw.length a,.slice B xv.length b,.slice D co.length d] 25)=w1 at *;have BB:=B1;go_loopw [3] (fun v wr=>∃ k:Nat,v=.int .i64 k/\k<=co.length/\Hid (∀ x,x<k->∀ y,y<x->Za co x y=Za co y x)/\Hid (Ext w1 wr)) (fun v _=>co.length-(intOf v).toNat)
 case atStart=>exact⟨0,rfl,by omega,fun x hx=>absurd hx (Nat.not_lt_zero _),Ext.rf _⟩
 case round =>
  obtain⟨wo,rfl⟩:∃ wo:World,wo=wr:=⟨_,rfl⟩;obtain⟨k,rfl,hk,HS,Y⟩:=hrel;have cN:wo.cell? ⟨w.heap.size,1,none⟩=some (.int .i64 co.length):=(BB.out.ext Y.out).cell 1
  by_cases hlt:k<co.length
  ·have XW:Hid (Ext w wo):=X1.out.tr Y.out
   obtain⟨cb,cof,D',row,d',rfl,zb,cD,er,_,rD,iD,ld,md⟩:=(hC.out.ext XW.out fun _ _ h=>h.ext XW.out).ints hlt;have lrow:=rok.out.row row (List.mem_of_getElem? er.out);have q1:(k:Int)<(co.length:Int):=by omega
   replace er:=Hd er.out;replace rD:=Hd rD;go_wp2_with (fail);go_loopw [4] (fun v wr=>∃ j:Nat,v=.int .i64 j/\j<=k/\Hid (∀ y,y<j->Za co k y=Za co y k)/\Hid (Ext wo wr)) (fun v _=>k-(intOf v).toNat)
   case atStart=>exact⟨0,rfl,by omega,fun y hy=>absurd hy (Nat.not_lt_zero _),Ext.rf _⟩
   case round =>
    obtain⟨wi,rfl⟩:∃ wi:World,wi=wr:=⟨_,rfl⟩;obtain⟨j,rfl,hj,HJ,Z⟩:=hrel;have XZ:=Hd (Ext.tr (a:=w) (XW.out) Z.out)
    by_cases hlj:j<k
    ·obtain⟨cb',cof',D2,row2,d2,hq,zb2,cD2,er2,_,rD2,iD2,ld2,md2⟩:=(hC.out.ext XZ.out fun _ _ h=>h.ext XZ.out).ints (r:=j) (by omega)
     obtain⟨rfl,rfl⟩:cb=cb'/\cof=cof':=by simpa using hq
     have cDk:=(Z.out.cells.1 _ (cof+k) zb).trans cD;have lrow2:=rok.out.row row2 (List.mem_of_getElem? er2.out);obtain⟨rb,ro,x,rfl,zx,cx,ex,_⟩:=(rD.out.ext Z.out).at (k:=j) (by omega);obtain⟨rb2,ro2,y,rfl,zy,cy,ey,_⟩:=rD2.at (k:=k) (by omega);have d5':wi.cell? ⟨w.heap.size,5,none⟩=some (.slice (some ⟨cb,cof,none⟩) co.length d):=((BB.out.ext Y.out).ext Z.out).cell 5;have exy:Hid (Za co k j=x/\Za co j k=y):=by
      refine⟨?_,?_⟩
      ·unfold Za;rw[getD_some er.out,getD_some ex.out]
      ·unfold Za;rw[getD_some er2.out,getD_some ey.out]
     have q2:(j:Int)<(co.length:Int):=by omega
     have q3:(j:Int)<(row.length:Int):=by omega
     have q4:(k:Int)<(row2.length:Int):=by omega
     replace ex:=Hd ex.out;replace ey:=Hd ey.out;replace er2:=Hd er2.out;replace rD2:=Hd rD2;have q5:(k:Int)<(co.length:Int):=by omega
     clear hq
     by_cases hxy:x=y
     ·subst hxy
      have t0:(x != x)=false:=by simp
      have NX:Hid (∀ yy,yy<j+1->Za co k yy=Za co yy k):=fun yy hy=>by
       by_cases e:yy=j
       ·subst e;rw[exy.out.1,exy.out.2]
       ·exact HJ.out yy (by omega)
      go_wp2_with (fail);go_quiet (fail);go_wp2_with (fail);go_roundw
      case rel=>exact⟨j+1,by go_num,by omega,NX,Z.out.drewN _⟩
      case measure=>simp[intOf];omega
     ·have t0:(x != y)=true:=by simpa using hxy
      have HM:Hid (mm=false):=Hd (by
       rw[<-hmm.out];exact ZaJ hlt hlj (by rw[exy.out.1,exy.out.2];exact hxy))
      go_wp2_with (fail);go_quiet (fail);go_wp2_with (fail);go_ret;rw[HM.out];exact⟨rfl,XZ.out.drewN _⟩
    ·obtain rfl:j=k:=by omega
     have q2:¬(j:Int)<(j:Int):=by omega
     have HS3:Hid (∀ x,x<j+1->∀ y,y<x->Za co x y=Za co y x):=fun x hx=>by
      by_cases e:x=j
      ·subst e;exact HJ.out
      ·exact HS.out x (by omega)
     have YZ:=Hd (Y.out.tr Z.out);go_wp2_with (fail);go_roundw
     case rel=>exact⟨j+1,by go_num,by omega,HS3,YZ.out⟩
     case measure=>simp[intOf];omega
  ·obtain rfl:k=co.length:=by omega
   have HM:Hid (mm=true):=Hd (by
    rw[<-hmm.out];exact ZbB HS.out)
   have q2:¬(co.length:Int)<(co.length:Int):=by omega
   have XW:=Hd (X1.out.tr Y.out);go_wp2_with (fail);go_ret;rw[HM.out];exact⟨rfl,XW.out⟩
theorem Wq {fn:Func}{t u v x:Tmp}(h:fn.results=#[.tmp t,.tmp u,.tmp v,.tmp x])(tmps:Array Value)(P:Program)(w:World) :
  (results fn tmps).run P w=.ok (.tuple #[tmps.getD t undef,tmps.getD u undef,tmps.getD v undef,tmps.getD x undef]) w:=by
 simp[results,h]
abbrev ZiQ : Array Value:=#[.bool true,.bool false,.bool false,.bool false,.bool false,.bool false,.bool false,.bool false,.bool false,.bool false,.bool false,.bool false,.bool false,.bool false,.bool false,.bool false,.bool false,.bool false,.bool false,.bool false,.bool false,.bool false,.bool false,.bool false]
theorem ZeF {n:Nat}(h1:1<=n)(h:n<=24) : Xh n (Vt n)=ZiQ:=by
 unfold Vt;rw[<-JA (Xr h).1 (by omega),ZaB h]
 rfl
def V7 (m last:Nat)(cost:Int)(w:World)(e:Ending)(w':World) : Prop:=∃ A c,e=.returned (.tuple #[.slice A (Zf m).length c,.int .i64 last,.int .i64 cost,.bool true])/\OwI w' w.heap.size A c (Zd (Zf m))/\Ext w w'
def Zfx (r:Option (Nat×Nat×Int))(w:World)(e:Ending)(w':World) : Prop:=match r with
 | none=>e=.returned (.tuple #[.slice none 0 0,.int .i64 0,.int .i64 0,.bool false])/\Ext w w'
 | some (m,last,cost)=>V7 m last cost w e w'
theorem ZbD (i:InstP)(us:List Value)(P:Option Addr)(pc:Nat)(p:List Int)(w:World)(H:RInst w us i)(n:Nat)(hn:i.n=n)(hcn:i.cost.length=n)(rok:RowsOk i.cost)(h1:1<=n)(h24:n<=24)(hP:RdI w P p)(lp:p.length<=1000000000) :
  Calls Tryz.prog 153 #[.agg (List.toArray us),.slice P p.length pc] w (Zfx (Z5 i.cost p) w):=by
 obtain⟨kind,nn,cap,xw,xv,co⟩:=i;obtain⟨A,a,B,b,D,d,rfl,-,-,⟨hC,-,-⟩⟩:=H;simp only at *;subst hn;replace hC:=Hd hC;replace rok:=Hd rok;replace hcn:=Hd hcn;have UF:Hid (SubN n (Vt n)):=Zby h24;obtain⟨r,hr⟩:∃ r,Hid (Z5 co p=r):=⟨_,rfl⟩;rw[hr.out];unfold Z5 at hr;rw[hcn.out] at hr;replace hP:=Hd hP;have B1:Hid (Blk (w.alloc (.cells #[.int .i64 kind,.int .i64 n,.int .i64 cap,.slice A xw.length a,.slice B xv.length b,.slice D co.length d] 25)) w.heap.size 25 #[.int .i64 kind,.int .i64 n,.int .i64 cap,.slice A xw.length a,.slice B xv.length b,.slice D co.length d]):=.new rfl
 by_cases hlen:n-1<p.length
 ·have hr2:Hid (r=none):=by
   have h:=hr.out;rw[if_pos hlen] at h;exact h.symm
  have hlb:(n:Int)-1<(p.length:Int):=by omega
  have hw:IntKind.i64.wrap ((n:Int)-1)=(n:Int)-1:=IntWalk.i64_in _ (by omega);rw[hr2.out];unfold Zfx;clear hr hr2;go_enter Tryz.func153,Tryz.ntmps153;go_wp2_with (fail)
  ((try simp only[Exit.inBlock,Exit.then]);refine bodyPost_ret (Wq rfl _ _ _) rfl ?_)
  exact⟨rfl,by(repeat (first | assumption | exact Ext.rf _ | apply Ext.drew | apply Ext.drewN | apply Ext.alloc))⟩
 ·have hr2:Hid (Xu co (Vt n) 0 0 p=r):=by
   have h:=hr.out;rw[if_neg hlen] at h;exact h
  have hlb:¬(n:Int)-1<(p.length:Int):=by omega
  have hw:IntKind.i64.wrap ((n:Int)-1)=(n:Int)-1:=IntWalk.i64_in _ (by omega);obtain⟨m0,hm0⟩:∃ m0,Hid (m0=Vt n):=⟨Vt n,by exact rfl⟩;have FU2:Hid (Xh n m0=ZiQ):=by rw[hm0.out];exact ZeF h1 h24
  rw[<-hm0.out] at hr2 UF;have START:Hid (Ext w ((w.alloc (.cells #[.int .i64 kind,.int .i64 n,.int .i64 cap,.slice A xw.length a,.slice B xv.length b,.slice D co.length d] 25)).alloc (.cells #[.bool true,.bool false,.bool false,.bool false,.bool false,.bool false,.bool false,.bool false,.bool false,.bool false,.bool false,.bool false,.bool false,.bool false,.bool false,.bool false,.bool false,.bool false,.bool false,.bool false,.bool false,.bool false,.bool false,.bool false] 228))/\Blk ((w.alloc (.cells #[.int .i64 kind,.int .i64 n,.int .i64 cap,.slice A xw.length a,.slice B xv.length b,.slice D co.length d] 25)).alloc (.cells #[.bool true,.bool false,.bool false,.bool false,.bool false,.bool false,.bool false,.bool false,.bool false,.bool false,.bool false,.bool false,.bool false,.bool false,.bool false,.bool false,.bool false,.bool false,.bool false,.bool false,.bool false,.bool false,.bool false,.bool false] 228)) w.heap.size 25 #[.int .i64 kind,.int .i64 n,.int .i64 cap,.slice A xw.length a,.slice B xv.length b,.slice D co.length d]/\Blk ((w.alloc (.cells #[.int .i64 kind,.int .i64 n,.int .i64 cap,.slice A xw.length a,.slice B xv.length b,.slice D co.length d] 25)).alloc (.cells #[.bool true,.bool false,.bool false,.bool false,.bool false,.bool false,.bool false,.bool false,.bool false,.bool false,.bool false,.bool false,.bool false,.bool false,.bool false,.bool false,.bool false,.bool false,.bool false,.bool false,.bool false,.bool false,.bool false,.bool false] 228)) (w.heap.size+1) 228 (Xh n m0)) :=
   ⟨((Ext.rf _).alloc _).alloc _,B1.out.alloc _,by rw[FU2.out];exact .new (by simp)⟩
  clear hr;go_enter Tryz.func153,Tryz.ntmps153;go_wp2_with (fail);go_loopw [11,10,9] (fun v cv lv wr=>∃ (k m last:Nat) (cost:Int),v=.int .i64 k/\cv=.int .i64 cost/\lv=.int .i64 last/\k<=p.length/\Hid (Xu co m last cost (p.drop k)=r)/\Hid (SubN n m)/\Hid (last<n/\0<=cost/\cost<=2147483647*(k:Int))/\Hid (Ext w wr/\Blk wr w.heap.size 25 #[.int .i64 kind,.int .i64 n,.int .i64 cap,.slice A xw.length a,.slice B xv.length b,.slice D co.length d]/\Blk wr (w.heap.size+1) 228 (Xh n m))) (fun v _ _ _=>p.length-(intOf v).toNat)
  case atStart=>exact⟨0,m0,0,0,rfl,rfl,rfl,by omega,hr2,UF,by exact(show 0<n/\(0:Int)<=0/\(0:Int)<=2147483647*((0:Nat):Int) from⟨by omega,by omega,by omega⟩),START⟩
  case round =>
   obtain⟨wo,rfl⟩:∃ wo:World,wo=wr:=⟨_,rfl⟩;clear START FU2;obtain⟨k,m,last,cost,rfl,rfl,rfl,hk,HF,HU,HL,HH⟩:=hrel;obtain⟨Y,bI,bU⟩:=HH.out;have cN:=bI.c1;replace Y:=Hd Y;replace bI:=Hd bI;replace bU:=Hd bU;clear HH
   by_cases hlt:k<p.length
   ·obtain⟨pb,po,c,rfl,zp,cp,ep,dp⟩:=(hP.out.ext Y.out).at hlt
    have HF2:Hid (r=if 0<=c/\c<64/\m.testBit c.toNat=true then Xu co (ZL m c.toNat) c.toNat (cost+Za co last c.toNat) (p.drop (k+1)) else none):=by
     have h:=HF.out;rw[dp.out,ZeE] at h;exact h.symm
    have q1:(k:Int)<(p.length:Int):=by omega
    clear HF dp
    by_cases c0:c<0
    ·have HN:Hid (r=none):=by
      have h:=HF2.out;rw[if_neg (by omega)] at h;exact h
     have t0:decide (c<0)=true:=decide_eq_true c0;go_wp2_with (fail);go_quiet (fail);go_wp2_with (fail)
     ((try simp only[Exit.inBlock,Exit.then]);refine bodyPost_ret (Wq rfl _ _ _) rfl ?_)
     rw[HN.out];exact⟨rfl,Y.out.drewN _⟩
    ·have t0:decide (c<0)=false:=decide_eq_false c0
     obtain⟨ci,rfl⟩:∃ ci:Nat,c=(ci:Int):=⟨c.toNat,by omega⟩;rw[Int.toNat_natCast] at HF2;clear c0 t0
     by_cases c1:n<=ci
     ·have HN:Hid (r=none):=by
       have h:=HF2.out;rw[if_neg (by rintro ⟨_,h1,h2⟩;have:=HU.out.2 ci (Z4.2 ⟨by omega,h2⟩);omega)] at h;exact h
      have t1:decide (n<=ci)=true:=decide_eq_true c1;have t2:decide ((n:Int)<=(ci:Int))=true:=decide_eq_true (by omega);go_wp2_with (fail);go_quiet (fail);go_wp2_with (fail)
      ((try simp only[Exit.inBlock,Exit.then]);refine bodyPost_ret (Wq rfl _ _ _) rfl ?_)
      rw[HN.out];exact⟨rfl,Y.out.drewN _⟩
     ·have t1:decide (n<=ci)=false:=decide_eq_false c1
      have t2:decide ((n:Int)<=(ci:Int))=false:=decide_eq_false (by omega);have cin:ci<n:=by omega
      have ci24:(ci:Int)<24:=by omega
      have dn:decide (ci<n)=true:=decide_eq_true cin
      cases hb:m.testBit ci with
      | false =>
       have HN:Hid (r=none):=by
        have h:=HF2.out;rw[if_neg (by rintro ⟨_,h1,h2⟩;rw[hb] at h2;cases h2)] at h;exact h
       have cu:wo.cell? ⟨w.heap.size+1,ci,none⟩=some (.bool true):=by rw[bU.out.cell,Xi (by omega),dn,hb];rfl
       clear HF2 hb dn;go_wp2_with (fail);go_quiet (fail);go_wp2_with (fail)
       ((try simp only[Exit.inBlock,Exit.then]);refine bodyPost_ret (Wq rfl _ _ _) rfl ?_)
       rw[HN.out];exact⟨rfl,Y.out.drewN _⟩
      | true =>
       have HF3:Hid (Xu co (ZL m ci) ci (cost+Za co last ci) (p.drop (k+1))=r):=by
        have h:=HF2.out;rw[if_pos ⟨by omega,by omega,hb⟩] at h;exact h.symm
       have cu:wo.cell? ⟨w.heap.size+1,ci,none⟩=some (.bool false):=by rw[bU.out.cell,Xi (by omega),dn,hb];rfl
       have fu:=bU.out.free ci;have HU2:=Hd (HU.out.clr ci);have NX:Hid (∀ q,Ext w ((wo.drewN q).setCell ⟨w.heap.size+1,ci,none⟩ (.bool true))/\Blk ((wo.drewN q).setCell ⟨w.heap.size+1,ci,none⟩ (.bool true)) w.heap.size 25 #[.int .i64 kind,.int .i64 n,.int .i64 cap,.slice A xw.length a,.slice B xv.length b,.slice D co.length d]/\Blk ((wo.drewN q).setCell ⟨w.heap.size+1,ci,none⟩ (.bool true)) (w.heap.size+1) 228 (Xh n (ZL m ci))):=by
        intro q;refine⟨(Y.out.drewN q).setNew (by simp) _,(bI.out.drewN q).far (by simp) _,?_⟩;rw[<-JA HU.out.1 cin];exact(bU.out.drewN q).set ci _
       clear HF2 hb dn;generalize ZL m ci=m2 at *;go_wp2_with (fail);go_quiet (fail);go_wp2_with (fail);obtain⟨NY,NI,NU⟩:=NX.out nq;clear cu fu cN cp zp NX;generalize (wo.drewN nq).setCell ⟨w.heap.size+1,ci,none⟩ (.bool true)=w2 at *;have hlc:last<co.length:=by have:=HL.out.1;have:=hcn.out;omega
       obtain⟨cb,cof,D',row,d',hDq,zb,cD,er,_,rD,_,_,_⟩:=(hC.out.ext NY fun _ _ h=>h.ext NY).ints (r:=last) hlc;subst hDq;have hmem:=List.mem_of_getElem? er.out;have lrow:=rok.out.row row hmem;have nrow:=rok.out.num row hmem;obtain⟨rb,ro,y,rfl,zx,cx,ex,_⟩:=rD.at (k:=ci) (by have:=hcn.out;omega);obtain⟨pb2,po2,c2,hpq,zp2,cp2,ep2,_⟩:=(hP.out.ext NY).at hlt;obtain⟨rfl,rfl⟩:pb=pb2/\po=po2:=by simpa using hpq
       obtain rfl:(ci:Int)=c2:=by
        have h:=ep2.out;rw[ep.out] at h;exact Option.some.inj h
       have ny:=nrow y (List.mem_of_getElem? ex.out);have ecost:Za co last ci=y:=by unfold Za;rw[getD_some er.out,getD_some ex.out]
       rw[ecost] at HF3;have HL2:Hid (ci<n/\0<=cost+y/\cost+y<=2147483647*((k+1:Nat):Int)):=by
        have h:=HL.out;have:ci<n/\0<=cost+y/\cost+y<=2147483647*((k+1:Nat):Int):=⟨cin,by omega,by omega⟩;exact this
       have hw2:IntKind.i64.wrap (cost+y)=cost+y:=IntWalk.i64_in _ (by have:=HL2.out;omega);have cI5:=NI.c5;have q6:(last:Int)<(co.length:Int):=by omega
       have q7:(ci:Int)<(row.length:Int):=by have:=hcn.out;omega
       have NN:Hid (∀ q,Ext w (w2.drewN q)/\Blk (w2.drewN q) w.heap.size 25 #[.int .i64 kind,.int .i64 n,.int .i64 cap,.slice A xw.length a,.slice B xv.length b,.slice (some ⟨cb,cof,none⟩) co.length d]/\Blk (w2.drewN q) (w.heap.size+1) 228 (Xh n m2)):=fun q=>⟨NY.drewN q,NI.drewN q,NU.drewN q⟩
       clear ex er rD hmem lrow nrow ecost hlc NY NI NU ep ep2 hpq;go_quiet (fail);go_wp2_with (fail);go_roundw
       case rel=>exact⟨k+1,m2,ci,cost+y,by go_num,rfl,rfl,by omega,HF3,HU2,HL2,NN.out _⟩
       case measure=>simp[intOf];omega
   ·have HF2:Hid (some (m,last,cost)=r):=by
     have h:=HF.out;rw[show p.drop k=[] from List.drop_of_length_le (by omega)] at h;exact h
    have q1:¬(k:Int)<(p.length:Int):=by omega
    have HM:Hid (Zf m=YT m n):=VL HU.out (by omega);have X9:=Hd (Y.out.alloc (.cells #[] 3));have bI9:=Hd (bI.out.alloc (.cells #[] 3));have bU9:=Hd (bU.out.alloc (.cells #[] 3));have zY:=Y.out.size;have o9:Hid (OwI (wo.alloc (.cells #[] 3)) w.heap.size (some ⟨wo.heap.size,0,none⟩) 0 (Zd (YT m 0))):=OwI.new (xs:=[]) rfl zY (by simp[maxLen]);clear HF HU hr2;go_wp2_with (fail);go_loopw [13,12] (fun v o wr=>∃ (k:Nat) (A':Option Addr) (c':Nat),v=.int .i64 k/\o=.slice A' (YT m k).length c'/\k<=n/\Hid (OwI wr w.heap.size A' c' (Zd (YT m k)))/\Hid (Ext w wr)/\Hid (Blk wr w.heap.size 25 #[.int .i64 kind,.int .i64 n,.int .i64 cap,.slice A xw.length a,.slice B xv.length b,.slice D co.length d])/\Hid (Blk wr (w.heap.size+1) 228 (Xh n m))) (fun v _ _=>n-(intOf v).toNat)
    case atStart=>exact⟨0,_,_,rfl,rfl,by omega,o9,X9,bI9,bU9⟩
    case round =>
     obtain⟨wi,rfl⟩:∃ wi:World,wi=wr:=⟨_,rfl⟩;obtain⟨j,A',c',rfl,rfl,hj,oJ,YJ,bIJ,bUJ⟩:=hrel;clear X9 bI9 bU9 o9;have cN2:=bIJ.out.c1;have US:=Hd (Zbt m j);have UL:=Zc9 m j
     by_cases hjn:j<n
     ·have j24:(j:Int)<24:=by omega
      have dn:decide (j<n)=true:=decide_eq_true hjn;have q3:(j:Int)<(n:Int):=by omega
      cases hb:m.testBit j with
      | false =>
       have cu:wi.cell? ⟨w.heap.size+1,j,none⟩=some (.bool true):=by rw[bUJ.out.cell,Xi (by omega),dn,hb];rfl
       have HE:Hid (YT m (j+1)=YT m j):=by
        have h:=US.out;rw[hb,if_neg (by simp),List.append_nil] at h;exact h
       clear US hb dn;go_wp2_with (fail);go_roundw
       case rel=>exact⟨j+1,A',c',by go_num,by rw[HE.out],by omega,by rw[HE.out];exact oJ,YJ,bIJ,bUJ⟩
       case measure=>simp[intOf];omega
      | true =>
       have cu:wi.cell? ⟨w.heap.size+1,j,none⟩=some (.bool false):=by rw[bUJ.out.cell,Xi (by omega),dn,hb];rfl
       have HE:Hid (YT m (j+1)=YT m j++[j]):=by
        have h:=US.out;rw[hb,if_pos rfl] at h;exact h
       have HE2:Hid (Zd (YT m (j+1))=Zd (YT m j)++[(j:Int)]):=Hd (by rw[HE.out];simp[Zd]);have HL:Hid ((YT m (j+1)).length=(YT m j).length+1):=Hd (by rw[HE.out];simp);have zJ:=YJ.out.size;have e0:(YT m j).length=(Zd (YT m j)).length:=(Zg _).symm;have l0:(Zd (YT m j)).length<=24:=by rw[Zg];omega
       rw[e0];clear US hb dn UL e0 HE;replace l0:=Hd l0;go_wp2_with (at_builtin;refine ZG _ rfl _ _ rfl w.heap.size A' (Zd (YT m j)).length c' (Zd (YT m j)) [(j:Int)] (some ⟨wi.heap.size,0,none⟩) 1 rfl rfl rfl ?_ ?_ ?_ ?_ ?_;(exact oJ.out.ext ((Ext.rf _).alloc _));(exact .blk (.new (by simp)) rfl);(have:=l0.out;simp;omega);(first | exact Nat.le_refl _ | omega | (focus (simp;try omega)));rintro A5 c5 w5 o5 g5 _;have X5:=Hd (Ext.grow (YJ.out.alloc _) g5 (fun k hk=>(oJ.out.lt k hk).1));have bI5:Hid (Blk w5 w.heap.size 25 #[.int .i64 kind,.int .i64 n,.int .i64 cap,.slice A xw.length a,.slice B xv.length b,.slice D co.length d]):=(bIJ.out.alloc _).mod (Mod.grown (S:=fun k=>bl A'=some k) g5 (fun _ h=>h)) (fun h=>absurd rfl (oJ.out.ne bIJ.out (by decide) _ h));have bU5:Hid (Blk w5 (w.heap.size+1) 228 (Xh n m)):=(bUJ.out.alloc _).mod (Mod.grown (S:=fun k=>bl A'=some k) g5 (fun _ h=>h)) (fun h=>absurd rfl (oJ.out.ne bUJ.out (by decide) _ h));rw[<-HE2.out] at o5;replace o5:=Hd o5;clear g5);go_roundw
       case rel=>exact⟨j+1,A5,c5,by go_num,by rw[HL.out,Zg],by omega,o5,X5,bI5,bU5⟩
       case measure=>simp[intOf];omega
     ·obtain rfl:j=n:=by omega
      have q3:¬(j:Int)<(j:Int):=by omega
      have FIN:Hid (V7 m last cost w (.returned (.tuple #[.slice A' (YT m j).length c',.int .i64 last,.int .i64 cost,.bool true])) wi):=⟨A',c',by rw[HM.out],by rw[HM.out];exact oJ.out,YJ.out⟩;clear US UL;go_wp2_with (fail)
      ((try simp only[Exit.inBlock,Exit.then]);refine bodyPost_ret (Wq rfl _ _ _) rfl ?_)
      rw[<-HF2.out];exact FIN.out
theorem Zdn (i:InstP)(us:List Value)(P:Option Addr)(pc:Nat)(p:List Int)(w:World)(H:RInst w us i)(ok:SquareOk i)(hP:RdI w P p)(lp:p.length<=1000000000) :
  Calls Tryz.prog 117 #[.agg (List.toArray us),.slice P p.length pc] w (Qf (V4 i.cost p).1 (V4 i.cost p).2 w):=by
 have rok:=ZF ok;have l1:=rok.n1;have l2:=rok.n2;have hnn:i.n=(i.cost.length:Int):=ok.len.symm;have FR:=fun(W:World) (x:Ext w W)=>ZbD i us P pc p W (H.ext x) i.cost.length hnn rfl rok l1 l2 (hP.ext x) lp
 clear ok;obtain⟨kind,nn,cap,xw,xv,co⟩:=i;obtain⟨A,a,B,b,D,d,rfl,-,-,⟨hC,-,-⟩⟩:=H;simp only at *;subst hnn;obtain⟨r,hr⟩:∃ r,Hid (Z5 co p=r):=⟨_,rfl⟩;rw[hr.out] at FR;replace hP:=Hd hP;have B1:Hid (Blk (w.alloc (.cells #[.int .i64 kind,.int .i64 co.length,.int .i64 cap,.slice A xw.length a,.slice B xv.length b,.slice D co.length d] 25)) w.heap.size 25 #[.int .i64 kind,.int .i64 co.length,.int .i64 cap,.slice A xw.length a,.slice B xv.length b,.slice D co.length d]):=.new rfl
 cases r with
 | none =>
  have e:V4 co p=([],1):=by unfold V4;rw[hr.out]
  rw[e];unfold Zfx at FR;replace FR:=Hd FR;go_enter Tryz.func117,Tryz.ntmps117;go_wp2_with (fail);refine(FR.out _ (by(repeat (first | assumption | exact Ext.rf _ | apply Ext.drew | apply Ext.drewN | apply Ext.alloc)))).mono ?_;rintro e w1 ⟨rfl,x1⟩;have X1:=Hd (Ext.tr (a:=w) (by(repeat (first | assumption | exact Ext.rf _ | apply Ext.drew | apply Ext.drewN | apply Ext.alloc))) x1);clear x1;go_wp2_with (fail);go_ret2;exact⟨none,0,rfl,OwI.nil _ _,X1.out⟩
 | some s =>
  obtain⟨m,last,cost⟩:=s;obtain⟨pl,WO⟩:=YK l1 l2 hr.out;have hS:=WO.sub;have hlast:=JF l1 WO;have hlen:(Zf m).length<=24:=by have:=WO.len;omega
  have e:V4 co p=(Zd (Wb (ltC (cfR (co.getD last []))) (Zf m)),0):=by unfold V4;rw[hr.out]
  rw[e];clear e;have hsub:=Hd hS.2;have hsrt:=Hd (Zw m);replace FR:=fun(W:World) (x:Ext w W)=>(show Calls _ _ _ W (V7 m last cost W) from FR W x)
  unfold V7 at FR;replace FR:=Hd FR;clear hr hS WO;generalize Zf m=l at *;have hkr:last<co.length:=hlast;have er:co[last]?=some co[last]:=List.getElem?_eq_getElem hkr;have eg:co.getD last []=co[last]:=by simp[List.getD,er]
  rw[eg];clear eg;replace hC:=Hd hC;have hmem:co[last]∈co:=List.getElem_mem hkr;have lrow:=rok.row _ hmem;clear hmem;have HCO:Hid (∀ W,Ext w W->∃ bb off D' row d',D=some ⟨bb,off,none⟩/\W.cell? ⟨bb,off+last,none⟩=some (.slice D' row.length d')/\RdI W D' row/\row=co[last]):=by
   intro W x;obtain⟨bb,off,D',row,d',h1,_,h3,h4,_,h6,_⟩:=(hC.out.ext x fun _ _ h=>h.ext x).ints hkr;refine⟨bb,off,D',row,d',h1,h3,h6,?_⟩;have:=h4.out;rw[er] at this;exact(Option.some.inj this).symm
  generalize co[last]=row0 at *;clear er;have q1:(last:Int)<(co.length:Int):=by omega
  have hl24:l.length<=24:=by omega
  replace lrow:=Hd lrow;replace hlen:=Hd hlen;go_enter Tryz.func117,Tryz.ntmps117;go_wp2_with (fail);refine(FR.out _ (by(repeat (first | assumption | exact Ext.rf _ | apply Ext.drew | apply Ext.drewN | apply Ext.alloc)))).mono ?_;rintro e w1 ⟨A1,c1,rfl,o1,x1⟩;have X1:=Hd (Ext.tr (a:=w) (by(repeat (first | assumption | exact Ext.rf _ | apply Ext.drew | apply Ext.drewN | apply Ext.alloc))) x1);have BB:=Hd (B1.out.ext x1);obtain⟨bb,off,D',row,d',rfl,cD,rD,rfl⟩:=HCO.out _ X1.out;have d1:=BB.out.c1;have d5:=BB.out.c5;have z1:=X1.out.size;have zo:=o1.lt;replace o1:=Hd o1.read;replace rD:=Hd rD;clear x1 HCO zo;go_wp2_with (at_make;refine Xd _ rfl _ _ rfl w1.heap.size _ _ l.length rfl rfl rfl rfl (by omega) (Nat.le_refl _) ?_;rintro w3 o3 g3);have x3:Ext w1 w3:=(Ext.rf _).grownNone g3;have S3:Hid (OwI w3 w1.heap.size (some ⟨w1.heap.size,0,none⟩) l.length (Yk (ZA (ltC (cfR row)) l) l 0)/\Ext w1 w3):=⟨o3,x3⟩;clear o3 g3 x3 d1 d5 cD;go_wp2_with (fail);go_loopw [12] (fun v wr=>∃ k:Nat,v=.int .i64 k/\k<=l.length/\Hid (OwI wr w1.heap.size (some ⟨w1.heap.size,0,none⟩) l.length (Yk (ZA (ltC (cfR row)) l) l k)/\Ext w1 wr)) (fun v _=>l.length-(intOf v).toNat)
  case atStart=>exact⟨0,rfl,by omega,S3⟩
  case round =>
   obtain⟨wo,rfl⟩:∃ wo:World,wo=wr:=⟨_,rfl⟩;obtain⟨k,rfl,hk,HS⟩:=hrel;clear S3
   by_cases hlt:k<l.length
   ·have q2:(k:Int)<(l.length:Int):=by omega
    have ek:l[k]?=some l[k]:=List.getElem?_eq_getElem hlt;have hkm:l[k]∈l:=List.getElem_mem hlt;have HPK:Hid (Yk (ZA (ltC (cfR row)) l) l (k+1)=(Yk (ZA (ltC (cfR row)) l) l k).set (ZA (ltC (cfR row)) l l[k]) ((l[k]:Nat):Int)):=by
     have h:Yk (ZA (ltC (cfR row)) l) l (k+1)=(Yk (ZA (ltC (cfR row)) l) l k).set (ZA (ltC (cfR row)) l (l.getD k 0)) ((l.getD k 0:Nat):Int):=rfl;rw[show l.getD k 0=l[k] by simp[List.getD,ek]] at h;exact h
    have hxs:=hsub.out _ hkm;generalize l[k]=x at *;obtain⟨O,Y⟩:=HS.out;clear HS;replace O:=Hd O;replace Y:=Hd Y;go_wp2_with (fail);go_loopw [14,13] (fun v nv wr=>∃ j:Nat,v=.int .i64 j/\nv=.int .i64 (ZA (ltC (cfR row)) (l.take j) x:Nat)/\j<=l.length/\Hid (Ext wo wr)) (fun v _ _=>l.length-(intOf v).toNat)
    case atStart=>exact⟨0,rfl,rfl,by omega,Ext.rf _⟩
    case round =>
     obtain⟨wi,rfl⟩:∃ wi:World,wi=wr:=⟨_,rfl⟩;obtain⟨j,rfl,rfl,hj,YI⟩:=hrel;have hale:=Jy (ltC (cfR row)) (l.take j) x;rw[List.length_take] at hale;have rl:RdI wi A1 (Zd l):=(o1.out.ext Y.out).ext YI.out;have rr:RdI wi D' row:=(rD.out.ext Y.out).ext YI.out;obtain⟨lb,lo,xk,rfl,_,ck,exk,_⟩:=rl.at (k:=k) (by rw[Zg];exact hlt);obtain rfl:xk=(x:Int):=by
      have h:=exk.out;rw[ZD ek] at h;exact(Option.some.inj h).symm
     obtain⟨rb,ro,yk,rfl,_,cxk,eyk,_⟩:=rr.at (k:=x) (by rw[lrow.out];exact hxs);have gk:row.getD x 0=yk:=getD_some eyk.out;clear exk eyk
     by_cases hjl:j<l.length
     ·have q3:(j:Int)<(l.length:Int):=by omega
      have ej:l[j]?=some l[j]:=List.getElem?_eq_getElem hjl;have hjs:=hsub.out _ (List.getElem_mem hjl);have HA:Hid (ZA (ltC (cfR row)) (l.take (j+1)) x=ZA (ltC (cfR row)) (l.take j) x+if Zbe (ltC (cfR row)) l[j] x=true then 1 else 0):=by
       have h:l.take (j+1)=l.take j++[l[j]]:=by rw[List.take_add_one,ej];rfl
       have h2:=UR (ltC (cfR row)) (l.take j) x l[j];rw[<-h] at h2;exact h2
      have HB:=Zfp hsrt.out ej ek;generalize l[j]=y at *;obtain⟨lb2,lo2,xj,hq,_,cj,exj,_⟩:=rl.at (k:=j) (by rw[Zg];exact hjl);obtain⟨rfl,rfl⟩:lb=lb2/\lo=lo2:=by simpa using hq
      obtain rfl:xj=(y:Int):=by
       have h:=exj.out;rw[ZD ej] at h;exact(Option.some.inj h).symm
      obtain⟨rb2,ro2,yj,hq2,_,cxj,eyj,_⟩:=rr.at (k:=y) (by rw[lrow.out];exact hjs);obtain⟨rfl,rfl⟩:rb=rb2/\ro=ro2:=by simpa using hq2
      have gj:row.getD y 0=yj:=getD_some eyj.out;have HA2:Hid (ZA (ltC (cfR row)) (l.take (j+1)) x=ZA (ltC (cfR row)) (l.take j) x+if (decide (yj<yk) || (decide (yj=yk)&&decide (j<k)))=true then 1 else 0):=by
       have h:=HA.out;rw[Zda,gj,gk,HB] at h;exact h
      have qx:(x:Int)<(row.length:Int):=by rw[lrow.out];omega
      have qy:(y:Int)<(row.length:Int):=by rw[lrow.out];omega
      clear HA HB ej exj eyj hq hq2 gj gk rl rr;generalize ZA (ltC (cfR row)) (l.take j) x=ah at *
      by_cases t1:yj<yk
      ·have d1:decide (yj<yk)=true:=decide_eq_true t1
       have HA3:Hid (ZA (ltC (cfR row)) (l.take (j+1)) x=ah+1):=by
        have h:=HA2.out;rw[d1,Bool.true_or,if_pos rfl] at h;exact h
       clear HA2;go_wp2_with (fail);go_quiet (fail);go_wp2_with (fail);go_roundw
       case rel=>exact⟨j+1,by go_num,by rw[HA3.out];go_num,by omega,YI.out.drewN _⟩
       case measure=>simp[intOf];omega
      ·have d1:decide (yj<yk)=false:=decide_eq_false t1
       by_cases t2:yj=yk
       ·have d2:(yj==yk)=true:=by rw[beq_iff_eq];exact t2
        have d2':decide (yj=yk)=true:=decide_eq_true t2;replace t2:=Hd t2
        by_cases t3:j<k
        ·have d3:decide (j<k)=true:=decide_eq_true t3
         have HA3:Hid (ZA (ltC (cfR row)) (l.take (j+1)) x=ah+1):=by
          have h:=HA2.out;rw[d1,d2',d3] at h;exact h
         clear HA2 d2';go_wp2_with (fail);go_quiet (fail);go_wp2_with (fail);go_roundw
         case rel=>exact⟨j+1,by go_num,by rw[HA3.out];go_num,by omega,YI.out.drewN _⟩
         case measure=>simp[intOf];omega
        ·have d3:decide (j<k)=false:=decide_eq_false t3
         have HA3:Hid (ZA (ltC (cfR row)) (l.take (j+1)) x=ah):=by
          have h:=HA2.out;rw[d1,d2',d3] at h;exact h
         clear HA2 d2';go_wp2_with (fail);go_quiet (fail);go_wp2_with (fail);go_roundw
         case rel=>exact⟨j+1,by go_num,by rw[HA3.out],by omega,YI.out.drewN _⟩
         case measure=>simp[intOf];omega
       ·have d2:(yj==yk)=false:=by rw[beq_eq_false_iff_ne];exact t2
        have d2':decide (yj=yk)=false:=decide_eq_false t2;have HA3:Hid (ZA (ltC (cfR row)) (l.take (j+1)) x=ah):=by
         have h:=HA2.out;rw[d1,d2'] at h;exact h
        clear HA2 d2';go_wp2_with (fail);go_quiet (fail);go_wp2_with (fail);go_roundw
        case rel=>exact⟨j+1,by go_num,by rw[HA3.out],by omega,YI.out.drewN _⟩
        case measure=>simp[intOf];omega
     ·obtain rfl:j=l.length:=by omega
      have q3:¬(l.length:Int)<(l.length:Int):=by omega
      have e0:l.take l.length=l:=List.take_length;rw[e0];have hal:ZA (ltC (cfR row)) l x<l.length:=by
       have W:=Q0 row;obtain⟨k',hk',e'⟩:=List.mem_iff_getElem.1 ((WV W hsrt.out).mem.2 hkm);rw[VZ W hsrt.out (by rw[List.getElem?_eq_getElem hk',e'])]
       rwa [Xs] at hk'
      clear e0 hale gk;generalize ZA (ltC (cfR row)) l x=ah at *;obtain⟨v9,c9,f9,_,_,s9⟩:=OwI.cell (OwI.ext O.out YI.out) (k:=ah) (by rw[Xg];exact hal);have q4:(ah:Int)<(l.length:Int):=by omega
      have NX:Hid (∀ W2,Ext wi W2->OwI (W2.setCell ⟨w1.heap.size,ah,none⟩ (.int .i64 x)) w1.heap.size (some ⟨w1.heap.size,0,none⟩) l.length (Yk (ZA (ltC (cfR row)) l) l (k+1))/\Ext w1 (W2.setCell ⟨w1.heap.size,ah,none⟩ (.int .i64 x))):=by
       intro W2 x2;rw[HPK.out];obtain⟨_,_,_,_,_,s8⟩:=OwI.cell (OwI.ext (OwI.ext O.out YI.out) x2) (k:=ah) (by rw[Xg];exact hal);exact⟨s8.out _,((Y.out.tr YI.out).tr x2).setNew (p:=⟨w1.heap.size,ah,none⟩) (Nat.le_refl _) _⟩
      clear s9 HPK rl rr;go_wp2_with (first | go_quiet (fail) | go_region);go_roundw
      case rel=>exact⟨k+1,by go_num,by omega,NX.out _ (by(repeat (first | assumption | exact Ext.rf _ | apply Ext.drew | apply Ext.drewN | apply Ext.alloc)))⟩
      case measure=>simp[intOf];omega
   ·obtain rfl:k=l.length:=by omega
    have q2:¬(l.length:Int)<(l.length:Int):=by omega
    have FIN:Hid (Qf (Zd (Wb (ltC (cfR row)) l)) 0 w (.returned (.tuple #[.slice (some ⟨w1.heap.size,0,none⟩) l.length l.length,.int .i64 0])) wo):=by
     refine⟨some ⟨w1.heap.size,0,none⟩,l.length,by rw[Zg,Xs],?_,X1.out.tr HS.out.2⟩;have h:=HS.out.1;rw[QB (Q0 row) hsrt.out] at h;exact OwI.more h z1
    clear HS;go_wp2_with (fail);go_ret2;exact FIN.out
end Go.Proofs.YtmojhhlcocjoaaaGreatDoor
