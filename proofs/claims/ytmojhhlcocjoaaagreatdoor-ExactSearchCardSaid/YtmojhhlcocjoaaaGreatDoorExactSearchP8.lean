/- packed and squeezed by programs (see wip/) -/
import Derived.Test.YtmojhhlcocjoaaaGreatDoorExactSearchP7
import Derived.LaidMore
import Derived.Lay
import Derived.SevenTiedAt
import Derived.Stop.Joined
import Derived.Test.YtmojhhlcocjoaaaGreatDoorRows
set_option maxRecDepth 100000
set_option maxHeartbeats 16000000
set_option linter.unusedVariables false
set_option linter.unusedSimpArgs false
namespace Go.Proofs.YtmojhhlcocjoaaaGreatDoor
open Go.RowKit Go.ChangeShapes Go.WideShapes Go.ChangeAt Go.Deep
def JS (rows:List (List Int))(w:World)(e:Ending)(w':World) : Prop :=
 ∃ A c l,e=.returned (.tuple #[.slice A rows.length c,.int .i64 (Zr rows (Ze l)),.int .i64 0])/\RdI w' A (Ze l)/\l.Perm (List.range rows.length)/\rows.length<=c/\c<=maxLen/\Least rows rows.length (Zr rows (Ze l))/\Ext w w'
theorem Zb8 (i:InstP)(us:List Value)(w:World)(H:RInst w us i)(hc:Zl i=0)(hk:i.kind=2) :
  Calls Tryz.prog 42 #[.agg (List.toArray us)] w (JS i.cost w):=by
 have sq:=Zt hc (by omega);have rok:=ZZ sq;have hln:=sq.len;have TK:=fun(W:World) (x:Ext w W)=>ZbK i us W (H.ext x) hc hk
 have TO:=fun(P:Option Addr) (c:Nat) (l:List Nat) (W:World) (x:Ext w W) (hP:RdI W P (Ze l)) (hl:l.Perm (List.range i.cost.length))=>Zc9 i us P c l W (H.ext x) hc hk hP hl
 obtain⟨kind,nn,cap,xw,xv,co⟩:=i;obtain⟨A,a,B,b,D,d,rfl,-,-,hC,-⟩:=H;simp only at *;subst hk;have n1:=rok.n1;have n2:=rok.n2;obtain⟨n,hn⟩:∃ n,co.length=n:=⟨_,rfl⟩;rw[hn] at TK TO hln n1 n2 ⊢;subst hln;obtain⟨N,hN⟩:∃ N,N=n+1:=⟨_,rfl⟩;have GR:=fun(W:World) (gp gu gv gh gf r R:Nat) (u v:Nat->Int) (has frm:Nat->Nat) (hP:PB W gp D d n N gu gv gh gf) (hu:Arr W gu N u) (hv:Arr W gv N v) (hh:Arr W gh N fun c=>(has c:Int)) (hf:Arr W gf N fun c=>(frm c:Int)) (hd:[gu,gv,gh,gf].Nodup)
  (hx:Ext w W) (hb:∀ k,k<w.heap.size->¬PS gu gv gh gf k) (hI:HI n (Va co) r u v has) (hr:r<n) (hR:R=r+1)=>Zef hP hu hv hh hf hd hC hx hb rok hn hN hI hr hR
 have B1:Hid (Blk (w.alloc (.cells #[.int .i64 2,.int .i64 n,.int .i64 cap,.slice A xw.length a,.slice B xv.length b,.slice D n d] 25)) w.heap.size 25 #[.int .i64 2,.int .i64 n,.int .i64 cap,.slice A xw.length a,.slice B xv.length b,.slice D n d]):=.new rfl;have num:∀ i c,1<=i->i<=n->1<=c->c<=n->0<=Va co i c:=fun i c h1 h2 h3 h4=>(Xe rok (i-1) (c-1) (by omega) (by omega)).1
 have eN:(n:Int)+1=(N:Int):=by omega
 have wN:IntKind.i64.wrap ((n:Int)+1)=(N:Int):=by rw[eN];exact IntWalk.i64_in _ (by omega)
 clear eN;replace TK:=Hd TK;replace TO:=Hd TO;replace GR:=Hd GR;replace num:=Hd num;replace hn:=Hd hn;have hN25:N<=25:=by omega
 replace hN:=Hd hN;clear hc hC rok sq;go_enter Tryz.func42,Tryz.ntmps42;go_wp2_with (fail);refine(TK.out _ (by(repeat (first | assumption | exact Ext.rf _ | apply Ext.drew | apply Ext.drewN | apply Ext.alloc)))).mono ?_;rintro e w1 ⟨rfl,x1⟩;have X1:=Hd (Ext.tr (a:=w) (by(repeat (first | assumption | exact Ext.rf _ | apply Ext.drew | apply Ext.drewN | apply Ext.alloc))) x1);have b1:=Hd (B1.out.ext x1);have t1:=b1.out.c1;clear x1 B1;go_wp2_with (fail);go_cut [7] (fun v7 wx=>∃ gp gu gv gh gf,v7=.pointer (some ⟨gp,0,none⟩)/\PB wx gp D d n N gu gv gh gf/\[gu,gv,gh,gf].Nodup/\(∀ k,k<w1.heap.size->¬PS gu gv gh gf k)/\Arr wx gu N (fun _=>0)/\Arr wx gv N (fun _=>0)/\Arr wx gh N (fun _=>0)/\Arr wx gf N (fun _=>0)/\Ext w1 wx)
 case first =>
  have zb:=b1.out.lt;refine wp_region_any (by kernel_rfl) ?_
  change wpAny _ _ _ _ _ _ _ (World.drew _)
  refine Za (i:=0) (op:=Op.fieldAddr 25 (Operand.tmp 1) 5) (t:=0) (d:=some 18) (v:=?_) rfl (by decide +kernel) (by decide +kernel) (by decide +kernel) (fun _ _ _ h=>h) ?_ ?_
  case refine_2=>(intro _;unfold Zd;go_simp;try with_reducible rfl)
  try simp only[lay]
  refine Za (i:=2) (op:=Op.move (Operand.tmp 6)) (t:=3) (d:=some 20) (v:=?_) rfl (by decide +kernel) (by decide +kernel) (by decide +kernel) (fun _ _ _ h=>h) ?_ ?_
  case refine_2=>(intro _;unfold Zd;go_simp;try with_reducible rfl)
  try simp only[lay]
  refine Za (i:=3) (op:=Op.binOp BinOp.add 3 (Operand.tmp 20) (Operand.const (Value.int IntKind.i64 1)) 3) (t:=3) (d:=some 21) (v:=?_) rfl (by decide +kernel) (by decide +kernel) (by decide +kernel) (fun _ _ _ h=>h) ?_ ?_
  case refine_2=>(intro _;unfold Zd;go_simp;try with_reducible rfl)
  try simp only[lay]
  refine Za (i:=5) (op:=Op.move (Operand.tmp 6)) (t:=3) (d:=some 23) (v:=?_) rfl (by decide +kernel) (by decide +kernel) (by decide +kernel) (fun _ _ _ h=>h) ?_ ?_
  case refine_2=>(intro _;unfold Zd;go_simp;try with_reducible rfl)
  try simp only[lay]
  refine Za (i:=6) (op:=Op.binOp BinOp.add 3 (Operand.tmp 23) (Operand.const (Value.int IntKind.i64 1)) 3) (t:=3) (d:=some 24) (v:=?_) rfl (by decide +kernel) (by decide +kernel) (by decide +kernel) (fun _ _ _ h=>h) ?_ ?_
  case refine_2=>(intro _;unfold Zd;go_simp;try with_reducible rfl)
  try simp only[lay]
  refine Za (i:=8) (op:=Op.move (Operand.tmp 6)) (t:=3) (d:=some 26) (v:=?_) rfl (by decide +kernel) (by decide +kernel) (by decide +kernel) (fun _ _ _ h=>h) ?_ ?_
  case refine_2=>(intro _;unfold Zd;go_simp;try with_reducible rfl)
  try simp only[lay]
  refine Za (i:=9) (op:=Op.binOp BinOp.add 3 (Operand.tmp 26) (Operand.const (Value.int IntKind.i64 1)) 3) (t:=3) (d:=some 27) (v:=?_) rfl (by decide +kernel) (by decide +kernel) (by decide +kernel) (fun _ _ _ h=>h) ?_ ?_
  case refine_2=>(intro _;unfold Zd;go_simp;try with_reducible rfl)
  try simp only[lay]
  refine Za (i:=11) (op:=Op.move (Operand.tmp 6)) (t:=3) (d:=some 29) (v:=?_) rfl (by decide +kernel) (by decide +kernel) (by decide +kernel) (fun _ _ _ h=>h) ?_ ?_
  case refine_2=>(intro _;unfold Zd;go_simp;try with_reducible rfl)
  try simp only[lay]
  refine Za (i:=12) (op:=Op.binOp BinOp.add 3 (Operand.tmp 29) (Operand.const (Value.int IntKind.i64 1)) 3) (t:=3) (d:=some 30) (v:=?_) rfl (by decide +kernel) (by decide +kernel) (by decide +kernel) (fun _ _ _ h=>h) ?_ ?_
  case refine_2=>(intro _;unfold Zd;go_simp;try with_reducible rfl)
  try simp only[lay]
  refine W7 (n:=3) (σ:=Nat->Nat) [(1,some 19),(4,some 22),(7,some 25),(10,some 28),(13,some 31)] (fun _ W=>Ext w1 W)
   (fun i v T W=>(i=1->v=.slice D n d)/\(i≠1->∃ h,v=.slice (some ⟨h,0,none⟩) N N/\Arr W h N (fun _=>0)/\w1.heap.size<=h/\T h=i))
   (fun T W T' W'=>Ext W W'/\∀ h,h<W.heap.size->T' h=T h) #[true,true,true,true,true,true,true,true,true,true,true,true,true,true,false,false,false] (by decide +kernel) ?_ ?_ ?_ (s0:=fun _=>0) ((Ext.rf _).drew)
  ·rintro j v T W T' W' ⟨h1,h2⟩ ⟨hx,hT⟩
   refine⟨h1,fun hj=>?_⟩;obtain⟨h,k1,k2,k3,k4⟩:=h2 hj;exact⟨h,k1,k2.ext hx,k3,by rw[hT h k2.lt];exact k4⟩
  ·intro pq hpm u T W hRW hD K hK
   have r5:W.cell? ⟨w.heap.size,5,none⟩=some (.slice D n d):=(b1.out.ext hRW).cell 5;have MK:∀ (i:Nat) (W':World),i≠1->Arr W' W.heap.size N (fun _=>0)->Ext W W'->((i=1->Value.slice (some ⟨W.heap.size,0,none⟩) N N=.slice D n d)/\(i≠1->∃ h,Value.slice (some ⟨W.heap.size,0,none⟩) N N=.slice (some ⟨h,0,none⟩) N N/\Arr W' h N (fun _=>0)/\w1.heap.size<=h/\(fun x=>if x=W.heap.size then i else T x) h=i))/\Ext w1 W'/\(Ext W W'/\∀ h,h<W.heap.size->(fun x=>if x=W.heap.size then i else T x) h=T h):=fun i W' hi a x =>
    ⟨⟨fun h=>absurd h hi,fun _=>⟨_,rfl,a,hRW.size,if_pos rfl⟩⟩,hRW.tr x,x,fun h hh=>if_neg (by omega)⟩
   simp only[List.mem_cons,List.not_mem_nil,or_false] at hpm;rcases hpm with rfl | rfl | rfl | rfl | rfl
   ·exact Zo (T:=23) rfl (.pointer (some ⟨w.heap.size,5,none⟩)) (by kernel_rfl) (.slice D n d) (by go_simp) (hK _ T W ⟨fun _=>rfl,fun h=>absurd rfl h⟩ hRW ⟨Ext.rf _,fun _ _=>rfl⟩)
   ·exact Xq rfl N (N:Int) (by kernel_rfl) (by kernel_rfl) rfl (by omega) fun W' a x=>hK _ _ _ (MK 4 W' (by decide) a x).1 (MK 4 W' (by decide) a x).2.1 (MK 4 W' (by decide) a x).2.2
   ·exact Xq rfl N (N:Int) (by kernel_rfl) (by kernel_rfl) rfl (by omega) fun W' a x=>hK _ _ _ (MK 7 W' (by decide) a x).1 (MK 7 W' (by decide) a x).2.1 (MK 7 W' (by decide) a x).2.2
   ·exact Xq rfl N (N:Int) (by kernel_rfl) (by kernel_rfl) rfl (by omega) fun W' a x=>hK _ _ _ (MK 10 W' (by decide) a x).1 (MK 10 W' (by decide) a x).2.1 (MK 10 W' (by decide) a x).2.2
   ·exact Xq rfl N (N:Int) (by kernel_rfl) (by kernel_rfl) rfl (by omega) fun W' a x=>hK _ _ _ (MK 13 W' (by decide) a x).1 (MK 13 W' (by decide) a x).2.1 (MK 13 W' (by decide) a x).2.2
  ·intro u T W hRW hV
   have h1:=(hV (1,some 19) (by simp)).1 rfl;obtain⟨gu,h4,a4,z4,e4⟩:=(hV (4,some 22) (by simp)).2 (by decide);obtain⟨gv,h7,a7,z7,e7⟩:=(hV (7,some 25) (by simp)).2 (by decide);obtain⟨gh,h10,a10,z10,e10⟩:=(hV (10,some 28) (by simp)).2 (by decide);obtain⟨gf,h13,a13,z13,e13⟩:=(hV (13,some 31) (by simp)).2 (by decide);have ND:Hid ([gu,gv,gh,gf].Nodup/\∀ k,k<w1.heap.size->¬PS gu gv gh gf k):=by
    refine⟨?_,fun k hk=>?_⟩
    ·simp only[List.nodup_cons,List.mem_cons,List.not_mem_nil,or_false,not_or,not_false_eq_true,List.nodup_nil,and_true]
     refine⟨⟨?_,?_,?_⟩,⟨?_,?_⟩,?_⟩<;>(rintro rfl;omega)
    ·rintro (h | h | h | h)<;>omega
   simp only[Zj,h1,h4,h7,h10,h13];clear hV h1 h4 h7 h10 h13 e4 e7 e10 e13 z4 z7 z10 z13
   try simp only[lay]
   refine Za (i:=14) (op:=Op.build 131 #[(0,Operand.tmp 19),(1,Operand.tmp 22),(2,Operand.tmp 25),(3,Operand.tmp 28),(4,Operand.tmp 31)]) (t:=131) (d:=some 32) (v:=?_) rfl (by decide +kernel) (by decide +kernel) (by decide +kernel) (fun _ _ _ h=>h) ?_ ?_
   case refine_2=>(intro _;unfold Zd;go_simp;try with_reducible rfl)
   try simp only[lay]
   refine Zh 15 (by decide +kernel) (ZB (op:=.box 131 (.tmp 32)) rfl (.pointer (some ⟨W.heap.size,0,none⟩)) (w':=W.alloc (.cells #[.slice D n d,.slice (some ⟨gu,0,none⟩) N N,.slice (some ⟨gv,0,none⟩) N N,.slice (some ⟨gh,0,none⟩) N N,.slice (some ⟨gf,0,none⟩) N N] 131)) (by unfold Zd;go_simp) ?_)
   try simp only[lay]
   refine Za (i:=16) (op:=Op.assign (Operand.tmp 33)) (t:=129) (d:=some 7) (v:=?_) rfl (by decide +kernel) (by decide +kernel) (by decide +kernel) (fun _ _ _ h=>h) ?_ ?_
   case refine_2=>(intro _;unfold Zd;go_simp;try with_reducible rfl)
   try simp only[lay]
   refine wpAny_done (by kernel_rfl) ?_ _;have xa:Ext W (W.alloc (.cells #[.slice D n d,.slice (some ⟨gu,0,none⟩) N N,.slice (some ⟨gv,0,none⟩) N N,.slice (some ⟨gh,0,none⟩) N N,.slice (some ⟨gf,0,none⟩) N N] 131)):=(Ext.rf _).alloc _;go_simp;go_wp2_with (fail);go_meet;exact⟨W.heap.size,gu,gv,gh,gf,rfl,.new rfl,ND.out.1,ND.out.2,a4.ext xa,a7.ext xa,a10.ext xa,a13.ext xa,hRW.tr xa⟩
 case rest =>
 obtain⟨gp,gu,gv,gh,gf,rfl,hP,hd,hb,aU,aV,aH,aF,x5⟩:=hcut;obtain⟨w5,rfl⟩:∃ w5:World,w5=wc:=⟨_,rfl⟩;have X5:=Hd (X1.out.tr x5);have b5:=Hd (b1.out.ext x5);have hbw:∀ k,k<w.heap.size->¬PS gu gv gh gf k:=fun k hk=>hb k (by have:=X1.out.size;omega)
 have gpn:¬PS gu gv gh gf gp:=by
  rintro (h | h | h | h)
  ·exact aU.ne hP (by decide) h.symm
  ·exact aV.ne hP (by decide) h.symm
  ·exact aH.ne hP (by decide) h.symm
  ·exact aF.ne hP (by decide) h.symm
 have PM:=Hd (fun(W:World) (m:Mod (PS gu gv gh gf) w5 W)=>(show PB W gp D d n N gu gv gh gf from hP.mod m gpn));have XM:=Hd (fun(W:World) (m:Mod (PS gu gv gh gf) w5 W)=>X5.out.mod m hbw);have GS:Hid (HI n (Va co) 0 (fun _=>0) (fun _=>0) (fun _=>0)/\Arr w5 gu N (fun _=>0)/\Arr w5 gv N (fun _=>0)/\Arr w5 gh N (fun c=>(((fun _=>0) c:Nat):Int))/\Arr w5 gf N (fun c=>(((fun _=>0) c:Nat):Int))):=⟨HI.start num.out,aU,aV,aH,aF⟩;have hne:gh≠gf:=by
  simp only[List.nodup_cons,List.mem_cons,List.not_mem_nil,or_false,not_or] at hd;exact hd.2.2.1
 have nbx:¬PS gu gv gh gf w.heap.size:=hb _ b1.out.lt;replace hd:=Hd hd;replace hbw:=Hd hbw;replace hne:=Hd hne;clear hP aU aV aH aF x5 hb gpn t1;go_wp2_with (fail);go_loopw [8] (fun v8 wr=>∃ (r k:Nat) (u v:Nat->Int) (has frm:Nat->Nat),v8=.int .i64 r/\Hid (r=k+1)/\r<=n+1/\Hid (HI n (Va co) k u v has/\Arr wr gu N u/\Arr wr gv N v/\Arr wr gh N (fun c=>(has c:Int))/\Arr wr gf N (fun c=>(frm c:Int)))/\Hid (Mod (PS gu gv gh gf) w5 wr)) (fun v8 _=>n+1-(intOf v8).toNat)
 case atStart=>exact⟨1,0,fun _=>0,fun _=>0,fun _=>0,fun _=>0,rfl,rfl,by omega,GS,Mod.rf _⟩
 case round =>
  clear GS;obtain⟨wo,rfl⟩:∃ wo:World,wo=wr:=⟨_,rfl⟩;obtain⟨r,k,u,v,has,frm,rfl,hrk,hr,GS,HM⟩:=hrel
  by_cases hrn:r<=n
  ·have q1:(r:Int)<=(n:Int):=by omega
   have wr1:IntKind.i64.wrap ((r:Int)+1)=((r+1:Nat):Int):=IntWalk.i64_in _ (by omega);obtain⟨hI,aU,aV,aH,aF⟩:=GS.out;have G:=Hd (GR.out wo gp gu gv gh gf k r u v has frm (PM.out _ HM.out) aU aV aH aF hd.out (XM.out _ HM.out) hbw.out hI (by have:=hrk.out;omega) hrk.out);clear hI aU aV aH aF GS;go_wp2_with (fail);refine G.out.mono ?_;rintro e W1 ⟨a1,L,u2,v2,least,has2,frm2,rfl,ha,cU,cV,cH,cF,hG,hO,hM⟩;have HM1:=Hd (HM.out.tr hM);have hI2:=And.intro hG.slack (And.intro hG.neg (And.intro hG.pos hG.fresh));have T:=Hd (Zed (PM.out _ HM1.out) cH cF hne.out hN.out (by omega) hG hO ha);have FIN:=Hd (And.intro cU (And.intro cV cF));clear G hM hG hO ha cU cV cH cF hI2 HM;go_wp2_with (fail);refine T.out.mono ?_;rintro e W2 ⟨rfl,⟨hs,dH,hI3⟩,hM2⟩;obtain⟨cU,cV,cF⟩:=FIN.out;have nd:=hd.out;simp only[List.nodup_cons,List.mem_cons,List.not_mem_nil,or_false,not_or] at nd;have HM3:=Hd (HM1.out.tr (hM2.mono fun k _ hk=>Or.inr (Or.inr (Or.inl hk))));have GS3:Hid (HI n (Va co) r u2 v2 hs/\Arr W2 gu N u2/\Arr W2 gv N v2/\Arr W2 gh N (fun c=>(hs c:Int))/\Arr W2 gf N (fun c=>(frm2 c:Int))) :=
    ⟨hI3,cU.mod hM2 nd.1.2.1,cV.mod hM2 nd.2.1.1,dH,cF.mod hM2 (fun e=>nd.2.2.1 e.symm)⟩
   clear T dH hI3 hM2 cU cV cF nd HM1 FIN;go_wp2_with (fail);go_roundw
   case rel=>exact⟨r+1,r,_,_,_,_,by go_num,rfl,by omega,GS3,HM3⟩
   case measure=>simp[intOf];omega
  ·obtain rfl:r=n+1:=by omega
   obtain rfl:k=n:=by have:=hrk.out;omega
   clear hrk hrn hr;obtain⟨hI,-,-,aH,-⟩:=GS.out;have q1:¬(((k+1:Nat):Int)<=(k:Int)):=by omega
   have PH:Hid (PB wo gp D d k N gu gv gh gf):=PM.out _ HM.out;have XX:=Hd (XM.out _ HM.out);have BX:=Hd (b5.out.mod HM.out nbx);have FU:=Hd (fun c (c1:1<=c) (c2:c<=k)=>hI.full c1 c2);have INJ:=Hd (fun c c' (c1:1<=c) (c2:c<=k) (d1:1<=c') (d2:c'<=k) (e:has c=has c')=>hI.inj c c' c1 c2 d1 d2 e (by have:=hI.full c1 c2;omega));replace hI:=Hd hI;replace aH:=Hd aH;clear GS HM PM XM b5 X5 b1 X1;go_wp2_with (at_make;refine Wh _ rfl _ _ rfl wo.heap.size _ _ k rfl rfl rfl rfl (by omega) (Nat.le_refl _) ?_;rintro w6 o6 g6;replace o6:=Hd o6;replace g6:=Hd g6);have x6:=Hd ((Ext.rf wo).grownNone g6.out);have a6:=Hd (Arr.of_own o6.out);have PH6:=Hd (Blk.ext PH.out x6.out);have aH6:=Hd (aH.out.ext x6.out);have zx:wo.heap.size≠gh/\wo.heap.size≠gp:=by
    have:=aH.out.lt;have:=Blk.lt PH.out;omega
   generalize hgx:wo.heap.size=gx at *;replace hgx:=Hd hgx;clear o6 g6 PH aH;go_loopw [10] (fun v10 wr=>∃ (c:Nat) (xf:Nat->Nat),v10=.int .i64 c/\1<=c/\c<=k+1/\Hid (∀ j,1<=j->j<c->xf (has j-1)=j-1)/\Hid (Arr wr gx k fun i=>(xf i:Int))/\Hid (Mod (fun b=>b=gx) w6 wr)) (fun v10 _=>k+1-(intOf v10).toNat)
   case atStart=>exact⟨1,fun _=>0,rfl,by omega,by omega,fun j h1 h2=>by omega,a6.out,Mod.rf _⟩
   case round =>
    clear a6;obtain⟨wp,rfl⟩:∃ wp:World,wp=wr:=⟨_,rfl⟩;obtain⟨c,xf,rfl,hc1,hck,HX,aX,HM⟩:=hrel
    by_cases hcn:c<=k
    ·have q2:(c:Int)<=(k:Int):=by omega
     have wc1:IntKind.i64.wrap ((c:Int)+1)=((c+1:Nat):Int):=IntWalk.i64_in _ (by omega);have fu:=FU.out c hc1 hcn;obtain⟨h,hh⟩:∃ h,Hid (has c=h):=⟨_,rfl⟩;rw[hh.out] at fu;obtain⟨h1,hh1⟩:∃ h1,Hid (h-1=h1):=⟨_,rfl⟩;obtain⟨c1,hhc⟩:∃ c1,Hid (c-1=c1):=⟨_,rfl⟩;have w2:IntKind.i64.wrap ((h:Int)-1)=(h1:Int):=by
      have:=hh1.out;rw[show (h:Int)-1=(h1:Int) by omega];exact IntWalk.i64_in _ (by omega)
     have w3:IntKind.i64.wrap ((c:Int)-1)=(c1:Int):=by
      have:=hhc.out;rw[show (c:Int)-1=(c1:Int) by omega];exact IntWalk.i64_in _ (by omega)
     have p3:wp.cell? ⟨gp,3,none⟩=some (.slice (some ⟨gh,0,none⟩) N N):=(Blk.mod PH6.out HM.out zx.2.symm).cell 3;have kh:=(aH6.out.mod HM.out zx.1.symm).cell (k:=c) (by have:=hN.out;omega);simp only[hh.out] at kh;have qh:(h1:Int)<(k:Int):=by have:=hh1.out;omega
     have qh':h1<k:=by have:=hh1.out;omega
     have qc:(c:Int)<(N:Int):=by have:=hN.out;omega
     have kx:=aX.out.cell qh';have fx:=aX.out.free h1;have aX2:Hid (Arr (wp.setCell ⟨gx,h1,none⟩ (.int .i64 c1)) gx k fun i=>((if i=h1 then c1 else xf i:Nat):Int)):=(aX.out.set h1 (c1:Int)).congr fun i _=>by split<;>rfl
     have HM2:=Hd (HM.out.set (p:=⟨gx,h1,none⟩) (.inl rfl) (.int .i64 c1));have HX2:Hid (∀ j,1<=j->j<c+1->(fun i=>if i=h1 then c1 else xf i) (has j-1)=j-1):=fun j j1 j2=>by
      simp only
      by_cases e:j=c
      ·subst e
       rw[hh.out,hh1.out,if_pos rfl,hhc.out]
      ·have h3:=FU.out j j1 (by omega)
       have h4:=hh.out;have h5:=hh1.out;rw[if_neg (fun e2=>e (INJ.out j c j1 (by omega) hc1 hcn (by omega)))];exact HX.out j j1 (by omega)
     clear HX aX HM fu;go_wp2_with (fail);go_roundw
     case rel=>exact⟨c+1,_,by go_num,by omega,by omega,HX2,aX2,HM2⟩
     case measure=>simp[intOf];omega
    ·obtain rfl:c=k+1:=by omega
     have HU:=Zec (x:=(List.range k).map xf) hn.out hI.out (by simp) (fun j j1 j2=>by
      have h3:=FU.out j j1 j2;rw[List.getElem?_map,List.getElem?_range (by omega),Option.map_some,HX.out j j1 (by omega)])
     have RD:RdI wp (some ⟨gx,0,none⟩) (Ze ((List.range k).map xf)):=by
      have:=aX.out.rdI
      simpa [Ze,Function.comp_def] using this
     have XW:Ext w wp:=(XX.out.tr x6.out).mod HM.out (fun b hb e=>by
      have h1:=hgx.out;have h2:=XX.out.size;omega)
     have LE:Hid (Least co k (Zr co (Ze ((List.range k).map xf)))):=⟨⟨_,HU.1,rfl⟩,HU.2⟩;have TT:=Hd (TO.out (some ⟨gx,0,none⟩) k ((List.range k).map xf) wp XW RD HU.1);have FIN:=Hd (And.intro HU.1 (And.intro RD XW));have BXp:=(BX.out.ext x6.out).mod HM.out (fun e=>by
      have h1:=hgx.out;have h2:=BX.out.lt;omega)
     have t0:=BXp.c0;have t1:=BXp.c1;have t2:=BXp.c2;have t3:=BXp.c3;have t4:=BXp.c4;have t5:=BXp.c5;have q2:¬(((k+1:Nat):Int)<=(k:Int)):=by omega
     have mk:k<=maxLen:=by simp only[maxLen];omega
     clear HU RD XW BXp HX aX HM BX XX INJ FU hI;generalize (List.range k).map xf=l at *;go_wp2_with (fail);refine TT.out.mono ?_;rintro e W9 ⟨rfl,x9⟩;clear t0 t1 t2 t3 t4 t5 TT;go_wp2_with (fail);go_ret3;unfold JS;rw[hn.out];exact⟨_,_,l,rfl,FIN.out.2.1.ext x9,FIN.out.1,Nat.le_refl _,mk,LE.out,FIN.out.2.2.tr x9⟩
def ZD (i:InstP)(k:Int) : Int:=if Zl i≠0 then Zl i else if i.kind≠k then 14 else if (k=1/\18<i.n)\/(k=3/\12<i.n) then 5 else 0
def Vq (i:InstP)(k:Int) : Int:=if Zl i≠0 then Zl i else if k≠0/\i.kind≠k then 14 else if (i.kind=1/\18<i.n)\/(i.kind=3/\12<i.n) then 5 else 0
theorem VJ {i:InstP}{k:Int}(h:ZD i k=0) : Zl i=0/\i.kind=k/\(k=1->i.n<=18)/\(k=3->i.n<=12):=by
 unfold ZD at h
 by_cases hc:Zl i=0
 ·by_cases e:i.kind=k
  ·by_cases h2:(k=1/\18<i.n)\/(k=3/\12<i.n)
   ·simp[hc,e,h2] at h
   ·exact⟨hc,e,fun h3=>by omega,fun h3=>by omega⟩
  ·simp[hc,e] at h
 ·simp[hc] at h
theorem UB (i:InstP)(us:List Value)(k:Int)(w:World)(H:RInst w us i)(lw:i.weight.length<=1000000000)(lv:i.value.length<=1000000000) :
  Calls Tryz.prog 80 #[.agg (List.toArray us),.int .i64 k] w fun e w'=>e=.returned (.int .i64 (ZD i k))/\Ext w w':=by
 have CH:=fun(W:World) (x:Ext w W)=>ZA i us W (H.ext x) lw lv
 obtain⟨c,hcc⟩:∃ c,Hid (Zl i=c):=⟨_,rfl⟩;have TP:Hid (∀ v,(if c≠0 then c else if i.kind≠k then 14 else if (k=1/\18<i.n)\/(k=3/\12<i.n) then 5 else 0)=v->ZD i k=v):=fun v h=>by
  unfold ZD;rw[hcc.out];exact h
 generalize ZD i k=tp at *;rw[hcc.out] at CH;obtain⟨kind,nn,cap,xw,xv,co⟩:=i;obtain⟨A,a,B,b,D,d,rfl,-,-,-⟩:=H;simp only at *;have B1:Hid (Blk (w.alloc (.cells #[.int .i64 kind,.int .i64 nn,.int .i64 cap,.slice A xw.length a,.slice B xv.length b,.slice D co.length d] 25)) w.heap.size 25 #[.int .i64 kind,.int .i64 nn,.int .i64 cap,.slice A xw.length a,.slice B xv.length b,.slice D co.length d]):=.new rfl;replace CH:=Hd CH;clear hcc lw lv;go_enter Tryz.func80,Tryz.ntmps80;go_wp2_with (fail);refine(CH.out _ (by(repeat (first | assumption | exact Ext.rf _ | apply Ext.drew | apply Ext.drewN | apply Ext.alloc)))).mono ?_;rintro e w1 ⟨rfl,x1⟩;have X1:=Hd (Ext.tr (a:=w) (by(repeat (first | assumption | exact Ext.rf _ | apply Ext.drew | apply Ext.drewN | apply Ext.alloc))) x1);have b1:=Hd (B1.out.ext x1);have t0:=b1.out.c0;have t1:=b1.out.c1;clear x1 B1
 by_cases hc:c=0
 ·subst hc
  by_cases hk:kind=k
  ·subst hk
   have kk:(kind != kind)=false:=by simp
   by_cases k1:kind=1
   ·subst k1
    by_cases hn:18<nn
    ·have T5:=TP.out 5 (by simp[hn])
     clear TP;go_wp2_with (fail);go_ret;exact⟨by rw[T5];rfl,X1.out.tr (by(repeat (first | assumption | exact Ext.rf _ | apply Ext.drew | apply Ext.drewN | apply Ext.alloc)))⟩
    ·have T5:=TP.out 0 (by simp[hn])
     clear TP;go_wp2_with (fail);go_ret;exact⟨by rw[T5];rfl,X1.out.tr (by(repeat (first | assumption | exact Ext.rf _ | apply Ext.drew | apply Ext.drewN | apply Ext.alloc)))⟩
   ·by_cases k3:kind=3
    ·subst k3
     by_cases hn:12<nn
     ·have T5:=TP.out 5 (by simp[hn])
      clear TP;go_wp2_with (fail);go_ret;exact⟨by rw[T5];rfl,X1.out.tr (by(repeat (first | assumption | exact Ext.rf _ | apply Ext.drew | apply Ext.drewN | apply Ext.alloc)))⟩
     ·have T5:=TP.out 0 (by simp[hn])
      clear TP;go_wp2_with (fail);go_ret;exact⟨by rw[T5];rfl,X1.out.tr (by(repeat (first | assumption | exact Ext.rf _ | apply Ext.drew | apply Ext.drewN | apply Ext.alloc)))⟩
    ·have T5:=TP.out 0 (by simp[k1,k3])
     have e1:(kind==1)=false:=by simpa using k1
     have e3:(kind==3)=false:=by simpa using k3
     clear TP;go_wp2_with (fail);go_ret;exact⟨by rw[T5];rfl,X1.out.tr (by(repeat (first | assumption | exact Ext.rf _ | apply Ext.drew | apply Ext.drewN | apply Ext.alloc)))⟩
  ·have T5:=TP.out 14 (by simp[hk])
   have e1:(kind != k)=true:=by simpa using hk
   clear TP;go_wp2_with (fail);go_ret;exact⟨by rw[T5];rfl,X1.out.tr (by(repeat (first | assumption | exact Ext.rf _ | apply Ext.drew | apply Ext.drewN | apply Ext.alloc)))⟩
 ·have T5:=TP.out c (by simp[hc])
  have e1:(c != 0)=true:=by simpa using hc
  clear TP;go_wp2_with (fail);go_ret;exact⟨by rw[T5];rfl,X1.out.tr (by(repeat (first | assumption | exact Ext.rf _ | apply Ext.drew | apply Ext.drewN | apply Ext.alloc)))⟩
attribute [local go_sem] Oper.semAt_some
def ZaP (i:InstP)(x:List Int)(v:Int) : Prop :=
 (i.kind=1/\∃ n m:Nat,i.n=n/\x=xB m n/\m<2^n/\ZT (atF i.weight) n m<=i.cap/\v=YO (atF i.value) n m/\∀ s,s<2^n->ZT (atF i.weight) n s<=i.cap->v<=YO (atF i.value) n s) ∨
 (i.kind=2/\∃ l:List Nat,x=Ze l/\l.Perm (List.range i.cost.length)/\v=Zr i.cost (Ze l)/\Least i.cost i.cost.length v) ∨
 (i.kind=3/\∃ q:List Nat,x=Ze (0::q)/\(0::q).Perm (List.range i.cost.length)/\v=Zx i.cost 0 q/\LeastT i.cost i.cost.length v)
def VM (i:InstP)(t:Int)(w:World)(e:Ending)(w':World) : Prop :=
 (t≠0/\e=.returned (.tuple #[.slice none 0 0,.int .i64 0,.int .i64 t])/\Ext w w') ∨
 (t=0/\∃ A x c v,e=.returned (.tuple #[.slice A x.length c,.int .i64 v,.int .i64 0])/\RdI w' A x/\ZaP i x v/\x.length<=c/\c<=maxLen/\Ext w w')
section
variable (i:InstP) (us:List Value) (w:World) (H:RInst w us i) (lw:i.weight.length<=1000000000) (lv:i.value.length<=1000000000)
include H lw lv
theorem ZeN (h:ZD i 1≠0) : CallsIn Fence.wide 3 Tryz.prog 44 #[.agg (List.toArray us)] w fun e w'=>e=.returned (.tuple #[.slice none 0 0,.int .i64 0,.int .i64 (ZD i 1)])/\Ext w w':=by
 have TK:=fun(W:World) (x:Ext w W)=>UB i us 1 W (H.ext x) lw lv
 generalize ZD i 1=tp at *;have e1:(tp != 0)=true:=by simpa using h
 obtain⟨kind,nn,cap,xw,xv,co⟩:=i;obtain⟨A,a,B,b,D,d,rfl,-,-,-⟩:=H;simp only at *;replace TK:=Hd TK;clear h lw lv;refine callsIn_of_wp_marks Tryz.func44 rfl trivial ?_ rfl;simp only[Tryz.ntmps44,List.size_toArray,List.length_cons,List.length_nil,Nat.reduceAdd,Nat.reduceSub,Array.replicate_succ,Array.replicate_zero,List.push_toArray,List.append_toArray,List.nil_append,List.cons_append];refine wpIn_wide.2 (wp_mono ?_ Ug);go_wp2_with (fail);refine(TK.out _ (by(repeat (first | assumption | exact Ext.rf _ | apply Ext.drew | apply Ext.drewN | apply Ext.alloc)))).mono ?_;rintro e w1 ⟨rfl,x1⟩;have X1:=Hd (Ext.tr (a:=w) (by(repeat (first | assumption | exact Ext.rf _ | apply Ext.drew | apply Ext.drewN | apply Ext.alloc))) x1);clear x1;go_wp2_with (fail);refine⟨.tuple #[.slice none 0 0,.int .i64 0,.int .i64 tp],by simp[results,Tryz.results44,go_sem],rfl,X1.out.tr (by(repeat (first | assumption | exact Ext.rf _ | apply Ext.drew | apply Ext.drewN | apply Ext.alloc)))⟩
theorem Zfb (h:ZD i 2≠0) : Calls Tryz.prog 42 #[.agg (List.toArray us)] w fun e w'=>e=.returned (.tuple #[.slice none 0 0,.int .i64 0,.int .i64 (ZD i 2)])/\Ext w w':=by
 have TK:=fun(W:World) (x:Ext w W)=>UB i us 2 W (H.ext x) lw lv
 generalize ZD i 2=tp at *;have e1:(tp != 0)=true:=by simpa using h
 obtain⟨kind,nn,cap,xw,xv,co⟩:=i;obtain⟨A,a,B,b,D,d,rfl,-,-,-⟩:=H;simp only at *;replace TK:=Hd TK;clear h lw lv;go_enter Tryz.func42,Tryz.ntmps42;go_wp2_with (fail);refine(TK.out _ (by(repeat (first | assumption | exact Ext.rf _ | apply Ext.drew | apply Ext.drewN | apply Ext.alloc)))).mono ?_;rintro e w1 ⟨rfl,x1⟩;have X1:=Hd (Ext.tr (a:=w) (by(repeat (first | assumption | exact Ext.rf _ | apply Ext.drew | apply Ext.drewN | apply Ext.alloc))) x1);clear x1;go_wp2_with (fail);go_ret3;exact⟨rfl,X1.out.tr (by(repeat (first | assumption | exact Ext.rf _ | apply Ext.drew | apply Ext.drewN | apply Ext.alloc)))⟩
theorem ZeO (h:ZD i 3≠0) : Calls Tryz.prog 43 #[.agg (List.toArray us)] w fun e w'=>e=.returned (.tuple #[.slice none 0 0,.int .i64 0,.int .i64 (ZD i 3)])/\Ext w w':=by
 have TK:=fun(W:World) (x:Ext w W)=>UB i us 3 W (H.ext x) lw lv
 generalize ZD i 3=tp at *;have e1:(tp != 0)=true:=by simpa using h
 obtain⟨kind,nn,cap,xw,xv,co⟩:=i;obtain⟨A,a,B,b,D,d,rfl,-,-,-⟩:=H;simp only at *;replace TK:=Hd TK;clear h lw lv;go_enter Tryz.func43,Tryz.ntmps43;go_wp2_with (fail);refine(TK.out _ (by(repeat (first | assumption | exact Ext.rf _ | apply Ext.drew | apply Ext.drewN | apply Ext.alloc)))).mono ?_;rintro e w1 ⟨rfl,x1⟩;have X1:=Hd (Ext.tr (a:=w) (by(repeat (first | assumption | exact Ext.rf _ | apply Ext.drew | apply Ext.drewN | apply Ext.alloc))) x1);clear x1;go_wp2_with (fail);go_ret3;exact⟨rfl,X1.out.tr (by(repeat (first | assumption | exact Ext.rf _ | apply Ext.drew | apply Ext.drewN | apply Ext.alloc)))⟩
theorem ZeP (hT:Tab w) : Calls Tryz.prog 44 #[.agg (List.toArray us)] w (VM i (ZD i 1) w):=by
 by_cases h:ZD i 1=0
 ·obtain⟨hc,hk,h18,-⟩:=VJ h
  have ok:=Z3 hc hk;have n1:=ok.n1;obtain⟨n,hn⟩:∃ n:Nat,i.n=n:=⟨i.n.toNat,by omega⟩;refine(JR i us n w H hT hc hk hn (by have:=h18 rfl;omega)).mono ?_;rintro e w' ⟨A,c,m,rfl,h1,h2,h3,h4,h5,h6,h7⟩;exact .inr ⟨h,A,xB m n,c,_,by rw[Wy],h1,.inl ⟨hk,n,m,hn,rfl,h2,h3,rfl,h6⟩,by rw[Wy];exact h4,h5,h7⟩
 ·refine(callsIn_wide.1 (ZeN i us w H lw lv h)).mono ?_
  rintro e w' ⟨rfl,x⟩;exact .inl ⟨h,rfl,x⟩
theorem Zfc : Calls Tryz.prog 42 #[.agg (List.toArray us)] w (VM i (ZD i 2) w):=by
 by_cases h:ZD i 2=0
 ·obtain⟨hc,hk,-⟩:=VJ h
  refine(Zb8 i us w H hc hk).mono ?_;rintro e w' ⟨A,c,l,rfl,h1,h2,h3,h4,h5,h6⟩;have hl:(Ze l).length=i.cost.length:=by rw[Zn,h2.length_eq,List.length_range]
  exact .inr ⟨h,A,Ze l,c,_,by rw[hl],h1,.inr (.inl ⟨hk,l,rfl,h2,rfl,h5⟩),by rw[hl];exact h3,h4,h6⟩
 ·refine(Zfb i us w H lw lv h).mono ?_
  rintro e w' ⟨rfl,x⟩;exact .inl ⟨h,rfl,x⟩
theorem ZeQ : Calls Tryz.prog 43 #[.agg (List.toArray us)] w (VM i (ZD i 3) w):=by
 by_cases h:ZD i 3=0
 ·obtain⟨hc,hk,-,h12⟩:=VJ h
  refine(Zd5 i us w H hc hk (h12 rfl)).mono ?_;rintro e w' ⟨A,c,q,rfl,h1,h2,h3,h4,h5,h6⟩;have hl:(Ze (0::q)).length=i.cost.length:=by rw[Zn,h2.length_eq,List.length_range]
  exact .inr ⟨h,A,Ze (0::q),c,_,by rw[hl],h1,.inr (.inr ⟨hk,q,rfl,h2,rfl,h5⟩),by rw[hl];exact h3,h4,h6⟩
 ·refine(ZeO i us w H lw lv h).mono ?_
  rintro e w' ⟨rfl,x⟩;exact .inl ⟨h,rfl,x⟩
end
end Go.Proofs.YtmojhhlcocjoaaaGreatDoor
namespace Go.Proofs.YtmojhhlcocjoaaaGreatDoor
open Go.RowKit Go.ChangeShapes Go.WideShapes Go.ChangeAt Go.Deep
theorem ZaQ {i:InstP} : Vq i 0=if i.kind=2 then ZD i 2 else if i.kind=3 then ZD i 3 else if Zl i≠0 then Zl i else ZD i 1:=by
 unfold Vq ZD
 by_cases hc:Zl i=0
 ·rcases Yu hc with h | h | h<;>simp[hc,h]
 ·by_cases h2:i.kind=2
  ·simp[hc,h2]
  ·by_cases h3:i.kind=3<;>simp[hc,h2,h3]
theorem ZeR (i:InstP)(us:List Value)(w:World)(H:RInst w us i)(lw:i.weight.length<=1000000000)(lv:i.value.length<=1000000000)(hT:Tab w) :
  Calls Tryz.prog 13 #[.agg (List.toArray us)] w (VM i (Vq i 0) w):=by
 have CH:=fun(W:World) (x:Ext w W)=>ZA i us W (H.ext x) lw lv
 have KX:=fun(W:World) (x:Ext w W)=>ZeP i us W (H.ext x) lw lv (hT.ext x)
 have AX:=fun(W:World) (x:Ext w W)=>Zfc i us W (H.ext x) lw lv
 have TX:=fun(W:World) (x:Ext w W)=>ZeQ i us W (H.ext x) lw lv
 have RK:=ZaQ (i:=i);have PK:∀ (t:Int) (W W':World) (e:Ending),Ext w W->VM i t W e W'->∃ A n c v r,e=.returned (.tuple #[.slice A n c,.int .i64 v,.int .i64 r])/\(∀ W2,Ext W' W2->VM i t w e W2):=by
  rintro t W W' e X (⟨h,rfl,x⟩ | ⟨h,A,xs,c,v,rfl,h1,h2,h3,h4,x⟩)
  ·exact⟨none,0,0,0,t,rfl,fun W2 y=>.inl ⟨h,rfl,(X.tr x).tr y⟩⟩
  ·exact⟨A,xs.length,c,v,0,rfl,fun W2 y=>.inr ⟨h,A,xs,c,v,rfl,h1.ext y,h2,h3,h4,(X.tr x).tr y⟩⟩
 generalize Vq i 0=t0 at *;obtain⟨t1,ht1⟩:∃ t1,Hid (ZD i 1=t1):=⟨_,rfl⟩;obtain⟨t2,ht2⟩:∃ t2,Hid (ZD i 2=t2):=⟨_,rfl⟩;obtain⟨t3,ht3⟩:∃ t3,Hid (ZD i 3=t3):=⟨_,rfl⟩;obtain⟨cc,hcc⟩:∃ cc,Hid (Zl i=cc):=⟨_,rfl⟩;rw[ht1.out] at KX;rw[ht2.out] at AX;rw[ht3.out] at TX;rw[hcc.out] at CH;rw[ht1.out,ht2.out,ht3.out,hcc.out] at RK;obtain⟨P,hP⟩:∃ P:Int->World->Ending->World->Prop,P=VM i:=⟨_,rfl⟩;rw[<-hP] at KX AX TX PK ⊢;have BAD:Hid (∀ t W,t≠0->Ext w W->P t w (.returned (.tuple #[.slice none 0 0,.int .i64 0,.int .i64 t])) W):=fun t W h x=>by rw[hP];exact .inl ⟨h,rfl,x⟩
 clear ht1 ht2 ht3 hcc hP lw lv hT;obtain⟨kind,nn,cap,xw,xv,co⟩:=i;obtain⟨A,a,B,b,D,d,rfl,-,-,-⟩:=H;simp only at *;have B1:Hid (Blk (w.alloc (.cells #[.int .i64 kind,.int .i64 nn,.int .i64 cap,.slice A xw.length a,.slice B xv.length b,.slice D co.length d] 25)) w.heap.size 25 #[.int .i64 kind,.int .i64 nn,.int .i64 cap,.slice A xw.length a,.slice B xv.length b,.slice D co.length d]):=.new rfl;replace CH:=Hd CH;replace KX:=Hd KX;replace AX:=Hd AX;replace TX:=Hd TX;replace PK:=Hd PK;go_enter Tryz.func13,Tryz.ntmps13
 by_cases h2:kind=2
 ·rw[if_pos h2] at RK
  subst RK;have e2:(kind==2)=true:=by simpa using h2
  clear h2;go_wp2_with (fail);refine(AX.out _ (by(repeat (first | assumption | exact Ext.rf _ | apply Ext.drew | apply Ext.drewN | apply Ext.alloc)))).mono ?_;intro e w1 hp;obtain⟨A9,n9,c9,v9,r9,rfl,hq⟩:=PK.out _ _ _ _ (by(repeat (first | assumption | exact Ext.rf _ | apply Ext.drew | apply Ext.drewN | apply Ext.alloc))) hp;replace hq:=Hd hq;clear hp;go_wp2_with (fail);go_ret3;exact hq.out _ (by(repeat (first | assumption | exact Ext.rf _ | apply Ext.drew | apply Ext.drewN | apply Ext.alloc)))
 ·rw[if_neg h2] at RK
  have e2:(kind==2)=false:=by simpa using h2
  clear h2
  by_cases h3:kind=3
  ·rw[if_pos h3] at RK
   subst RK;have e3:(kind==3)=true:=by simpa using h3
   clear h3;go_wp2_with (fail);refine(TX.out _ (by(repeat (first | assumption | exact Ext.rf _ | apply Ext.drew | apply Ext.drewN | apply Ext.alloc)))).mono ?_;intro e w1 hp;obtain⟨A9,n9,c9,v9,r9,rfl,hq⟩:=PK.out _ _ _ _ (by(repeat (first | assumption | exact Ext.rf _ | apply Ext.drew | apply Ext.drewN | apply Ext.alloc))) hp;replace hq:=Hd hq;clear hp;go_wp2_with (fail);go_ret3;exact hq.out _ (by(repeat (first | assumption | exact Ext.rf _ | apply Ext.drew | apply Ext.drewN | apply Ext.alloc)))
  ·rw[if_neg h3] at RK
   have e3:(kind==3)=false:=by simpa using h3
   clear h3;replace RK:=Hd RK;go_wp2_with (fail);refine(CH.out _ (by(repeat (first | assumption | exact Ext.rf _ | apply Ext.drew | apply Ext.drewN | apply Ext.alloc)))).mono ?_;rintro e w1 ⟨rfl,x1⟩;replace RK:=RK.out;have X1:=Hd (Ext.tr (a:=w) (by(repeat (first | assumption | exact Ext.rf _ | apply Ext.drew | apply Ext.drewN | apply Ext.alloc))) x1);have b1:=Hd (B1.out.ext x1)
   by_cases hc:cc=0
   ·rw[if_neg (by simpa using hc)] at RK
    subst RK hc;have y0:=b1.out.c0;have y1:=b1.out.c1;have y2:=b1.out.c2;have y3:=b1.out.c3;have y4:=b1.out.c4;have y5:=b1.out.c5;clear x1 B1;go_wp2_with (fail);refine(KX.out _ (X1.out.tr (by(repeat (first | assumption | exact Ext.rf _ | apply Ext.drew | apply Ext.drewN | apply Ext.alloc))))).mono ?_;intro e w2 hp;obtain⟨A9,n9,c9,v9,r9,rfl,hq⟩:=PK.out _ _ _ _ (X1.out.tr (by(repeat (first | assumption | exact Ext.rf _ | apply Ext.drew | apply Ext.drewN | apply Ext.alloc)))) hp;replace hq:=Hd hq;clear hp y0 y1 y2 y3 y4 y5;go_wp2_with (fail);go_ret3;exact hq.out _ (by(repeat (first | assumption | exact Ext.rf _ | apply Ext.drew | apply Ext.drewN | apply Ext.alloc)))
   ·rw[if_pos hc] at RK
    subst RK;have e4:(t0 != 0)=true:=by simpa using hc
    clear x1 B1;replace hc:=Hd hc;go_wp2_with (fail);go_ret3;exact BAD.out _ _ hc.out (X1.out.tr (by(repeat (first | assumption | exact Ext.rf _ | apply Ext.drew | apply Ext.drewN | apply Ext.alloc))))
theorem UC (n m:Nat)(ws:List Int)(h:ws.length=n) : Z0 (xB m n) ws=ZT (atF ws) n m:=by
 unfold Z0;rw[YG _ _ _ (by rw[Wy,h]),Wy];unfold ZT
 congr 1
 refine List.map_congr_left fun j hj=>?_
 have hj':=List.mem_range.1 hj;rw[getD_some (ZbB hj')];unfold atF
 by_cases hb:m.testBit j=true<;>simp[hb]
theorem QK (n m:Nat)(vs:List Int)(h:vs.length=n) : Yq (xB m n) vs=YO (atF vs) n m:=by
 unfold Yq;rw[YG _ _ _ (by rw[Wy,h]),Wy];unfold YO
 congr 1
 refine List.map_congr_left fun j hj=>?_
 have hj':=List.mem_range.1 hj;rw[getD_some (ZbB hj')];unfold atF
 by_cases hb:m.testBit j=true<;>simp[hb]
theorem Zda {i:InstP}(hc:Zl i=0)(hk:i.kind=1){x:List Int}{v:Int}(ha:ZaP i x v) : ∃ n:Nat,i.n=n/\Xi i.cap i.weight i.value n []=v:=by
 rcases ha with⟨-,n,m,hn,rfl,h1,h2,rfl,h3⟩ | ⟨hk2,_⟩ | ⟨hk2,_⟩
 ·have ok:=Z3 hc hk
  have hw:i.weight.length=n:=by have:=ok.w;omega
  have hv:i.value.length=n:=by have:=ok.v;omega
  refine⟨n,hn,?_⟩;obtain⟨b1,b2⟩:=Vp (cap:=i.cap) (ws:=i.weight) (vs:=i.value) (n:=n) (fun z hz=>(ok.sv z hz).1) n [] (by simp) (by simp);have hx01:∀ m',∀ y∈xB m' n,y=0\/y=1:=fun m' y hy=>by
   unfold xB at hy;obtain⟨j,_,rfl⟩:=List.mem_map.1 hy;split<;>simp
  have h4:=b2 (xB m n) ⟨⟨xB m n,rfl⟩,Wy m n,hx01 m⟩ (by rw[UC n m _ hw];exact h2);rw[QK n m _ hv] at h4;rcases b1 with h5 | ⟨y,⟨_,hy1,hy2⟩,h6,h7⟩
  ·omega
  ·obtain⟨s,hs,rfl⟩:=Zb5 n y hy1 hy2
   rw[UC n s _ hw] at h6;rw[QK n s _ hv] at h7;have:=h3 s hs h6;omega
 ·omega
 ·omega
theorem Jq {n:Nat}(h24:n<=24){m:Nat}(h:ZO n []=some m) : ∀ q:List Nat,q.Perm (Zc m)↔q.Perm (List.range n):=by
 obtain⟨l,e,h1,h2,h3⟩:=Qx h24 h;have e0:l=[]:=List.eq_nil_of_length_eq_zero (by have:=congrArg List.length e;rw[Zn] at this;exact this.symm);subst e0;have hp:(Zc m).Perm (List.range n):=(List.perm_ext_iff_of_nodup ((Zw m).imp fun h=>Nat.ne_of_lt h) List.nodup_range).2 fun x=>by rw[h3,List.mem_range];simp
 exact fun q=>⟨fun hq=>hq.trans hp,fun hq=>hq.trans hp.symm⟩
theorem Zdb {i:InstP}(hc:Zl i=0)(hk:i.kind=2){x:List Int}{v:Int}(ha:ZaP i x v) : YD i.cost i.cost.length i.cost.length []=v:=by
 have rok:=ZZ (Zt hc (by omega));have h24:=rok.n2;have num:∀ row∈i.cost,∀ c,c<i.cost.length->0<=row.getD c 0:=fun row hr c hc=>(rok.get hr hc).1
 rcases ha with⟨hk2,_⟩ | ⟨-,l,-,-,-,hL⟩ | ⟨hk2,_⟩
 ·omega
 ·obtain⟨q,h1,h2⟩:=Vk h24 num i.cost.length [] _ Xz (by simp)
  rw[Jq h24 Xz] at h1;refine Least.one (n:=i.cost.length) ⟨⟨q,h1,by rw[h2];rfl⟩,fun q' hq'=>?_⟩ hL;exact ZaG h24 num i.cost.length [] _ Xz (by simp) q' ((Jq h24 Xz q').2 hq')
 ·omega
theorem LeastT.one {rows:List (List Int)}{n:Nat}{c d:Int}(h:LeastT rows n c)(k:LeastT rows n d) : c=d:=by
 obtain⟨x,h1,h2⟩:=h.1;obtain⟨y,k1,k2⟩:=k.1;have a:=h.2 y k1;have b:=k.2 x h1;omega
theorem Jr {n:Nat}(h1:1<=n)(h24:n<=24)(q:List Nat) : q.Perm (Zc (WU n))↔(0::q).Perm (List.range n):=by
 have hp:(0::Zc (WU n)).Perm (List.range n):=by
  refine(List.perm_ext_iff_of_nodup (List.nodup_cons.2 ⟨fun h=>((Vn h24).1 h).2 rfl,(Zw _).imp fun h=>Nat.ne_of_lt h⟩) List.nodup_range).2 fun x=>?_
  rw[List.mem_cons,Vn h24,List.mem_range]
  by_cases e:x=0
  ·subst e
   simp;omega
  ·simp[e]
 exact⟨fun h=>(h.cons 0).trans hp,fun h=>((List.perm_cons 0).1 (h.trans hp.symm))⟩
theorem Zdc {i:InstP}(hc:Zl i=0)(hk:i.kind=3){x:List Int}{v:Int}(ha:ZaP i x v) : YJ i.cost (i.cost.length-1) []=v/\0<=v:=by
 have rok:=ZZ (Zt hc (by omega));have h24:=rok.n2;have h1:=rok.n1;have num:∀ a b,a<i.cost.length->b<i.cost.length->0<=Zb i.cost a b:=fun a b ha hb=>(Xe rok a b ha hb).1
 obtain⟨l,W⟩:=YW h1 h24 (Wv (rows:=i.cost));have hl:l=[]:=List.eq_nil_of_length_eq_zero (by have:=congrArg List.length W.eq;rw[Zn] at this;exact this.symm);subst hl;rcases ha with⟨hk2,_⟩ | ⟨hk2,_⟩ | ⟨-,q0,-,h3,h4,hL⟩
 ·omega
 ·omega
 ·obtain⟨q,a1,a2⟩:=Wu h1 h24 num (i.cost.length-1) [] _ _ _ [] Wv W (by simp)
  rw[Jr h1 h24] at a1;refine⟨LeastT.one (n:=i.cost.length) ⟨⟨q,a1,by rw[a2];rfl⟩,fun q' hq'=>?_⟩ hL,?_⟩
  ·exact ZaH h1 h24 num (i.cost.length-1) [] _ _ _ [] Wv W (by simp) q' ((Jr h1 h24 q').2 hq')
  ·rw[h4]
   exact Vo num _ _ (by omega) fun y hy=>List.mem_range.1 (h3.mem_iff.1 (by simp[hy]))
theorem Zeg {i:InstP}(hc:Zl i=0){x:List Int}{v:Int}(ha:ZaP i x v) : Zb3 i x=(v,0)/\v=Ua i:=by
 rcases Yu hc with hk | hk | hk
 ·obtain⟨n0,hn0,hb⟩:=Zda hc hk ha
  have hbI:v=Ua i:=by
   unfold Ua;rw[if_pos hk,<-hb]
   congr 1
   omega
  refine⟨?_,hbI⟩;rcases ha with⟨-,n,m,hn,rfl,h1,h2,rfl,h3⟩ | ⟨hk2,_⟩ | ⟨hk2,_⟩
  ·have ok:=Z3 hc hk
   have hw:i.weight.length=n:=by have:=ok.w;omega
   have hv:i.value.length=n:=by have:=ok.v;omega
   unfold Zb3;rw[if_neg (fun e=>e hc),if_pos hk,if_pos ⟨by rw[Wy];exact hn.symm,fun y hy=>by
    unfold xB at hy;obtain⟨j,_,rfl⟩:=List.mem_map.1 hy;split<;>simp⟩]
   unfold ZeT;rw[UC n m _ hw,if_neg (by omega),QK n m _ hv]
  ·omega
  ·omega
 ·have hb:=Zdb hc hk ha
  have hbI:v=Ua i:=by
   unfold Ua bxI;rw[if_neg (by omega),if_neg (by omega),if_pos hk,<-hb]
   rfl
  refine⟨?_,hbI⟩;rcases ha with⟨hk2,_⟩ | ⟨-,l,rfl,hp,rfl,hL⟩ | ⟨hk2,_⟩
  ·omega
  ·unfold Zb3
   rw[if_neg (fun e=>e hc),if_neg (by omega),if_pos ⟨Jc.2 ⟨l,rfl,hp⟩,fun h=>by omega⟩,if_pos hk]
  ·omega
 ·obtain⟨hb,-⟩:=Zdc hc hk ha
  have hbI:v=Ua i:=by
   unfold Ua bxI;rw[if_neg (by omega),if_neg (by omega),if_neg (by omega),<-hb]
   rfl
  refine⟨?_,hbI⟩;rcases ha with⟨hk2,_⟩ | ⟨hk2,_⟩ | ⟨-,q,rfl,hp,rfl,hL⟩
  ·omega
  ·omega
  ·unfold Zb3
   rw[if_neg (fun e=>e hc),if_neg (by omega),if_pos ⟨Jc.2 ⟨0::q,rfl,hp⟩,fun _=>rfl⟩,if_neg (by omega)]
   congr 1
   simp[Ze,List.map_map,Function.comp_def]
section
variable {D:Nat} {kids:List Int->List Int} {bound:List Int->Int} {okp:List Int->Prop} {bx:List Int->Int}
theorem ZaR (H:KrnOk D kids bound okp bx)(L:Int) : ∀ (f:Nat) (p:List Int) (best:Int) (found:List Int) (s:Nat),okp p->f+p.length=D+1->L<=bx p->L<=best ->
  ∃ b' f' s' ok,Ya D kids bound f p (best,found,s)=((b',f',s'),ok)/\L<=b'/\b'<=best/\s'<=s/\(ok=true->b'<=bx p)
 | 0,p,best,found,s,ho,hf,_,_=>by have:=H.len p ho;omega
 | f+1,p,best,found,s,ho,hf,hL,hb=>by
  have hl:=H.len p ho;have hlow:=H.low p ho;unfold Ya
  by_cases hs:s=0
  ·rw[if_pos hs]
   exact⟨best,found,0,false,rfl,hb,Int.le_refl _,Nat.zero_le _,fun h=>by cases h⟩
  rw[if_neg hs]
  by_cases h1:best<=bound p
  ·rw[if_pos h1]
   exact⟨best,found,s-1,true,rfl,hb,Int.le_refl _,by omega,fun _=>by omega⟩
  rw[if_neg h1]
  by_cases h2:p.length=D
  ·rw[if_pos h2]
   have h3:=H.leaf p ho h2;exact⟨bound p,p,s-1,true,rfl,by omega,by omega,by omega,fun _=>by omega⟩
  rw[if_neg h2];have hlt:p.length<D:=by omega
  obtain⟨⟨n,hn,e⟩,hall⟩:=H.node p ho hlt;have key:∀ (l:List Int) (best:Int) (found:List Int) (s:Nat),(∀ n∈l,okp (p++[n])/\L<=bx (p++[n]))->L<=best ->
    ∃ b' f' s' ok,Vz (fun n st=>Ya D kids bound f (p++[n]) st) l (best,found,s)=((b',f',s'),ok)/\L<=b'/\b'<=best/\s'<=s/\(ok=true->∀ n∈l,b'<=bx (p++[n])):=by
   intro l
   induction l with
   | nil=>intro best found s _ hb;exact⟨best,found,s,true,rfl,hb,Int.le_refl _,Nat.le_refl _,fun _ n hn=>by cases hn⟩
   | cons m l ih =>
    intro best found s hk hb;have hm:=hk m (by simp);obtain⟨b1,f1,s1,ok1,g1,g2,g3,g4,g5⟩:=ZaR H L f (p++[m]) best found s hm.1 (by simp;omega) hm.2 hb
    cases ok1 with
    | false=>exact⟨b1,f1,s1,false,by simp only[Vz,g1],g2,g3,g4,fun h=>by cases h⟩
    | true =>
     obtain⟨b2,f2,s2,ok2,k1,k2,k3,k4,k5⟩:=ih b1 f1 s1 (fun n hn=>hk n (by simp[hn])) g2;refine⟨b2,f2,s2,ok2,by simp only[Vz,g1];exact k1,k2,by omega,by omega,fun h n hn=>?_⟩;rcases List.mem_cons.1 hn with rfl | hn
     ·have:=g5 rfl
      omega
     ·exact k5 h n hn
  obtain⟨b',f',s',ok,k1,k2,k3,k4,k5⟩:=key (kids p) best found (s-1) (fun n hn=>⟨H.kid p ho hlt n hn,by have:=hall n hn;omega⟩) hb;exact⟨b',f',s',ok,k1,k2,k3,by omega,fun h=>by have:=k5 h n hn;omega⟩
theorem Zb9 (H:KrnOk D kids bound okp bx) : ∀ (f:Nat) (p:List Int),okp p->f+p.length=D->∃ q,okp q/\q.length=D/\bx q=bx p
 | 0,p,ho,hf=>⟨p,ho,by omega,rfl⟩
 | f+1,p,ho,hf=>by
  obtain⟨⟨n,hn,e⟩,-⟩:=H.node p ho (by omega);obtain⟨q,h1,h2,h3⟩:=Zb9 H f (p++[n]) (H.kid p ho (by omega) n hn) (by simp;omega);exact⟨q,h1,h2,h3.trans e⟩
end
theorem Zfd {i:InstP}(hc:Zl i=0) : KrnOk (ZJ i) (fun p=>(Wf i p).1) (fun p=>(YM i p).1) (okI i) (bxI i):=by
 rcases Yu hc with h | h | h
 ·have ok:=Z3 hc h
  obtain⟨f1,f2,f3,f4,f5⟩:=VD ok;have K:=ZdZ ok.cap.1 f3 f4 f1 f5;have hd:ZJ i=(wsP i).length:=by unfold ZJ;rw[if_neg (by omega)];omega
  have e1:(fun p=>(Wf i p).1)=fun p=>(WJ i.cap (wsP i) (vsP i) p).1:=by funext p;unfold Wf;rw[if_pos h]
  have e2:(fun p=>(YM i p).1)=fun p=>(Yf i.cap (wsP i) (vsP i) p).1:=by funext p;unfold YM;rw[if_pos h]
  have e3:okI i=fun p=>∃ q,stP i.cap 0 (wsP i) (vsP i) p=some q:=by funext p;unfold okI;rw[if_pos h]
  have e4:bxI i=Xg i.cap (wsP i) (vsP i):=by funext p;unfold bxI;rw[if_pos h]
  rw[hd,e1,e2,e3,e4];exact K
 ·have sq:=Zt hc (by omega)
  have rok:=ZZ sq;have K:=Zbs rok;have hd:ZJ i=i.cost.length:=by unfold ZJ;rw[if_neg (by omega)];have:=sq.len;omega
  have e1:(fun p=>(Wf i p).1)=fun p=>(Wd i.cost p).1:=by funext p;unfold Wf;rw[if_neg (by omega),if_pos h]
  have e2:(fun p=>(YM i p).1)=fun p=>(Z8 i.cost p).1:=by funext p;unfold YM;rw[if_neg (by omega),if_pos h]
  have e3:okI i=fun p=>∃ m,ZO i.cost.length p=some m:=by funext p;unfold okI;rw[if_neg (by omega),if_pos h]
  have e4:bxI i=fun p=>YD i.cost i.cost.length (i.cost.length-p.length) p:=by funext p;unfold bxI;rw[if_neg (by omega),if_pos h]
  rw[hd,e1,e2,e3,e4];exact K
 ·have sq:=Zt hc (by omega)
  have rok:=ZZ sq;have K:=Zd0 (mi:=VV i.cost) rok (Ze8 rok) (fun h=>ZdH h);have hd:ZJ i=i.cost.length-1:=by unfold ZJ;rw[if_pos h];have:=sq.len;omega
  have e1:(fun p=>(Wf i p).1)=fun p=>(We i.cost p).1:=by funext p;unfold Wf;rw[if_neg (by omega),if_neg (by omega)]
  have e2:(fun p=>(YM i p).1)=fun p=>(Z9 i.cost (VV i.cost) p).1:=by funext p;unfold YM;rw[if_neg (by omega),if_neg (by omega)]
  have e3:okI i=fun p=>∃ s,Z1 i.cost p=some s:=by funext p;unfold okI;rw[if_neg (by omega),if_neg (by omega)]
  have e4:bxI i=fun p=>YJ i.cost (i.cost.length-1-p.length) p:=by funext p;unfold bxI;rw[if_neg (by omega),if_neg (by omega)]
  rw[hd,e1,e2,e3,e4];exact K
theorem Zdd {i:InstP}(hc:Zl i=0) : ZJ i<=64:=by
 rcases Yu hc with h | h | h
 ·have ok:=Z3 hc h
  have:=ok.n2;unfold ZJ;split<;>omega
 ·have sq:=Zt hc (by omega)
  have:=sq.n2;unfold ZJ;split<;>omega
 ·have sq:=Zt hc (by omega)
  have:=sq.n2;unfold ZJ;split<;>omega
theorem Zeh {i:InstP}(hc:Zl i=0) : bxI i []<=4611686018427387904:=by
 have K:=Zfd hc;obtain⟨q,h1,h2,h3⟩:=Zb9 K (ZJ i) [] (JH hc) (by simp);have h4:=K.leaf q h1 h2
 try simp only at h4
 rw[<-h3,<-h4];unfold YM;rcases Yu hc with h | h | h
 ·rw[if_pos h]
  have:=ZbE (Z3 hc h) q;omega
 ·rw[if_neg (by omega),if_pos h]
  have:=ZbF (ZZ (Zt hc (by omega))) q;omega
 ·rw[if_neg (by omega),if_neg (by omega)]
  have:=ZbG (mi:=VV i.cost) (ZZ (Zt hc (by omega))) q;omega
def XQ (i:InstP)(best:Int)(s:Nat) : StK×Bool:=Ya (ZJ i) (fun p=>(Wf i p).1) (fun p=>(YM i p).1) (ZJ i+1) [] (best,[],s)
theorem ZbL {i:InstP}(hc:Zl i=0)(s:Nat) : bxI i []<=(XQ i 4611686018427387904 s).1.1/\((XQ i 4611686018427387904 s).2=true->(XQ i 4611686018427387904 s).1.1=bxI i []):=by
 obtain⟨b',f',s',ok,h1,h2,h3,h4,h5⟩:=ZaR (Zfd hc) (bxI i []) (ZJ i+1) [] 4611686018427387904 [] s (JH hc) (by simp) (Int.le_refl _) (Zeh hc);unfold XQ;rw[h1];refine⟨h2,fun h=>?_⟩;have:=h5 h;simp only at this h2 ⊢;omega
end Go.Proofs.YtmojhhlcocjoaaaGreatDoor
namespace Go.Proofs.YtmojhhlcocjoaaaGreatDoor
open Go.RowKit Go.ChangeShapes Go.WideShapes Go.ChangeAt Go.Deep
theorem ZaS {w3 w4:World}{base G c1 c2 c4:Nat}{t:TypeId}{cs:Array Value}{A1 A2 A4:Option Addr}{xs ys zs:List Int}(hB:Blk w3 G t cs)(ht:t≠3)(o1:OwI w3 base A1 c1 xs)(o2:OwI w3 base A2 c2 ys)(hd:∀ b,bl A1=some b->bl A2≠some b)(g4:w3.grownBy w4 (bl A1))(o4:OwI w4 base A4 c4 zs)(h5:bl A4=bl A1\/∃ g,bl A4=some g/\w3.heap.size<=g)(i:Nat)(v:Value) :
  Blk w4 G t cs/\Blk (w4.setCell ⟨G,i,none⟩ v) G t (cs.setIfInBounds i v)/\OwI (w4.setCell ⟨G,i,none⟩ v) base A4 c4 zs/\OwI (w4.setCell ⟨G,i,none⟩ v) base A2 c2 ys/\(∀ b,bl A4=some b->bl A2≠some b)/\∀ wa,Ext wa w3->wa.heap.size<=base->wa.heap.size<=G->Ext wa (w4.setCell ⟨G,i,none⟩ v):=by
 have n1:=o1.ne hB ht;have hB4:Blk w4 G t cs:=hB.grown g4 (fun h=>n1 G h rfl);have o24:OwI w4 base A2 c2 ys:=o2.mod (Mod.grown (S:=fun b=>bl A1=some b) g4 fun g h=>h) fun b hb h=>hd b h hb
 refine⟨hB4,hB4.set i v,o4.far hB4 ht i v,o24.far hB4 ht i v,fun b hb h=>?_,fun wa x h1 h2=>?_⟩
 ·rcases h5 with e | ⟨g,e,hg⟩
  ·exact hd b (by rw[<-e];exact hb) h
  ·have:=(o2.lt b h).2
   rw[e] at hb
   injection hb with hb
   omega
 ·exact(x.grow g4 fun k hk=>Nat.le_trans h1 (o1.lt k hk).1).mod (Mod.set (S:=fun k=>k=G) (p:=⟨G,i,none⟩) (Mod.rf w4) (.inl rfl) v) fun k hk e=>by omega
theorem OwI.init {w:World}{base c:Nat}{A:Option Addr}{p:List Int}{x:Int}(h:OwI w base A c (p++[x])) : OwI w base A c p:=by
 rcases h.cases with⟨_,_,h⟩ | ⟨g,cur,rfl,hb,hg,hn,hm,hs,ht⟩
 ·simp at h
 ·refine .mk hb hg (by rw[List.length_append] at hn;omega) hm hs ?_
  have e:cur.toList.take (p.length*1)=(cur.toList.take ((p++[x]).length*1)).take (p.length*1):=by
   rw[List.take_take]
   congr 1
   simp
  rw[e,ht,List.map_append,List.take_append_of_le_length (by simp)];exact List.take_of_length_le (by simp)
theorem QL {D:Nat}{kids:List Int->List Int}{bound:List Int->Int} : ∀ (f:Nat) (p:List Int) (best:Int) (found:List Int) (s:Nat),(Ya D kids bound f p (best,found,s)).1.2.2<=s
 | 0,p,best,found,s=>Nat.le_refl _
 | f+1,p,best,found,s=>by
  unfold Ya;split
  ·exact Nat.zero_le _
  split
  ·exact Nat.sub_le _ _
  split
  ·exact Nat.sub_le _ _
  have key:∀ (l:List Int) (best:Int) (found:List Int) (s:Nat),(Vz (fun n st=>Ya D kids bound f (p++[n]) st) l (best,found,s)).1.2.2<=s:=by
   intro l
   induction l with
   | nil=>intro best found s;exact Nat.le_refl _
   | cons m l ih =>
    intro best found s;have h1:=QL (D:=D) (kids:=kids) (bound:=bound) f (p++[m]) best found s;simp only[Vz];rcases hg:Ya D kids bound f (p++[m]) (best,found,s) with⟨⟨b',f',s'⟩,ok⟩;rw[hg] at h1
    cases ok with
    | true=>exact Nat.le_trans (ih b' f' s') h1
    | false=>exact h1
  exact Nat.le_trans (key _ _ _ _) (Nat.sub_le _ _)
def XC (w0:World)(g gs:Nat)(p:List Int)(A:Option Addr)(R:StK×Bool)(w:World)(e:Ending)(w':World) : Prop :=
 ∃ (A':Option Addr) (c':Nat) (F:Option Addr) (fl fc:Nat),e=.returned (.bool R.2)/\Blk w' gs 87 #[.pointer (some ⟨g,0,none⟩),.slice A' p.length c',.slice F fl fc,.int .i64 R.1.1,.int .i64 (R.1.2.2:Int)]/\OwI w' w0.heap.size A' c' p/\Mod (fun z=>z=gs\/bl A=some z) w w'/\(bl A'=bl A\/∃ b,bl A'=some b/\w.heap.size<=b)
theorem Zei (D:Nat)(KE:List Int->List Int)(BE:List Int->Int)(okp:List Int->Prop)(g:Nat)(w0:World)
  (BO:∀ (W:World),Ext w0 W->∀ (P:Option Addr) (c:Nat) (p:List Int),RdI W P p->p.length<=1000->∃ er:Int,Calls Tryz.prog 15 #[.pointer (some ⟨g,0,none⟩),.slice P p.length c] W fun e w'=>e=.returned (.tuple #[.int .i64 (BE p),.int .i64 er])/\Ext W w')
  (DE:∀ (W:World),Ext w0 W->Calls Tryz.prog 16 #[.pointer (some ⟨g,0,none⟩)] W fun e w'=>e=.returned (.int .i64 (D:Int))/\Ext W w')
  (KI:∀ (W:World),Ext w0 W->∀ (P:Option Addr) (c:Nat) (p:List Int),RdI W P p->p.length<=1000->∃ er:Int,Calls Tryz.prog 89 #[.pointer (some ⟨g,0,none⟩),.slice P p.length c] W (Ys (KE p) er W))
  (hlen:∀ p,okp p->p.length<=D) (hkid:∀ p,okp p->p.length<D->∀ n∈KE p,okp (p++[n])) (hD:D<=64) :
  ∀ (f:Nat) (p:List Int) (best:Int) (found:List Int) (s:Nat) (w:World) (gs:Nat) (A:Option Addr) (c:Nat) (F:Option Addr) (fl fc:Nat),f+p.length=D+1->okp p->Ext w0 w->w0.heap.size<=gs->Blk w gs 87 #[.pointer (some ⟨g,0,none⟩),.slice A p.length c,.slice F fl fc,.int .i64 best,.int .i64 (s:Int)]->OwI w w0.heap.size A c p->s<=1000000 ->
   Calls Tryz.prog 45 #[.pointer (some ⟨gs,0,none⟩)] w (XC w0 g gs p A (Ya D KE BE f p (best,found,s)) w):=by
 intro f
 induction f with
 | zero=>intro p best found s w gs A c F fl fc hf ho;have:=hlen p ho;omega
 | succ f ih =>
  intro p best found s w gs A c F fl fc hf ho x hgs hB oA hs;have hl:=hlen p ho;have hkd:=hkid p ho;have z0:=x.size;have zg:=hB.lt;have c4:=hB.c4;have f4:=hB.free 4
  by_cases hs0:s=0
  ·have e:Ya D KE BE (f+1) p (best,found,s)=((best,found,0),false):=by
    unfold Ya;rw[if_pos hs0]
   rw[e];subst hs0;have P:Hid (XC w0 g gs p A ((best,found,0),false) w (.returned (.bool false)) w):=⟨A,c,F,fl,fc,rfl,hB,oA,Mod.rf w,.inl rfl⟩;clear BO DE KI hlen hkid hkd hB oA e ih;go_enter Tryz.func45,Tryz.ntmps45;go_wp2_with (fail);go_ret;exact P.out
  ·obtain⟨t,ht⟩:∃ t,s=t+1:=⟨s-1,by omega⟩
   have LK:Ya D KE BE (f+1) p (best,found,s)=if best<=BE p then((best,found,t),true) else if p.length=D then((BE p,p,t),true) else Vz (fun n st=>Ya D KE BE f (p++[n]) st) (KE p) (best,found,t):=by
    rw[ht];exact Zbr f p best found t
   obtain⟨R0,hR0⟩:∃ R0,Ya D KE BE (f+1) p (best,found,s)=R0:=⟨_,rfl⟩;rw[hR0] at LK ⊢;replace LK:=Hd LK;have e1:((s:Int)==0)=false:=by rw[beq_eq_false_iff_ne];omega
   have wst:IntKind.i64.wrap ((s:Int)-1)=(t:Int):=by rw[show (s:Int)-1=(t:Int) by omega];exact IntWalk.i64_in _ (by omega)
   have ht9:t<=1000000:=by omega
   have B1:Hid (Blk (w.setCell ⟨gs,4,none⟩ (.int .i64 (t:Int))) gs 87 #[.pointer (some ⟨g,0,none⟩),.slice A p.length c,.slice F fl fc,.int .i64 best,.int .i64 (t:Int)]):=hB.set 4 _;have M1:Hid (Mod (fun z=>z=gs\/bl A=some z) w (w.setCell ⟨gs,4,none⟩ (.int .i64 (t:Int)))):=(Mod.rf w).set (.inl (.inl rfl)) _;have O1:Hid (OwI (w.setCell ⟨gs,4,none⟩ (.int .i64 (t:Int))) w0.heap.size A c p):=oA.far hB (by decide) 4 _;have X1:Hid (Ext w0 (w.setCell ⟨gs,4,none⟩ (.int .i64 (t:Int)))):=x.setNew hgs _;replace BO:=Hd BO;replace DE:=Hd DE;replace KI:=Hd KI;replace ih:=Hd ih;replace hkd:=Hd hkd;have zA:=Hd (fun b hb=>(oA.lt b hb).2);clear hlen hkid hR0 hB oA ho x ht;go_enter Tryz.func45,Tryz.ntmps45;go_upto_region 4 with(fail);generalize (w.setCell ⟨gs,4,none⟩ (.int .i64 (t:Int)))=w1 at *;clear c4 f4 e1 wst;have d0:=B1.out.c0;have d1:=B1.out.c1;obtain⟨b,hb⟩:∃ b,BE p=b:=⟨_,rfl⟩;obtain⟨er,BO1⟩:=BO.out w1.drew X1.out.drew A c p (O1.out.read.ext ((Ext.rf w1).drew)) (by omega);rw[hb] at BO1 LK;replace BO1:=Hd BO1;clear hb;refine wp_region_any (by kernel_rfl) ?_
   change wpAny _ _ _ _ _ _ _ (World.drew _)
   refine Za (i:=0) (op:=Op.move (Operand.tmp 0)) (t:=85) (d:=some 23) (v:=?_) rfl (by decide +kernel) (by decide +kernel) (by decide +kernel) (fun _ _ _ h=>h) ?_ ?_
   case refine_2=>(intro _;unfold Zd;go_simp;try with_reducible rfl)
   try simp only[lay]
   refine Za (i:=1) (op:=Op.nilCheck (Operand.tmp 23)) (t:=0) (d:=some 24) (v:=?_) rfl (by decide +kernel) (by decide +kernel) (by decide +kernel) (fun _ _ _ h=>h) ?_ ?_
   case refine_2=>(intro _;unfold Zd;go_simp;try with_reducible rfl)
   try simp only[lay]
   refine Za (i:=2) (op:=Op.fieldAddr 87 (Operand.tmp 24) 0) (t:=0) (d:=some 25) (v:=?_) rfl (by decide +kernel) (by decide +kernel) (by decide +kernel) (fun _ _ _ h=>h) ?_ ?_
   case refine_2=>(intro _;unfold Zd;go_simp;try with_reducible rfl)
   try simp only[lay]
   refine Za (i:=4) (op:=Op.move (Operand.tmp 0)) (t:=85) (d:=some 27) (v:=?_) rfl (by decide +kernel) (by decide +kernel) (by decide +kernel) (fun _ _ _ h=>h) ?_ ?_
   case refine_2=>(intro _;unfold Zd;go_simp;try with_reducible rfl)
   try simp only[lay]
   refine Za (i:=5) (op:=Op.nilCheck (Operand.tmp 27)) (t:=0) (d:=some 28) (v:=?_) rfl (by decide +kernel) (by decide +kernel) (by decide +kernel) (fun _ _ _ h=>h) ?_ ?_
   case refine_2=>(intro _;unfold Zd;go_simp;try with_reducible rfl)
   try simp only[lay]
   refine Za (i:=6) (op:=Op.fieldAddr 87 (Operand.tmp 28) 1) (t:=0) (d:=some 29) (v:=?_) rfl (by decide +kernel) (by decide +kernel) (by decide +kernel) (fun _ _ _ h=>h) ?_ ?_
   case refine_2=>(intro _;unfold Zd;go_simp;try with_reducible rfl)
   try simp only[lay]
   refine Yx (n:=6) [(3,some 26),(7,some 30)] (fun | 3=>.pointer (some ⟨g,0,none⟩) | 7=>.slice A p.length c | _=>undef) #[true,true,true,true,true,true,true,true,false,false,false,false,false,false] (by decide +kernel) ?_ ?_
   ·intro pS hpm uS hD K hK
    simp only[List.mem_cons,List.not_mem_nil,or_false] at hpm;rcases hpm with rfl | rfl
    ·exact Zo (T:=29) (x:=Operand.tmp 25) (t:=29) (d:=some 26) rfl (.pointer (some ⟨gs,0,none⟩)) (by kernel_rfl) (.pointer (some ⟨g,0,none⟩)) (by go_simp) hK
    ·exact Zo (T:=22) (x:=Operand.tmp 29) (t:=22) (d:=some 30) rfl (.pointer (some ⟨gs,1,none⟩)) (by kernel_rfl) (.slice A p.length c) (by go_simp) hK
   simp only[Zj,Act.put,List.setIfInBounds_toArray,List.set_cons_zero,List.set_cons_succ];refine Zh 8 (by decide +kernel) (Z7 (f:=15) (xs:=#[Operand.tmp 26,Operand.tmp 30]) (ts:=#[29,22]) (t:=37) (d:=some 31) rfl #[.pointer (some ⟨g,0,none⟩),.slice A p.length c] (by go_simp) (by kernel_rfl) _ (BO1.out) ?_);rintro e w2 ⟨rfl,x2⟩;refine⟨_,rfl,?_⟩;have y2:=Ext.tr (a:=w1) (by(repeat (first | assumption | exact Ext.rf _ | apply Ext.drew | apply Ext.drewN | apply Ext.alloc))) x2;have B2:=Hd (B1.out.ext y2);have M2:=Hd (M1.out.ext y2);have O2:=Hd (O1.out.ext y2);have X2:=Hd (X1.out.tr y2);clear y2 x2 d0 d1 B1 M1 O1 X1 BO1 BO
   try simp only[lay]
   refine Za (i:=9) (op:=Op.move (Operand.tmp 31)) (t:=37) (d:=some 22) (v:=?_) rfl (by decide +kernel) (by decide +kernel) (by decide +kernel) (fun _ _ _ h=>h) ?_ ?_
   case refine_2=>(intro _;unfold Zd;go_simp;try with_reducible rfl)
   try simp only[lay]
   refine Za (i:=10) (op:=Op.extract (Operand.tmp 22) 0) (t:=3) (d:=some 32) (v:=?_) rfl (by decide +kernel) (by decide +kernel) (by decide +kernel) (fun _ _ _ h=>h) ?_ ?_
   case refine_2=>(intro _;unfold Zd;go_simp;try with_reducible rfl)
   try simp only[lay]
   refine Za (i:=11) (op:=Op.extract (Operand.tmp 22) 1) (t:=30) (d:=some 33) (v:=?_) rfl (by decide +kernel) (by decide +kernel) (by decide +kernel) (fun _ _ _ h=>h) ?_ ?_
   case refine_2=>(intro _;unfold Zd;go_simp;try with_reducible rfl)
   try simp only[lay]
   refine Za (i:=12) (op:=Op.assign (Operand.tmp 32)) (t:=3) (d:=some 3) (v:=?_) rfl (by decide +kernel) (by decide +kernel) (by decide +kernel) (fun _ _ _ h=>h) ?_ ?_
   case refine_2=>(intro _;unfold Zd;go_simp;try with_reducible rfl)
   try simp only[lay]
   refine Za (i:=13) (op:=Op.assign (Operand.tmp 33)) (t:=30) (d:=some 4) (v:=?_) rfl (by decide +kernel) (by decide +kernel) (by decide +kernel) (fun _ _ _ h=>h) ?_ ?_
   case refine_2=>(intro _;unfold Zd;go_simp;try with_reducible rfl)
   try simp only[lay]
   refine wpAny_done (by kernel_rfl) ?_ _;go_simp;have d0:=B2.out.c0;have d1:=B2.out.c1;have d3:=B2.out.c3
   by_cases h1:best<=b
   ·have hR1:=LK.out
    rw[if_pos h1] at hR1;have P:Hid (XC w0 g gs p A R0 w (.returned (.bool true)) w2):=by rw[hR1];exact⟨A,c,F,fl,fc,rfl,B2.out,O2.out,M2.out,.inl rfl⟩
    clear hR1 LK;have g1:decide (best<=b)=true:=decide_eq_true h1;clear B2 M2 O2 X2 DE KI ih;go_wp2_with (fail);go_ret;exact P.out
   ·have LK2:=LK.out
    rw[if_neg h1] at LK2;replace LK2:=Hd LK2;clear LK;have g1:decide (best<=b)=false:=decide_eq_false h1;go_upto_region 7 with(fail);have zB:=B2.out.lt;refine wp_region_any (by kernel_rfl) ?_
    change wpAny _ _ _ _ _ _ _ (World.drew _)
    refine Za (i:=0) (op:=Op.move (Operand.tmp 0)) (t:=85) (d:=some 42) (v:=?_) rfl (by decide +kernel) (by decide +kernel) (by decide +kernel) (fun _ _ _ h=>h) ?_ ?_
    case refine_2=>(intro _;unfold Zd;go_simp;try with_reducible rfl)
    try simp only[lay]
    refine Za (i:=1) (op:=Op.nilCheck (Operand.tmp 42)) (t:=0) (d:=some 43) (v:=?_) rfl (by decide +kernel) (by decide +kernel) (by decide +kernel) (fun _ _ _ h=>h) ?_ ?_
    case refine_2=>(intro _;unfold Zd;go_simp;try with_reducible rfl)
    try simp only[lay]
    refine Za (i:=2) (op:=Op.fieldAddr 87 (Operand.tmp 43) 1) (t:=0) (d:=some 44) (v:=?_) rfl (by decide +kernel) (by decide +kernel) (by decide +kernel) (fun _ _ _ h=>h) ?_ ?_
    case refine_2=>(intro _;unfold Zd;go_simp;try with_reducible rfl)
    try simp only[lay]
    refine Za (i:=5) (op:=Op.move (Operand.tmp 0)) (t:=85) (d:=some 47) (v:=?_) rfl (by decide +kernel) (by decide +kernel) (by decide +kernel) (fun _ _ _ h=>h) ?_ ?_
    case refine_2=>(intro _;unfold Zd;go_simp;try with_reducible rfl)
    try simp only[lay]
    refine Za (i:=6) (op:=Op.nilCheck (Operand.tmp 47)) (t:=0) (d:=some 48) (v:=?_) rfl (by decide +kernel) (by decide +kernel) (by decide +kernel) (fun _ _ _ h=>h) ?_ ?_
    case refine_2=>(intro _;unfold Zd;go_simp;try with_reducible rfl)
    try simp only[lay]
    refine Za (i:=7) (op:=Op.fieldAddr 87 (Operand.tmp 48) 0) (t:=0) (d:=some 49) (v:=?_) rfl (by decide +kernel) (by decide +kernel) (by decide +kernel) (fun _ _ _ h=>h) ?_ ?_
    case refine_2=>(intro _;unfold Zd;go_simp;try with_reducible rfl)
    try simp only[lay]
    refine ZM (n:=2) [(3,some 45),(4,some 46),(8,some 50),(9,some 51)] (Ext w2) (VF (fun | 3=>some (.slice A p.length c) | 4=>some (.int .i64 (p.length:Int)) | 8=>some (.pointer (some ⟨g,0,none⟩)) | 9=>some (.int .i64 (D:Int)) | _=>none) (fun i v W=>True)) Ext #[true,true,true,true,true,true,true,true,true,true,false,false] (by decide +kernel) (VF.stab ?_) ?_ ?_ (by first | exact(Ext.rf _).drew | exact Ext.rf _)
    ·intro j v W W' _ _ _;trivial
    ·intro pS hpm uS wS hRW hD K hK
     simp only[List.mem_cons,List.not_mem_nil,or_false] at hpm;rcases hpm with rfl | rfl | rfl | rfl
     ·( have rX:=Zg hRW zB d1;exact Zo (T:=22) (x:=Operand.tmp 44) (t:=22) (d:=some 45) rfl (.pointer (some ⟨gs,1,none⟩)) (by kernel_rfl) (.slice A p.length c) (by go_simp) (hK _ _ (VF.mk rfl) hRW (Ext.rf _)))
     ·(have e3:uS 3=.slice A p.length c:=(hD 3 (Zm (by kernel_rfl))).k rfl;exact ZB (op:=Op.call { callee:=Callee.builtin Builtin.len,args:=#[Operand.tmp 45],argTypes:=#[22] }) (t:=3) (d:=some 46) rfl (.int .i64 (p.length:Int)) (by simp only[Zj,Act.put,List.setIfInBounds_toArray,List.set_cons_zero,List.set_cons_succ];unfold Zd;(try go_simp);(try simp only[e3]);(try go_simp);(try rfl);(try (exact IntWalk.i64_in _ (by omega)))) (hK _ _ (VF.mk rfl) hRW (Ext.rf _)))
     ·( have rX:=Zg hRW zB d0;exact Zo (T:=29) (x:=Operand.tmp 49) (t:=29) (d:=some 50) rfl (.pointer (some ⟨gs,0,none⟩)) (by kernel_rfl) (.pointer (some ⟨g,0,none⟩)) (by go_simp) (hK _ _ (VF.mk rfl) hRW (Ext.rf _)))
     ·(have e8:uS 8=.pointer (some ⟨g,0,none⟩):=(hD 8 (Zm (by kernel_rfl))).k rfl;exact Z7 (f:=16) (xs:=#[Operand.tmp 50]) (ts:=#[29]) (t:=3) (d:=some 51) rfl #[.pointer (some ⟨g,0,none⟩)] (by go_simp) (Eq.trans (b:=#[uS 8]) (by kernel_rfl) (by rw[e8])) _ (DE.out _ (X2.out.tr hRW)) (by rintro e w9 ⟨rfl,xx⟩;exact⟨_,rfl,hK _ _ (VF.mk rfl) (hRW.tr xx) xx⟩))
    intro u w3 hR3 hV;have h3:=(hV (3,some 45) (by simp)).k rfl;have h4:=(hV (4,some 46) (by simp)).k rfl;have h8:=(hV (8,some 50) (by simp)).k rfl;have h9:=(hV (9,some 51) (by simp)).k rfl;simp only[Zj,h3,h4,h8,h9];clear hV h3 h4 h8 h9
    try simp only[lay]
    have B3:=Hd (B2.out.ext hR3);have M3:=Hd (M2.out.ext hR3);have O3:=Hd (O2.out.ext hR3);have X3:=Hd (X2.out.tr hR3);clear hR3 d0 d1 d3 B2 M2 O2 X2 zB g1
    try simp only[lay]
    by_cases h2:p.length=D
    ·have hR2:=LK2.out
     rw[if_pos h2] at hR2;have e2:((p.length:Int)==(D:Int))=true:=by rw[beq_iff_eq];omega
     clear h2;refine Za (i:=10) (op:=Op.binOp BinOp.eql 3 (Operand.tmp 46) (Operand.tmp 51) 3) (t:=4) (d:=some 52) (v:=?_) rfl (by decide +kernel) (by decide +kernel) (by decide +kernel) (fun _ _ _ h=>h) ?_ ?_
     case refine_2=>(intro _;unfold Zd;go_simp;try with_reducible rfl)
     try simp only[lay]
     refine Za (i:=11) (op:=Op.assign (Operand.tmp 52)) (t:=4) (d:=some 41) (v:=?_) rfl (by decide +kernel) (by decide +kernel) (by decide +kernel) (fun _ _ _ h=>h) ?_ ?_
     case refine_2=>(intro _;unfold Zd;go_simp;try with_reducible rfl)
     try simp only[lay]
     refine wpAny_done (by kernel_rfl) ?_ _;go_simp;have CL:=Hd (fun(W:World) (y:Ext w3 W)=>Vd A c p W (O3.out.read.ext y) (by omega));have d1:=B3.out.c1;go_wp2_with (fail);refine(CL.out _ (by(repeat (first | assumption | exact Ext.rf _ | apply Ext.drew | apply Ext.drewN | apply Ext.alloc)))).mono ?_;rintro e w5 ⟨A5,c5,rfl,o5,x5⟩;have y5:=Ext.tr (a:=w3) (by(repeat (first | assumption | exact Ext.rf _ | apply Ext.drew | apply Ext.drewN | apply Ext.alloc))) x5;have B5:=Hd (B3.out.ext y5);have M5:=Hd (M3.out.ext y5);have O5:=Hd (O3.out.ext y5);have P:Hid (XC w0 g gs p A R0 w (.returned (.bool true)) ((w5.setCell ⟨gs,3,none⟩ (.int .i64 b)).setCell ⟨gs,2,none⟩ (.slice A5 p.length c5))) :=
      Hd <| by
      rw[hR2];exact⟨A,c,A5,p.length,c5,rfl,(B5.out.set 3 _).set 2 _,(O5.out.far B5.out (by decide) 3 _).far (B5.out.set 3 _) (by decide) 2 _,(M5.out.set (.inl (.inl rfl)) _).set (.inl (.inl rfl)) _,.inl rfl⟩
     have k2:=B5.out.c2;have k3:=B5.out.c3;have f2:=B5.out.free 2;have f3:=B5.out.free 3;clear hR2 LK2 x5 y5 o5 CL d1 B3 M3 O3 X3 B5 M5 O5 DE KI ih;go_wp2_with (fail);go_ret;exact P.out
    ·have LK3:=LK2.out
     rw[if_neg h2] at LK3;have e2:((p.length:Int)==(D:Int))=false:=by rw[beq_eq_false_iff_ne];omega
     refine Za (i:=10) (op:=Op.binOp BinOp.eql 3 (Operand.tmp 46) (Operand.tmp 51) 3) (t:=4) (d:=some 52) (v:=?_) rfl (by decide +kernel) (by decide +kernel) (by decide +kernel) (fun _ _ _ h=>h) ?_ ?_
     case refine_2=>(intro _;unfold Zd;go_simp;try with_reducible rfl)
     try simp only[lay]
     refine Za (i:=11) (op:=Op.assign (Operand.tmp 52)) (t:=4) (d:=some 41) (v:=?_) rfl (by decide +kernel) (by decide +kernel) (by decide +kernel) (fun _ _ _ h=>h) ?_ ?_
     case refine_2=>(intro _;unfold Zd;go_simp;try with_reducible rfl)
     try simp only[lay]
     refine wpAny_done (by kernel_rfl) ?_ _;go_simp;go_upto_region 10 with(fail);have d0:=B3.out.c0;have d1:=B3.out.c1;obtain⟨er2,KI1⟩:=KI.out w3.drew X3.out.drew A c p (O3.out.read.ext ((Ext.rf w3).drew)) (by omega);have hkl:=hkd.out (by omega);obtain⟨l,hl9⟩:∃ l,KE p=l:=⟨_,rfl⟩;rw[hl9] at KI1 hkl LK3;replace LK3:=Hd LK3;unfold Ys at KI1;replace KI1:=Hd KI1;replace hkl:=Hd hkl;clear e2 hl9;refine wp_region_any (by kernel_rfl) ?_
     change wpAny _ _ _ _ _ _ _ (World.drew _)
     refine Za (i:=0) (op:=Op.move (Operand.tmp 0)) (t:=85) (d:=some 66) (v:=?_) rfl (by decide +kernel) (by decide +kernel) (by decide +kernel) (fun _ _ _ h=>h) ?_ ?_
     case refine_2=>(intro _;unfold Zd;go_simp;try with_reducible rfl)
     try simp only[lay]
     refine Za (i:=1) (op:=Op.nilCheck (Operand.tmp 66)) (t:=0) (d:=some 67) (v:=?_) rfl (by decide +kernel) (by decide +kernel) (by decide +kernel) (fun _ _ _ h=>h) ?_ ?_
     case refine_2=>(intro _;unfold Zd;go_simp;try with_reducible rfl)
     try simp only[lay]
     refine Za (i:=2) (op:=Op.fieldAddr 87 (Operand.tmp 67) 0) (t:=0) (d:=some 68) (v:=?_) rfl (by decide +kernel) (by decide +kernel) (by decide +kernel) (fun _ _ _ h=>h) ?_ ?_
     case refine_2=>(intro _;unfold Zd;go_simp;try with_reducible rfl)
     try simp only[lay]
     refine Za (i:=4) (op:=Op.move (Operand.tmp 0)) (t:=85) (d:=some 70) (v:=?_) rfl (by decide +kernel) (by decide +kernel) (by decide +kernel) (fun _ _ _ h=>h) ?_ ?_
     case refine_2=>(intro _;unfold Zd;go_simp;try with_reducible rfl)
     try simp only[lay]
     refine Za (i:=5) (op:=Op.nilCheck (Operand.tmp 70)) (t:=0) (d:=some 71) (v:=?_) rfl (by decide +kernel) (by decide +kernel) (by decide +kernel) (fun _ _ _ h=>h) ?_ ?_
     case refine_2=>(intro _;unfold Zd;go_simp;try with_reducible rfl)
     try simp only[lay]
     refine Za (i:=6) (op:=Op.fieldAddr 87 (Operand.tmp 71) 1) (t:=0) (d:=some 72) (v:=?_) rfl (by decide +kernel) (by decide +kernel) (by decide +kernel) (fun _ _ _ h=>h) ?_ ?_
     case refine_2=>(intro _;unfold Zd;go_simp;try with_reducible rfl)
     try simp only[lay]
     refine Yx (n:=6) [(3,some 69),(7,some 73)] (fun | 3=>.pointer (some ⟨g,0,none⟩) | 7=>.slice A p.length c | _=>undef) #[true,true,true,true,true,true,true,true,false,false,false,false,false,false] (by decide +kernel) ?_ ?_
     ·intro pS hpm uS hD K hK
      simp only[List.mem_cons,List.not_mem_nil,or_false] at hpm;rcases hpm with rfl | rfl
      ·exact Zo (T:=29) (x:=Operand.tmp 68) (t:=29) (d:=some 69) rfl (.pointer (some ⟨gs,0,none⟩)) (by kernel_rfl) (.pointer (some ⟨g,0,none⟩)) (by go_simp) hK
      ·exact Zo (T:=22) (x:=Operand.tmp 72) (t:=22) (d:=some 73) rfl (.pointer (some ⟨gs,1,none⟩)) (by kernel_rfl) (.slice A p.length c) (by go_simp) hK
     simp only[Zj,Act.put,List.setIfInBounds_toArray,List.set_cons_zero,List.set_cons_succ];refine Zh 8 (by decide +kernel) (Z7 (f:=89) (xs:=#[Operand.tmp 69,Operand.tmp 73]) (ts:=#[29,22]) (t:=82) (d:=some 74) rfl #[.pointer (some ⟨g,0,none⟩),.slice A p.length c] (by go_simp) (by kernel_rfl) _ (KI1.out) ?_);rintro e w4 ⟨L4,lc,rfl,o4,x4⟩;refine⟨_,rfl,?_⟩;have y4:=Ext.tr (a:=w3) (by(repeat (first | assumption | exact Ext.rf _ | apply Ext.drew | apply Ext.drewN | apply Ext.alloc))) x4;have B4:=Hd (B3.out.ext y4);have M4:=Hd (M3.out.ext y4);have O4:=Hd (O3.out.ext y4);have X4:=Hd (X3.out.tr y4);have far4:Hid (∀ b,bl L4=some b->¬(b=gs\/bl A=some b)):=fun b hb h=>by
      have h9:=(o4.lt b hb).1;have h8:w3.drew.heap.size=w3.heap.size:=rfl;have h7:=M3.out.size;rcases h with rfl | h
      ·omega
      ·have:=zA.out b h
       omega
     have ll:=o4.le;have L4o:=Hd o4;have zw4:Hid (w.heap.size<=w4.heap.size/\w0.heap.size<=w4.heap.size):=⟨M4.out.size,X4.out.size⟩;clear y4 x4 o4 d0 d1 B3 M3 O3 X3 KI1 KI hkd
     try simp only[lay]
     refine Za (i:=9) (op:=Op.move (Operand.tmp 74)) (t:=82) (d:=some 65) (v:=?_) rfl (by decide +kernel) (by decide +kernel) (by decide +kernel) (fun _ _ _ h=>h) ?_ ?_
     case refine_2=>(intro _;unfold Zd;go_simp;try with_reducible rfl)
     try simp only[lay]
     refine Za (i:=10) (op:=Op.extract (Operand.tmp 65) 0) (t:=22) (d:=some 75) (v:=?_) rfl (by decide +kernel) (by decide +kernel) (by decide +kernel) (fun _ _ _ h=>h) ?_ ?_
     case refine_2=>(intro _;unfold Zd;go_simp;try with_reducible rfl)
     try simp only[lay]
     refine Za (i:=11) (op:=Op.extract (Operand.tmp 65) 1) (t:=30) (d:=some 76) (v:=?_) rfl (by decide +kernel) (by decide +kernel) (by decide +kernel) (fun _ _ _ h=>h) ?_ ?_
     case refine_2=>(intro _;unfold Zd;go_simp;try with_reducible rfl)
     try simp only[lay]
     refine Za (i:=12) (op:=Op.assign (Operand.tmp 75)) (t:=22) (d:=some 5) (v:=?_) rfl (by decide +kernel) (by decide +kernel) (by decide +kernel) (fun _ _ _ h=>h) ?_ ?_
     case refine_2=>(intro _;unfold Zd;go_simp;try with_reducible rfl)
     try simp only[lay]
     refine Za (i:=13) (op:=Op.assign (Operand.tmp 76)) (t:=30) (d:=some 6) (v:=?_) rfl (by decide +kernel) (by decide +kernel) (by decide +kernel) (fun _ _ _ h=>h) ?_ ?_
     case refine_2=>(intro _;unfold Zd;go_simp;try with_reducible rfl)
     try simp only[lay]
     refine wpAny_done (by kernel_rfl) ?_ _;go_simp;have hR:Hid (Vz (fun n st=>Ya D KE BE f (p++[n]) st) l (best,found,t)=R0):=LK3.out.symm;clear LK3 LK2;have hl9:l.length<=9223372036854775807:=by have:=ll.2;unfold maxLen at this;omega
     clear ll;go_wp2_with (fail);go_loopw [79] (fun v wr=>∃ (k:Nat) (bb:Int) (ff:List Int) (ss:Nat) (Ak:Option Addr) (ck:Nat) (Fk:Option Addr) (fk fck:Nat),v=.int .i64 k/\k<=l.length/\Hid (Vz (fun n st=>Ya D KE BE f (p++[n]) st) (l.drop k) (bb,ff,ss)=R0)/\ss<=1000000/\Hid (Blk wr gs 87 #[.pointer (some ⟨g,0,none⟩),.slice Ak p.length ck,.slice Fk fk fck,.int .i64 bb,.int .i64 (ss:Int)])/\Hid (OwI wr w0.heap.size Ak ck p)/\Hid (Mod (fun z=>z=gs\/bl A=some z) w4 wr)/\Hid (bl Ak=bl A\/∃ b,bl Ak=some b/\w4.heap.size<=b)/\Hid (Ext w0 wr)) (fun v _=>l.length-(intOf v).toNat)
     case atStart=>exact⟨0,best,found,t,A,c,F,fl,fc,rfl,by omega,hR,ht9,B4,O4,Mod.rf w4,.inl rfl,X4⟩
     case round =>
      obtain⟨wo,rfl⟩:∃ wo:World,wo=wr:=⟨_,rfl⟩;obtain⟨k,bb,ff,ss,Ak,ck,Fk,fk,fck,rfl,hk,HS,hss,Bo,Oo,Mo,Ho,Xo⟩:=hrel;have zo:=Mo.out.size
      by_cases hkl9:(k:Int)<(l.length:Int)
      ·have hk2:k<l.length:=by omega
       obtain⟨pb,po,n,rfl,zb,cx,ex,dx⟩:=((L4o.out.mod Mo.out far4.out).read).at hk2;have okn:=hkl.out n (List.mem_of_getElem? ex.out);have IH:=fun(W:World) (A8:Option Addr) (c8:Nat)=>ih.out (p++[n]) bb ff ss W gs A8 c8 Fk fk fck (by simp;omega) okn
       have HS2:Hid (Vz (fun n st=>Ya D KE BE f (p++[n]) st) (n::l.drop (k+1)) (bb,ff,ss)=R0):=by
        have h:=HS.out;rw[dx.out] at h;exact h
       have stp:=QL (D:=D) (kids:=KE) (bound:=BE) f (p++[n]) bb ff ss;rcases hg:Ya D KE BE f (p++[n]) (bb,ff,ss) with⟨⟨b1,f1,s1⟩,ok1⟩;have SQ:Hid (if ok1=true then Vz (fun n st=>Ya D KE BE f (p++[n]) st) (l.drop (k+1)) (b1,f1,s1)=R0 else R0=((b1,f1,s1),false)):=by
        have h:=HS2.out;simp only[Vz,hg] at h
        cases ok1 with
        | true=>exact h
        | false=>exact h.symm
       rw[hg] at IH stp;simp only at stp;have zl9:(p++[n]).length=p.length+1:=by simp
       simp only[zl9] at IH;clear zl9;replace IH:=Hd IH;have zl:(p++[n]).length=p.length+1:=by simp
       have d1:=Bo.out.c1;clear hg HS HS2 ex dx okn;go_wp2_with (at_builtin;(refine Yw _ rfl _ _ rfl w0.heap.size Ak p.length ck p [n] (some ⟨wo.heap.size,0,none⟩) 1 rfl rfl rfl ?_ ?_ ?_ ?_ ?_;(exact Oo.out.ext ((Ext.rf _).alloc _));(exact .blk (.new (by simp)) rfl);(simp;omega);(simp;have:=zw4.out;omega);rintro A8 c8 w8 o8 g8 h8;have FG:=Hd (ZaS (A2:=none) (ys:=[]) (c2:=0) (Bo.out.ext ((Ext.rf _).alloc _)) (by decide) (Oo.out.ext ((Ext.rf _).alloc _)) (OwI.nil _ _) (fun _ _ h=>by cases h) g8 o8 h8 1 (.slice A8 (p.length+1) c8));replace g8:=Hd g8;replace h8:=Hd h8;have k1:=FG.out.1.cell 1;have f1:=FG.out.1.free 1));obtain⟨B8,B9,O9,-,-,XT⟩:=FG.out;have M8:Hid (Mod (fun z=>z=gs\/bl A=some z) w4 w8):=(Mo.out.tr (Mod.of_ext ((Ext.rf _).alloc _))).tr' (Mod.grown (S:=fun b=>bl Ak=some b) g8.out fun _ h=>h) fun z hz h=>by
        rcases Ho.out with h9 | ⟨b9,h9,h10⟩
        ·exact .inr (by rw[<-h9];exact h)
        ·rw[h9] at h
         injection h with h
         omega
       have H8:Hid (bl A8=bl Ak\/∃ b,bl A8=some b/\w4.heap.size<=b):=h8.out.imp id (fun⟨b9,h9,h10⟩=>⟨b9,h9,by simp at h10;omega⟩);have X9:=XT w0 (Xo.out.alloc _) (Nat.le_refl _) hgs;have M9:=M8.out.set (p:=⟨gs,1,none⟩) (.inl (.inl rfl)) (.slice A8 (p.length+1) c8);have H9:bl A8=bl A\/∃ b,bl A8=some b/\w4.heap.size<=b:=by
        rcases H8.out with h | h
        ·rw[h];exact Ho.out
        ·exact .inr h
       have z9:=M9.size;refine(IH.out _ A8 c8 X9 hgs B9 O9 hss).mono ?_;rintro e wa ⟨A',c',F',fl',fc',rfl,Ba,Oa,Ma,Ha⟩;have Xa:=Hd (X9.mod Ma fun z hz h=>by
        rcases h with rfl | h
        ·omega
        ·have:=(O9.lt z h).1
         omega)
       have Mw:Hid (Mod (fun z=>z=gs\/bl A=some z) w4 wa):=M9.tr' Ma fun z hz h=>by
        rcases h with rfl | h
        ·exact .inl rfl
        ·rcases H9 with h9 | ⟨b9,h9,h10⟩
         ·exact .inr (by rw[<-h9];exact h)
         ·rw[h9] at h
          injection h with h
          omega
       have Hw:Hid (bl A'=bl A\/∃ b,bl A'=some b/\w4.heap.size<=b):=by
        rcases Ha with h | ⟨b9,h9,h10⟩
        ·rw[h];exact H9
        ·exact .inr ⟨b9,h9,by omega⟩
       have lc':=Oa.le;rw[zl] at lc';obtain⟨m,hm⟩:∃ m,(p++[n]).length=m:=⟨_,rfl⟩;rw[hm] at Ba;have hm2:m=p.length+1:=by omega
       have lc2:p.length<=c':=by omega
       have wm:IntKind.i64.wrap ((m:Int)-1)=(p.length:Int):=by rw[show (m:Int)-1=(p.length:Int) by omega];exact IntWalk.i64_in _ (by omega)
       have q1:(0:Int)<=(p.length:Int):=by omega
       have q2:(p.length:Int)<=(c':Int):=by omega
       have Oi:=Hd Oa.init;have Ba9:=Hd Ba;have zB:=Ba.lt;have d1:=Ba.c1;clear B8 B9 O9 XT X9 M9 H9 z9 FG M8 H8 k1 f1 g8 h8 Ma Ha Oa Ba IH cx;go_upto_region 16 with(fail);refine wp_region_any (by kernel_rfl) ?_
       change wpAny _ _ _ _ _ _ _ (World.drew _)
       refine Za (i:=0) (op:=Op.move (Operand.tmp 0)) (t:=85) (d:=some 95) (v:=?_) rfl (by decide +kernel) (by decide +kernel) (by decide +kernel) (fun _ _ _ h=>h) ?_ ?_
       case refine_2=>(intro _;unfold Zd;go_simp;try with_reducible rfl)
       try simp only[lay]
       refine Za (i:=1) (op:=Op.move (Operand.tmp 0)) (t:=85) (d:=some 96) (v:=?_) rfl (by decide +kernel) (by decide +kernel) (by decide +kernel) (fun _ _ _ h=>h) ?_ ?_
       case refine_2=>(intro _;unfold Zd;go_simp;try with_reducible rfl)
       try simp only[lay]
       refine Za (i:=2) (op:=Op.nilCheck (Operand.tmp 96)) (t:=0) (d:=some 97) (v:=?_) rfl (by decide +kernel) (by decide +kernel) (by decide +kernel) (fun _ _ _ h=>h) ?_ ?_
       case refine_2=>(intro _;unfold Zd;go_simp;try with_reducible rfl)
       try simp only[lay]
       refine Za (i:=3) (op:=Op.fieldAddr 87 (Operand.tmp 97) 1) (t:=0) (d:=some 98) (v:=?_) rfl (by decide +kernel) (by decide +kernel) (by decide +kernel) (fun _ _ _ h=>h) ?_ ?_
       case refine_2=>(intro _;unfold Zd;go_simp;try with_reducible rfl)
       try simp only[lay]
       refine Za (i:=5) (op:=Op.move (Operand.tmp 0)) (t:=85) (d:=some 100) (v:=?_) rfl (by decide +kernel) (by decide +kernel) (by decide +kernel) (fun _ _ _ h=>h) ?_ ?_
       case refine_2=>(intro _;unfold Zd;go_simp;try with_reducible rfl)
       try simp only[lay]
       refine Za (i:=6) (op:=Op.nilCheck (Operand.tmp 100)) (t:=0) (d:=some 101) (v:=?_) rfl (by decide +kernel) (by decide +kernel) (by decide +kernel) (fun _ _ _ h=>h) ?_ ?_
       case refine_2=>(intro _;unfold Zd;go_simp;try with_reducible rfl)
       try simp only[lay]
       refine Za (i:=7) (op:=Op.fieldAddr 87 (Operand.tmp 101) 1) (t:=0) (d:=some 102) (v:=?_) rfl (by decide +kernel) (by decide +kernel) (by decide +kernel) (fun _ _ _ h=>h) ?_ ?_
       case refine_2=>(intro _;unfold Zd;go_simp;try with_reducible rfl)
       try simp only[lay]
       refine ZM (n:=3) [(4,some 99),(8,some 103),(9,some 104),(10,some 105),(11,some 106)] (Ext wa) (VF (fun | 4=>some (.slice A' m c') | 8=>some (.slice A' m c') | 9=>some (.int .i64 (m:Int)) | 10=>some (.int .i64 (p.length:Int)) | 11=>some (.slice A' p.length c') | _=>none) (fun i v W=>True)) Ext #[true,true,true,true,true,true,true,true,true,true,true,true,false,false,false] (by decide +kernel) (VF.stab ?_) ?_ ?_ (by first | exact(Ext.rf _).drew | exact Ext.rf _)
       ·intro j v W W' _ _ _;trivial
       ·intro pS hpm uS wS hRW hD K hK
        simp only[List.mem_cons,List.not_mem_nil,or_false] at hpm;rcases hpm with rfl | rfl | rfl | rfl | rfl
        ·( have rX:=Zg hRW zB d1;exact Zo (T:=22) (x:=Operand.tmp 98) (t:=22) (d:=some 99) rfl (.pointer (some ⟨gs,1,none⟩)) (by kernel_rfl) (.slice A' m c') (by go_simp) (hK _ _ (VF.mk rfl) hRW (Ext.rf _)))
        ·( have rX:=Zg hRW zB d1;exact Zo (T:=22) (x:=Operand.tmp 102) (t:=22) (d:=some 103) rfl (.pointer (some ⟨gs,1,none⟩)) (by kernel_rfl) (.slice A' m c') (by go_simp) (hK _ _ (VF.mk rfl) hRW (Ext.rf _)))
        ·(have e8:uS 8=.slice A' m c':=(hD 8 (Zm (by kernel_rfl))).k rfl;exact ZB (op:=Op.call { callee:=Callee.builtin Builtin.len,args:=#[Operand.tmp 103],argTypes:=#[22] }) (t:=3) (d:=some 104) rfl (.int .i64 (m:Int)) (by simp only[Zj,Act.put,List.setIfInBounds_toArray,List.set_cons_zero,List.set_cons_succ];unfold Zd;(try go_simp);(try simp only[e8]);(try go_simp);(try rfl);(try (exact IntWalk.i64_in _ (by omega)))) (hK _ _ (VF.mk rfl) hRW (Ext.rf _)))
        ·(have e9:uS 9=.int .i64 (m:Int):=(hD 9 (Zm (by kernel_rfl))).k rfl;exact ZB (op:=Op.binOp BinOp.sub 3 (Operand.tmp 104) (Operand.const (Value.int IntKind.i64 1)) 3) (t:=3) (d:=some 105) rfl (.int .i64 (p.length:Int)) (by simp only[Zj,Act.put,List.setIfInBounds_toArray,List.set_cons_zero,List.set_cons_succ];unfold Zd;(try go_simp);(try simp only[e9]);(try go_simp);(try rfl);(try (exact IntWalk.i64_in _ (by omega)))) (hK _ _ (VF.mk rfl) hRW (Ext.rf _)))
        ·(have e4:uS 4=.slice A' m c':=(hD 4 (Zm (by kernel_rfl))).k rfl;have e10:uS 10=.int .i64 (p.length:Int):=(hD 10 (Zm (by kernel_rfl))).k rfl;exact ZB (op:=Op.slice 22 (Operand.tmp 99) none (some (Operand.tmp 105)) none) (t:=22) (d:=some 106) rfl (.slice A' p.length c') (by simp only[Zj,Act.put,List.setIfInBounds_toArray,List.set_cons_zero,List.set_cons_succ];unfold Zd;(try go_simp);(try simp only[e4,e10]);(try go_simp);(try rfl);(try (exact IntWalk.i64_in _ (by omega)))) (hK _ _ (VF.mk rfl) hRW (Ext.rf _)))
       intro u wb hRb hV;have h4:=(hV (4,some 99) (by simp)).k rfl;have h8:=(hV (8,some 103) (by simp)).k rfl;have h9:=(hV (9,some 104) (by simp)).k rfl;have h10:=(hV (10,some 105) (by simp)).k rfl;have h11:=(hV (11,some 106) (by simp)).k rfl;simp only[Zj,h4,h8,h9,h10,h11];clear hV h4 h8 h9 h10 h11
       try simp only[lay]
       have Bb:=Ba9.out.ext hRb;have k1:=Bb.c1;have f1:=Bb.free 1;have Bc:Hid (Blk (wb.setCell ⟨gs,1,none⟩ (.slice A' p.length c')) gs 87 #[.pointer (some ⟨g,0,none⟩),.slice A' p.length c',.slice F' fl' fc',.int .i64 b1,.int .i64 (s1:Int)]):=Bb.set 1 _;have Oc:Hid (OwI (wb.setCell ⟨gs,1,none⟩ (.slice A' p.length c')) w0.heap.size A' c' p):=(Oi.out.ext hRb).far Bb (by decide) 1 _;have Mc:Hid (Mod (fun z=>z=gs\/bl A=some z) w4 (wb.setCell ⟨gs,1,none⟩ (.slice A' p.length c'))):=(Mw.out.ext hRb).set (.inl (.inl rfl)) _;have Xc:Hid (Ext w0 (wb.setCell ⟨gs,1,none⟩ (.slice A' p.length c'))):=(Xa.out.tr hRb).setNew hgs _;clear hRb Bb Ba9 Oi Mw Xa d1
       try simp only[lay]
       refine Za (i:=12) (op:=Op.nilCheck (Operand.tmp 95)) (t:=0) (d:=some 107) (v:=?_) rfl (by decide +kernel) (by decide +kernel) (by decide +kernel) (fun _ _ _ h=>h) ?_ ?_
       case refine_2=>(intro _;unfold Zd;go_simp;try with_reducible rfl)
       try simp only[lay]
       refine Za (i:=13) (op:=Op.fieldAddr 87 (Operand.tmp 107) 1) (t:=0) (d:=some 108) (v:=?_) rfl (by decide +kernel) (by decide +kernel) (by decide +kernel) (fun _ _ _ h=>h) ?_ ?_
       case refine_2=>(intro _;unfold Zd;go_simp;try with_reducible rfl)
       try simp only[lay]
       refine Zh 14 (by decide +kernel) (Yo rfl (.pointer (some ⟨gs,1,none⟩)) (.slice A' p.length c') (by kernel_rfl) (by kernel_rfl) (by go_simp;rfl) ?_)
       try simp only[lay]
       refine wpAny_done (by kernel_rfl) ?_ _;generalize (wb.setCell ⟨gs,1,none⟩ (.slice A' p.length c'))=wc at *;clear k1 f1;go_simp
       cases ok1 with
       | false =>
        have hR9:R0=((b1,f1,s1),false):=by have h:=SQ.out;simpa using h
        have P:Hid (XC w0 g gs p A R0 w (.returned (.bool false)) wc):=by
         rw[hR9];exact⟨A',c',F',fl',fc',rfl,Bc.out,Oc.out,M4.out.tr Mc.out,Hw.out.imp id fun⟨b9,h9,h10⟩=>⟨b9,h9,by have:=zw4.out.1;omega⟩⟩
        clear hR9 SQ Bc Oc Mc Xc Hw;go_wp2_with (fail);go_ret;exact P.out
       | true =>
        have SQ2:Hid (Vz (fun n st=>Ya D KE BE f (p++[n]) st) (l.drop (k+1)) (b1,f1,s1)=R0):=Hd (by have h:=SQ.out;simpa using h);clear SQ;go_wp2_with (fail);go_roundw
        case rel=>exact⟨k+1,b1,f1,s1,A',c',F',fl',fc',by go_num,by omega,SQ2,by omega,Bc,Oc,Mc,Hw,Xc⟩
        case measure=>(simp only[intOf];omega)
      ·obtain rfl:k=l.length:=by omega
       have hR9:R0=((bb,ff,ss),true):=by
        have h:=HS.out;rw[List.drop_length] at h;exact h.symm
       have P:Hid (XC w0 g gs p A R0 w (.returned (.bool true)) wo):=by
        rw[hR9];exact⟨Ak,ck,Fk,fk,fck,rfl,Bo.out,Oo.out,M4.out.tr Mo.out,Ho.out.imp id fun⟨b9,h9,h10⟩=>⟨b9,h9,by have:=zw4.out.1;omega⟩⟩
       clear hR9 HS;go_wp2_with (fail);go_ret;exact P.out
def VN (i:InstP)(cost:Int)(s:Nat)(w:World)(e:Ending)(w':World) : Prop:=∃ (F:Option Addr) (fl fc:Nat),e=.returned (.tuple #[.slice F fl fc,.int .i64 (XQ i cost s).1.1,.bool (XQ i cost s).2])/\Ext w w'
theorem ZaT (i:InstP)(g:Nat)(cost:Int)(s:Nat)(w:World)(K:KernI w g i)(hT:Tab w)(hs:s<=1000000) :
  Calls Tryz.prog 14 #[.pointer (some ⟨g,0,none⟩),.int .i64 cost,.int .i64 (s:Int)] w (VN i cost s w):=by
 have KR:=Zfd K.1;have LG:=Zei (ZJ i) (fun p=>(Wf i p).1) (fun p=>(YM i p).1) (okI i) g w
  (fun W x P c p hP lp=>⟨_,Zbu P c p (K.ext x) (hT.ext x) hP (by omega)⟩)
  (fun W x=>Zbt (K.ext x))
  (fun W x P c p hP lp=>⟨_,Zbv P c p (K.ext x) (hT.ext x) hP (by omega)⟩)
  KR.len KR.kid (Zdd K.1) (ZJ i+1) [] cost [] s
  (w.alloc (.cells #[.pointer (some ⟨g,0,none⟩),.slice none 0 0,.slice none 0 0,.int .i64 cost,.int .i64 (s:Int)] 87)) w.heap.size none 0 none 0 0 (by simp) (JH K.1) ((Ext.rf w).alloc _) (Nat.le_refl _) (.new rfl) (OwI.nil _ _) hs
 have e1:¬(s:Int)<0:=by omega
 unfold VN XQ;generalize Ya (ZJ i) (fun p=>(Wf i p).1) (fun p=>(YM i p).1) (ZJ i+1) [] (cost,[],s)=R at *;obtain⟨⟨b1,f1,s1⟩,ok1⟩:=R;unfold XC at LG;simp only[List.length_nil] at LG ⊢;replace LG:=Hd LG;clear KR K hT;go_enter Tryz.func14,Tryz.ntmps14;go_wp2_with (fail);refine LG.out.mono ?_;rintro e w2 ⟨A',c',F,fl,fc,rfl,B2,-,M2,-⟩;have X2:=Hd (((Ext.rf w).alloc _).mod M2 fun z hz h=>by
  rcases h with rfl | h
  ·omega
  ·cases h)
 have d2:=B2.c2;have d3:=B2.c3;clear B2 M2 LG;go_upto_region 5 with(fail);go_quiet (fail);go_wp2_with (fail);go_ret3;exact⟨F,fl,fc,rfl,X2.out.tr (by(repeat (first | assumption | exact Ext.rf _ | apply Ext.drew | apply Ext.drewN | apply Ext.alloc)))⟩
def exA : InstP:=⟨2,2,0,[],[],[[1,2],[3,9]]⟩
theorem Zde : Zl exA=0:=by decide
theorem Zca {w:World}{b:Nat}{x y:Int}{c:Nat}(h:Blk w b 3 #[.int .i64 x,.int .i64 y])(hx:-9223372036854775808<=x/\x<=9223372036854775807)(hy:-9223372036854775808<=y/\y<=9223372036854775807)(hc:2<=c)(hm:c<=maxLen) : RInts w [.slice (some ⟨b,0,none⟩) 2 c] [x,y] :=
 ⟨some ⟨b,0,none⟩,c,rfl,.blk h rfl,by intro z hz;simp at hz;rcases hz with rfl | rfl<;>assumption,hc,hm⟩
theorem Zdf (w:World) : RInst (((w.alloc (.cells #[.int .i64 1,.int .i64 2] 3)).alloc (.cells #[.int .i64 3,.int .i64 9] 3)).alloc (.cells #[.slice (some ⟨w.heap.size,0,none⟩) 2 2,.slice (some ⟨w.heap.size+1,0,none⟩) 2 2] 22)) [.int .i64 2,.int .i64 2,.int .i64 0,.slice none 0 0,.slice none 0 0,.slice (some ⟨w.heap.size+1+1,0,none⟩) 2 2] exA:=by
 have hz:2<=maxLen:=by simp[maxLen]
 have b0:Blk (((w.alloc (.cells #[.int .i64 1,.int .i64 2] 3)).alloc (.cells #[.int .i64 3,.int .i64 9] 3)).alloc (.cells #[.slice (some ⟨w.heap.size,0,none⟩) 2 2,.slice (some ⟨w.heap.size+1,0,none⟩) 2 2] 22)) w.heap.size 3 #[.int .i64 1,.int .i64 2]:=.alloc (.alloc (.new rfl) _) _;have b1:Blk (((w.alloc (.cells #[.int .i64 1,.int .i64 2] 3)).alloc (.cells #[.int .i64 3,.int .i64 9] 3)).alloc (.cells #[.slice (some ⟨w.heap.size,0,none⟩) 2 2,.slice (some ⟨w.heap.size+1,0,none⟩) 2 2] 22)) (w.heap.size+1) 3 #[.int .i64 3,.int .i64 9]:=.alloc (.new (by simp)) _;have b2:Blk (((w.alloc (.cells #[.int .i64 1,.int .i64 2] 3)).alloc (.cells #[.int .i64 3,.int .i64 9] 3)).alloc (.cells #[.slice (some ⟨w.heap.size,0,none⟩) 2 2,.slice (some ⟨w.heap.size+1,0,none⟩) 2 2] 22)) (w.heap.size+1+1) 22 #[.slice (some ⟨w.heap.size,0,none⟩) 2 2,.slice (some ⟨w.heap.size+1,0,none⟩) 2 2]:=.new (by simp);refine⟨none,0,none,0,some ⟨w.heap.size+1+1,0,none⟩,2,rfl,⟨.inl rfl,Ints.nil,by simp[exA],ZQ⟩,⟨.inl rfl,Ints.nil,by simp[exA],ZQ⟩,⟨.inr ⟨_,0,rfl,b2.lt,?_⟩,by simp[exA],hz⟩⟩;intro i x hi
 match i,hi with
 | 0,hi =>
  simp[exA] at hi;subst hi;refine⟨_,Zca b0 (by omega) (by omega) (Nat.le_refl 2) hz,rfl,fun j v hj=>?_⟩
  match j,hj with
  | 0,hj=>rw[b2.cell];simp at hj;subst hj;rfl
 | 1,hi =>
  simp[exA] at hi;subst hi;refine⟨_,Zca b1 (by omega) (by omega) (Nat.le_refl 2) hz,rfl,fun j v hj=>?_⟩
  match j,hj with
  | 0,hj=>rw[b2.cell];simp at hj;subst hj;rfl
 | i+2,hi=>simp[exA] at hi
theorem Zdg {l:List Nat}(hp:l.Perm (List.range 2))(h:Least [[1,2],[3,9]] 2 (Zr [[1,2],[3,9]] (Ze l))) : l=[1,0]:=by
 have hl:=QJ hp
 match l,hl with
 | [a,b],_ =>
  have ha:a<2:=List.mem_range.1 (hp.mem_iff.1 (by simp));have hb:b<2:=List.mem_range.1 (hp.mem_iff.1 (by simp));have hn:[a,b].Nodup:=hp.symm.nodup List.nodup_range;have hab:a≠b:=by simpa using hn
  have h2:=h.2 [1,0] (by decide)
  match a,b,ha,hb with
  | 0,0,_,_=>exact absurd rfl hab
  | 1,1,_,_=>exact absurd rfl hab
  | 1,0,_,_=>rfl
  | 0,1,_,_=>exact absurd h2 (by decide)
theorem Wz (w:World) : Calls Tryz.prog 21 #[] w fun e w'=>e=.returned (.bool true)/\Ext w w':=by
 have N:=fun(vs:List Value) (W:World) (H:RInst W vs exA)=>Zb8 exA vs W H Zde rfl
 unfold JS at N;simp only[show exA.cost=[[1,2],[3,9]] from rfl,List.length_cons,List.length_nil,Nat.zero_add,Nat.reduceAdd] at N;replace N:=Hd N;go_enter Tryz.func21,Tryz.ntmps21;go_wp2_with (fail);refine(N.out _ _ (Zdf w)).mono ?_;rintro e w2 ⟨A,c,l,rfl,rd,pm,lc,mc,LE,x2⟩;obtain rfl:=Zdg pm LE;have X2:=Hd (Ext.tr (a:=w) (by(repeat (first | assumption | exact Ext.rf _ | apply Ext.drew | apply Ext.drewN | apply Ext.alloc))) x2);obtain⟨b,off,y0,rfl,_,c0,e0,_⟩:=rd.at (k:=0) (by simp[Ze]);obtain⟨b',off',y1,hA,_,c1,e1,_⟩:=rd.at (k:=1) (by simp[Ze]);obtain⟨rfl,rfl⟩:b=b'/\off=off':=by simpa using hA
 obtain rfl:y0=1:=by have h:=e0.out;simp[Ze] at h;exact h.symm
 obtain rfl:y1=0:=by have h:=e1.out;simp[Ze] at h;exact h.symm
 rw[show Zr [[1,2],[3,9]] (Ze [1,0])=5 from by decide];rw[Nat.add_zero] at c0;clear rd pm LE x2 e0 e1 hA N;go_wp2_with (fail);go_ret;exact⟨rfl,X2.out⟩
def Zej : List (String×DataW Unit):=[("math/bits.deBruijn64tab",Rows.laid_math_bits_deBruijn64tab)]
theorem ZeS : (Rows.laid_math_bits_deBruijn64tab:DataW Unit)=.agg (Lib.deBruijn64tab.map fun n:Nat=>.lit (.int .u8 (n:Int))):=by kernel_rfl
theorem ZaU {W:World}(h:laidMetH Tryz.prog Zej W) : Tab W:=by
 rw[MakeChecks.laidMetH_plain _ _ _ (by kernel_rfl)] at h;obtain⟨ps,⟨g,t,cs,fuel,p,q,hg,ht,hv,hd,_,_⟩,_,_⟩:=h;obtain rfl:=Option.some.inj ((show Tryz.prog.globalNamed "math/bits.deBruijn64tab" = some 0 by kernel_rfl).symm.trans hg);obtain rfl:=Option.some.inj ((show (Tryz.prog.globals[0]?).map (·.type)=some 241 by kernel_rfl).symm.trans ht);rw[show (Rows.laid_math_bits_deBruijn64tab:DataW Unit)=.agg (Lib.deBruijn64tab.map fun n:Nat=>.lit (.int .u8 (n:Int))) from ZeS] at hd;obtain⟨xs,m,_,ex,_,hl,hel⟩:=DataW.trod_array Tryz.underlying241 hd;intro r hr;have hlen:Lib.deBruijn64tab.length=64:=by kernel_rfl
 rw[hlen] at hr;have c5:Tryz.prog.cellsOf 5=1:=by kernel_rfl
 have hE:=hel r hr;rw[c5,Nat.mul_one,List.getElem?_eq_getElem (by omega)] at hE;obtain⟨z,e1,e2,_⟩:=DataW.trod_int Tryz.underlying5 hE;have e3:(xs.map (·.1))=Lib.deBruijn64tab.map fun n:Nat=>.lit (.int .u8 (n:Int)):=(DataW.agg.inj (Prod.mk.inj ex).1).symm
 have e4:(xs.map (·.1))[r]?=(Lib.deBruijn64tab.map fun n:Nat=>(DataW.lit (.int .u8 (n:Int)):DataW Unit))[r]?:=by rw[e3]
 rw[List.getElem?_map,List.getElem?_map,List.getElem?_eq_getElem (by omega:r<xs.length),List.getElem?_eq_getElem (by omega:r<Lib.deBruijn64tab.length),e2] at e4;have hz:z=((Lib.deBruijn64tab.getD r 0:Nat):Int):=by
  simp only[Option.map_some,Option.some.injEq,DataW.lit.injEq,Lit.int.injEq,true_and] at e4;rw[e4,List.getD,List.getElem?_eq_getElem (by omega:r<Lib.deBruijn64tab.length)];rfl
 rw[World.var?_cell hg hv r,<-hz];have:cs.toList[r]?=some (.int .u8 z):=by
  have h0:((cs.toList.drop r).take 1)[0]?=some (.int .u8 z):=by rw[e1];rfl
  simpa using h0
 simpa using this
end Go.Proofs.YtmojhhlcocjoaaaGreatDoor
