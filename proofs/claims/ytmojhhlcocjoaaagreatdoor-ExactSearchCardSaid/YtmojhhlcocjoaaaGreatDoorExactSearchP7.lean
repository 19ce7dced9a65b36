/- packed and squeezed by programs (see wip/) -/
import Derived.Test.YtmojhhlcocjoaaaGreatDoorExactSearchP6
import Derived.Shelf.SlLaysF0
import Derived.Shelf.SlSortCmp.WholeK
set_option maxRecDepth 100000
set_option maxHeartbeats 16000000
set_option linter.unusedVariables false
set_option linter.unusedSimpArgs false
namespace Go.Proofs.YtmojhhlcocjoaaaGreatDoor
open Go.RowKit Go.ChangeShapes Go.WideShapes Go.ChangeAt Go.Deep
def LeastT (rows:List (List Int))(n:Nat)(c:Int) : Prop:=(∃ q:List Nat,(0::q).Perm (List.range n)/\Zx rows 0 q=c)/\∀ q:List Nat,(0::q).Perm (List.range n)->c<=Zx rows 0 q
def ZaJ (rows:List (List Int))(w:World)(e:Ending)(w':World) : Prop :=
 ∃ A c q,e=.returned (.tuple #[.slice A rows.length c,.int .i64 (Zx rows 0 q),.int .i64 0])/\RdI w' A (Ze (0::q))/\(0::q).Perm (List.range rows.length)/\rows.length<=c/\c<=maxLen/\LeastT rows rows.length (Zx rows 0 q)/\Ext w w'
def Xn (f:Nat->Int) : Nat->Nat
 | 0=>0
 | k+1=>if f k<f (Xn f k) then k else Xn f k
theorem JM {f:Nat->Int}{n:Nat}(h:1<=n) : ∀ k,k<=n->Xn f k<n
 | 0,_=>by simp only[Xn];omega
 | k+1,hk=>by
  have:=JM (f:=f) h k (by omega);unfold Xn;split<;>omega
theorem Zb7 {f:Nat->Int} : ∀ k j,j<k->f (Xn f k)<=f j
 | 0,j,h=>by omega
 | k+1,j,h=>by
  unfold Xn
  by_cases e:j=k
  ·subst e
   split<;>omega
  ·have:=Zb7 (f:=f) k j (by omega)
   split<;>omega
theorem Jm {ops:Array Oper}{i:Nat}{t:TypeId}{d:Option Tmp}{a:Act}{w:World}{K:Act->World->Prop}{Q:Exit->Act->World->Prop}{x y:Operand}(hi:Wl ops i=some (none,.makeSlice 23 x y,t,d))(n:Nat)(L:Int)(hx:a.eval x=.int .i64 L)(hy:a.eval y=.int .i64 L)(hL:L=(n:Int))(hn:n<=2^40)
  (hK:∀ w',(∃ cs,Blk w' w.heap.size 22 cs/\cs.size=n)->Ext w w'->K (a.put d (.slice (some ⟨w.heap.size,0,none⟩) n n)) w'):wpOp Tryz.prog ops Q i K a w:=by
 obtain⟨i0,hi0,hz0,hz1,hz2⟩:=info_parts U6;subst hL;obtain⟨w',hrun,h2,h3⟩:=run_make_full (P:=Tryz.prog) w w.heap.size 23 22 i0 _ 1 Tryz.underlying23 hi0 hz0 hz1 .i64 .i64 n (by rw[hz2];omega) (by simp only[maxLen];omega) (Nat.le_refl _);refine ZB hi _ (by simp[Zd,execOp,hx,hy,hrun]) (hK w' ?_ ((Ext.rf _).grownNone h3));rcases OwV.cases h2 with⟨e,_⟩ | ⟨g,cur,e,_,hg,_,_,hs,_⟩
 ·cases e
 ·obtain rfl:w.heap.size=g:=by simpa using e
  exact⟨cur,hg,by simpa using hs⟩
theorem Zd5 (i:InstP)(us:List Value)(w:World)(H:RInst w us i)(hc:Zl i=0)(hk:i.kind=3)(h12:i.n<=12) :
  Calls Tryz.prog 43 #[.agg (List.toArray us)] w (ZaJ i.cost w):=by
 have sq:=Zt hc (by omega);have rok:=ZZ sq;have hln:=sq.len;have n1:=rok.n1;obtain⟨n,hn⟩:∃ n,i.cost.length=n+1:=⟨i.cost.length-1,by omega⟩;have n11:n<=11:=by omega
 have hin:i.n=n+1:=by omega
 obtain⟨N,hN⟩:∃ N,N=2^n:=⟨_,rfl⟩;have num:=Xe rok;have TK:=fun(W:World) (x:Ext w W)=>Zbz i us W (H.ext x) hc hk h12
 have TO:=fun(P:Option Addr) (c:Nat) (q:List Nat) (W:World) (x:Ext w W) (hP:RdI W P (Ze (0::q))) (hl:(0::q).Perm (List.range i.cost.length))=>ZcW i us P c q W (H.ext x) hc hk hP hl
 have FI:=fun(W:World) (x:Ext w W) (gp tc tb:Nat) (n1:1<=n) (hP:Blk W gp 137 #[.slice (some ⟨tc,0,none⟩) N N,.slice (some ⟨tb,0,none⟩) N N]) (S1:FillS i.cost n N W W w.heap.size tc tb 1) (hc:w.heap.size<=tc) (hb:w.heap.size<=tb) (hcb:tc≠tb)=>Zd4 i us w W H x rok n N gp tc tb hin hn n1 n11 hN hP S1 hc hb hcb
 obtain⟨kind,nn,cap,xw,xv,co⟩:=i;obtain⟨A,a,B,b,D,d,rfl,-,-,hC,-⟩:=H;simp only at *;subst hk hin;unfold ZaJ;rw[hn] at TK TO FI num ⊢;have B1:Hid (Blk (w.alloc (.cells #[.int .i64 3,.int .i64 (n+1),.int .i64 cap,.slice A xw.length a,.slice B xv.length b,.slice D (n+1) d] 25)) w.heap.size 25 #[.int .i64 3,.int .i64 (n+1),.int .i64 cap,.slice A xw.length a,.slice B xv.length b,.slice D (n+1) d]):=.new rfl;have wn1:IntKind.i64.wrap ((n:Int)+1-1)=(n:Int):=by rw[show (n:Int)+1-1=(n:Int) by omega];exact IntWalk.i64_in _ (by omega)
 have CA:=Hd (fun(W:World) (x:Ext w W) (r c:Nat) (hr:r<n+1) (hc:c<n+1)=>Ww rok (hC.ext x fun _ _ h=>h.ext x) (r:=r) (c:=c) (by omega) (by omega));rw[hn] at CA;have N2:N<=2048:=by
  have:2^n<=2^11:=Nat.pow_le_pow_right (by omega) n11;omega
 have SH:IntKind.i64.wrap ((2:Int)^n)=(N:Int):=by rw[hN];exact Xm n (by omega)
 replace TK:=Hd TK;replace TO:=Hd TO;replace FI:=Hd FI;replace num:=Hd num;replace hn:=Hd hn;replace hN:=Hd hN;clear hc hC rok sq n1 h12 hln;go_enter Tryz.func43,Tryz.ntmps43;go_wp2_with (fail);refine(TK.out _ (by(repeat (first | assumption | exact Ext.rf _ | apply Ext.drew | apply Ext.drewN | apply Ext.alloc)))).mono ?_;rintro e w1 ⟨rfl,x1⟩;have X1:=Hd (Ext.tr (a:=w) (by(repeat (first | assumption | exact Ext.rf _ | apply Ext.drew | apply Ext.drewN | apply Ext.alloc))) x1);have b1:=Hd (B1.out.ext x1);have t1:=b1.out.c1;clear x1 B1
 by_cases hz:n=0
 ·have q0:((n:Int)==0)=true:=by rw[beq_iff_eq];omega
  have t0:=b1.out.c0;have t2:=b1.out.c2;have t3:=b1.out.c3;have t4:=b1.out.c4;have t5:=b1.out.c5;have PR:Hid ((0::([]:List Nat)).Perm (List.range (n+1))):=Hd (by rw[hz];exact List.Perm.refl _);have TT:Hid (∀ (m:Nat),m=n+1->∀ W:World,Ext w1 W->∀ P,RdI W P (Ze [0])->Calls Tryz.prog 83 #[.agg #[.int .i64 3,.int .i64 (n+1),.int .i64 cap,.slice A xw.length a,.slice B xv.length b,.slice D (n+1) d],.slice P m 1] W fun e w'=>e=.returned (.tuple #[.slice P m 1,.int .i64 (Zx co 0 []),.int .i64 0])/\Ext W w'):=fun m hm W x P hP=>by
   subst hm;exact TO.out P 1 [] W (X1.out.tr x) hP PR.out
  have hD1:Hid (n+1=1):=Hd (by omega);have LT:Hid (LeastT co (n+1) (Zx co 0 [])):=⟨⟨_,PR.out,rfl⟩,fun q hq=>by
   have h:=hq.length_eq;rw[List.length_range,hz] at h;obtain rfl:q=[]:=List.eq_nil_of_length_eq_zero (by simpa using h);exact Int.le_refl _⟩
  replace hz:=Hd hz;go_wp2_with (fail);refine(TT.out 1 hD1.out.symm _ (by(repeat (first | assumption | exact Ext.rf _ | apply Ext.drew | apply Ext.drewN | apply Ext.alloc))) _ (.blk (by(first | exact .new (by simp) | exact .drew (.new (by simp)) | exact .alloc (.new (by simp)) _ | exact .drew (.alloc (.new (by simp)) _) | exact .alloc (.alloc (.new (by simp)) _) _ | exact .drew (.alloc (.alloc (.new (by simp)) _) _) | (repeat (first | assumption | (refine Blk.new ?_;(focus (simp;done))) | apply Blk.drew | apply Blk.drewN | apply Blk.alloc)))) rfl)).mono ?_;rintro e w3 ⟨rfl,x3⟩;have X3:Hid (Ext w w3):=X1.out.tr (Ext.tr (by(repeat (first | assumption | exact Ext.rf _ | apply Ext.drew | apply Ext.drewN | apply Ext.alloc))) x3);have R3:Hid (RdI w3 (some ⟨w1.heap.size,0,none⟩) (Ze [0])):=RdI.ext (.blk (by(first | exact .new (by simp) | exact .drew (.new (by simp)) | exact .alloc (.new (by simp)) _ | exact .drew (.alloc (.new (by simp)) _) | exact .alloc (.alloc (.new (by simp)) _) _ | exact .drew (.alloc (.alloc (.new (by simp)) _) _) | (repeat (first | assumption | (refine Blk.new ?_;(focus (simp;done))) | apply Blk.drew | apply Blk.drewN | apply Blk.alloc)))) rfl) x3;clear x3 t0 t1 t2 t3 t4 t5 TT;go_wp2_with (fail);go_ret3;exact⟨some ⟨w1.heap.size,0,none⟩,1,[],by rw[hD1.out];rfl,R3.out,PR.out,by rw[hD1.out];exact Nat.le_refl _,by simp[maxLen],LT.out,X3.out⟩
 ·have q0:((n:Int)==0)=false:=by rw[beq_eq_false_iff_ne];omega
  have n1:1<=n:=by omega
  go_wp2_with (fail);go_cut [7] (fun v7 wx=>∃ gp tc tb,v7=.pointer (some ⟨gp,0,none⟩)/\Blk wx gp 137 #[.slice (some ⟨tc,0,none⟩) N N,.slice (some ⟨tb,0,none⟩) N N]/\FillS co n N wx wx w.heap.size tc tb 1/\w1.heap.size<=tc/\w1.heap.size<=tb/\tc≠tb/\Ext w1 wx)
  case first =>
   refine wp_region_any (by kernel_rfl) ?_
   change wpAny _ _ _ _ _ _ _ (World.drew _)
   refine Za (i:=0) (op:=Op.move (Operand.tmp 6)) (t:=3) (d:=some 29) (v:=?_) rfl (by decide +kernel) (by decide +kernel) (by decide +kernel) (fun _ _ _ h=>h) ?_ ?_
   case refine_2=>(intro _;unfold Zd;go_simp;try with_reducible rfl)
   try simp only[lay]
   refine Za (i:=1) (op:=Op.binOp BinOp.shl 3 (Operand.const (Value.int IntKind.i64 1)) (Operand.tmp 29) 3) (t:=3) (d:=some 30) (v:=?_) rfl (by decide +kernel) (by decide +kernel) (by decide +kernel) (fun _ _ _ h=>h) ?_ ?_
   case refine_2=>(intro _;unfold Zd;go_simp;try with_reducible rfl)
   try simp only[lay]
   refine Za (i:=3) (op:=Op.move (Operand.tmp 6)) (t:=3) (d:=some 32) (v:=?_) rfl (by decide +kernel) (by decide +kernel) (by decide +kernel) (fun _ _ _ h=>h) ?_ ?_
   case refine_2=>(intro _;unfold Zd;go_simp;try with_reducible rfl)
   try simp only[lay]
   refine Za (i:=4) (op:=Op.binOp BinOp.shl 3 (Operand.const (Value.int IntKind.i64 1)) (Operand.tmp 32) 3) (t:=3) (d:=some 33) (v:=?_) rfl (by decide +kernel) (by decide +kernel) (by decide +kernel) (fun _ _ _ h=>h) ?_ ?_
   case refine_2=>(intro _;unfold Zd;go_simp;try with_reducible rfl)
   try simp only[lay]
   refine W7 (n:=3) (σ:=Nat->Nat) [(2,some 31),(5,some 34)] (fun _ W=>Ext w1 W)
    (fun i v T W=>∃ h,v=.slice (some ⟨h,0,none⟩) N N/\(∃ cs,Blk W h 22 cs/\cs.size=N)/\w1.heap.size<=h/\h<W.heap.size/\T h=i)
    (fun T W T' W'=>Ext W W'/\∀ h,h<W.heap.size->T' h=T h) #[true,true,true,true,true,true,false,false,false] (by decide +kernel) ?_ ?_ ?_ (s0:=fun _=>0) ((Ext.rf _).drew)
   ·rintro j v T W T' W' ⟨h,k1,⟨cs,k2,k2'⟩,k3,k4,k5⟩ ⟨hx,hT⟩
    exact⟨h,k1,⟨cs,k2.ext hx,k2'⟩,k3,by have:=hx.size;omega,by rw[hT h k4];exact k5⟩
   ·intro pq hpm u T W hRW hD K hK
    have MK:∀ (i:Nat) (W':World),(∃ cs,Blk W' W.heap.size 22 cs/\cs.size=N)->Ext W W'->(∃ h,Value.slice (some ⟨W.heap.size,0,none⟩) N N=.slice (some ⟨h,0,none⟩) N N/\(∃ cs,Blk W' h 22 cs/\cs.size=N)/\w1.heap.size<=h/\h<W'.heap.size/\(fun x=>if x=W.heap.size then i else T x) h=i)/\Ext w1 W'/\(Ext W W'/\∀ h,h<W.heap.size->(fun x=>if x=W.heap.size then i else T x) h=T h):=fun i W' a x =>
     ⟨⟨_,rfl,a,hRW.size,(by obtain⟨cs,h,_⟩:=a;exact h.lt),if_pos rfl⟩,hRW.tr x,x,fun h hh=>if_neg (by omega)⟩
    simp only[List.mem_cons,List.not_mem_nil,or_false] at hpm;rcases hpm with rfl | rfl
    ·exact Jm rfl N (N:Int) (by kernel_rfl) (by kernel_rfl) rfl (by omega) fun W' a x=>hK _ _ _ (MK 2 W' a x).1 (MK 2 W' a x).2.1 (MK 2 W' a x).2.2
    ·exact Jm rfl N (N:Int) (by kernel_rfl) (by kernel_rfl) rfl (by omega) fun W' a x=>hK _ _ _ (MK 5 W' a x).1 (MK 5 W' a x).2.1 (MK 5 W' a x).2.2
   ·intro u T W hRW hV
    obtain⟨tc,h2,⟨c2,b2,s2⟩,z2,-,e2⟩:=hV (2,some 31) (by simp);obtain⟨tb,h5,⟨c5,b5,s5⟩,z5,-,e5⟩:=hV (5,some 34) (by simp);have ne:tc≠tb:=by rintro rfl;omega
    simp only[Zj,h2,h5];clear hV h2 h5 e2 e5
    try simp only[lay]
    refine Za (i:=6) (op:=Op.build 137 #[(0,Operand.tmp 31),(1,Operand.tmp 34)]) (t:=137) (d:=some 35) (v:=?_) rfl (by decide +kernel) (by decide +kernel) (by decide +kernel) (fun _ _ _ h=>h) ?_ ?_
    case refine_2=>(intro _;unfold Zd;go_simp;try with_reducible rfl)
    try simp only[lay]
    refine Zh 7 (by decide +kernel) (ZB (op:=.box 137 (.tmp 35)) rfl (.pointer (some ⟨W.heap.size,0,none⟩)) (w':=W.alloc (.cells #[.slice (some ⟨tc,0,none⟩) N N,.slice (some ⟨tb,0,none⟩) N N] 137)) (by unfold Zd;go_simp) ?_)
    try simp only[lay]
    refine Za (i:=8) (op:=Op.assign (Operand.tmp 36)) (t:=135) (d:=some 7) (v:=?_) rfl (by decide +kernel) (by decide +kernel) (by decide +kernel) (fun _ _ _ h=>h) ?_ ?_
    case refine_2=>(intro _;unfold Zd;go_simp;try with_reducible rfl)
    try simp only[lay]
    refine wpAny_done (by kernel_rfl) ?_ _;have xa:Ext W (W.alloc (.cells #[.slice (some ⟨tc,0,none⟩) N N,.slice (some ⟨tb,0,none⟩) N N] 137)):=(Ext.rf _).alloc _;have FS:Hid (FillS co n N (W.alloc (.cells #[.slice (some ⟨tc,0,none⟩) N N,.slice (some ⟨tb,0,none⟩) N N] 137)) (W.alloc (.cells #[.slice (some ⟨tc,0,none⟩) N N,.slice (some ⟨tb,0,none⟩) N N] 137)) w.heap.size tc tb 1) :=
     ⟨Mod.rf _,fun _=>0,fun _=>0,fun _ _=>0,fun _ _=>0,⟨⟨c2,b2.ext xa,s2,fun g h1 h2=>by omega⟩,fun g h1 h2=>by omega⟩,⟨⟨c5,b5.ext xa,s5,fun g h1 h2=>by omega⟩,fun g h1 h2=>by omega⟩,fun g l hg hl hb=>by
      obtain rfl:g=0:=by omega
      simp at hb,fun a b h1 h2=>by omega⟩
    go_simp;go_wp2_with (fail);go_meet;exact⟨W.heap.size,tc,tb,rfl,.new rfl,FS.out,z2,z5,ne,hRW.tr xa⟩
  case rest =>
  obtain⟨gp,tc,tb,rfl,hP,hF,ztc,ztb,ncb,x5⟩:=hcut;obtain⟨w5,rfl⟩:∃ w5:World,w5=wc:=⟨_,rfl⟩;have X5:=Hd (X1.out.tr x5);have b5:=Hd (b1.out.ext x5);have t0:=b5.out.c0;have t1:=b5.out.c1;have t2:=b5.out.c2;have t3:=b5.out.c3;have t4:=b5.out.c4;have t5:=b5.out.c5;have zw1:=X1.out.size;have FC:=Hd (FI.out w5 X5.out gp tc tb n1 hP hF (by omega) (by omega) ncb);have zgi:=b1.out.lt;have gne:¬(gp=tc\/gp=tb):=by
   obtain⟨_,_,_,_,k1,k2,_⟩:=hF.tabs;obtain⟨cs,h3,_⟩:=k1.tab;obtain⟨cs2,h4,_⟩:=k2.tab;rintro (e | e)
   ·exact Blk.ne hP h3 (by decide) e
   ·exact Blk.ne hP h4 (by decide) e
  replace hP:=Hd hP;clear hF x5 b1 FI;go_wp2_with (fail);refine FC.out.mono ?_;rintro e w6 ⟨rfl,F6⟩;obtain⟨r,r2,T,Bk,hT,hB,hW,hR⟩:=F6.tabs;have X6:Ext w w6:=X5.out.mod F6.mod (fun k hk e=>by rcases e with e | e<;>omega);have P6:=Hd (hP.out.mod F6.mod gne);have b6:=Hd (b5.out.mod F6.mod (fun e=>by rcases e with e | e<;>omega));have hN':=hN.out;subst hN';have z6:=X6.size;have z6b:=F6.mod.size;have zz6:w.heap.size<w6.heap.size:=b6.out.lt;obtain⟨G,hG⟩:∃ G,Hid (2^n=G+1):=⟨2^n-1,by
   have h:2^n=2^n-1+1:=by have:=Nat.two_pow_pos n;omega
   exact h⟩
  have G1:1<=G:=by
   have h:=hG.out;have:2^1<=2^n:=Nat.pow_le_pow_right (by omega) n1;omega
  have G2:G<=2047:=by have:=hG.out;omega
  have GB:Hid (∀ c,c<n->G.testBit c=true):=fun c hc=>by
   have h:G=2^n-1:=by rw[hG.out];rfl
   rw[h,Ud]
   simpa using hc
  have num':=num.out;have BD:Hid (∀ g l,g<2^n->l<n->g.testBit l=true->0<=T g l/\T g l<=g*2147483647):=fun g l h1 h2 h3=>WayOk.bd (n:=n) (by omega) (Nat.le_refl _) hW num.out g l h1 h2 h3
  have CT:Hid (∀ W,Ext w6 W->∀ g,1<=g->g<2^n->∀ l,l<n->W.cell? ⟨tc,g,none⟩=some (.slice (some ⟨r g,0,none⟩) n n)/\W.cell? ⟨r g,l,none⟩=some (.int .i64 (T g l))):=fun W x g h1 h2 l h3=>⟨(hT.ext x).cell h1 h2,((hT.ext x).num h1 h2 h3).1⟩
  have CB:Hid (∀ W,Ext w6 W->∀ g,1<=g->g<2^n->∀ l,l<n->W.cell? ⟨tb,g,none⟩=some (.slice (some ⟨r2 g,0,none⟩) n n)/\W.cell? ⟨r2 g,l,none⟩=some (.int .i64 ((Bk g l:Nat):Int))):=fun W x g h1 h2 l h3=>⟨(hB.ext x).cell h1 h2,((hB.ext x).num h1 h2 h3).1⟩
  rw[hG.out] at SH P6;replace X6:=Hd X6;replace hW:=Hd hW;clear F6 hT hB hR b5 hP X5 t0 t1 t2 t3 t4 t5 num' FC z6b;have wG:IntKind.i64.wrap (((G+1:Nat):Int)-1)=(G:Int):=by rw[show ((G+1:Nat):Int)-1=(G:Int) by omega];exact IntWalk.i64_in _ (by omega)
  obtain⟨f,hf⟩:∃ f:Nat->Int,Hid (f=fun c=>T G c+Zb co (c+1) 0):=⟨_,rfl⟩;go_wp2_with (fail);go_loopw [44,9] (fun v44 v9 wr=>∃ k:Nat,v44=.int .i64 k/\v9=.int .i64 (Xn f k)/\k<=n/\Hid (Ext w6 wr)) (fun v44 _ _=>n-(intOf v44).toNat)
  case atStart=>exact⟨0,rfl,rfl,by omega,Ext.rf _⟩
  case round =>
   obtain⟨wo,rfl⟩:∃ wo:World,wo=wr:=⟨_,rfl⟩;obtain⟨k,rfl,rfl,hk,X⟩:=hrel
   by_cases hkn:k<n
   ·have q1:(k:Int)<(n:Int):=by omega
    have HA:Hid (Xn f (k+1)=if f k<f (Xn f k) then k else Xn f k):=by
     have h:Xn f (k+1)=if f k<f (Xn f k) then k else Xn f k:=rfl
     exact h
    have hak:=JM (f:=f) n1 k (by omega);generalize Xn f k=m at *;have XW:=X6.out.tr X.out;have b9:=b6.out.ext X.out;have P9:=P6.out.ext X.out;have y0:=P9.c0;have y5:=b9.c5;obtain⟨yt,yk⟩:=CT.out wo X.out G G1 (by rw[hG.out];omega) k hkn;obtain⟨-,ym⟩:=CT.out wo X.out G G1 (by rw[hG.out];omega) m hak;obtain⟨cb,cof,rb,ro,d1,rfl,c1,c2⟩:=CA.out wo XW (k+1) 0 (by omega) (by omega);obtain⟨cb',cof',sb,so,d2,hD,c3,c4⟩:=CA.out wo XW (m+1) 0 (by omega) (by omega);obtain⟨rfl,rfl⟩:cb=cb'/\cof=cof':=by simpa using hD
    replace c2:wo.cell? ⟨rb,ro,none⟩=some (.int .i64 (Zb co (k+1) 0)):=c2;replace c4:wo.cell? ⟨sb,so,none⟩=some (.int .i64 (Zb co (m+1) 0)):=c4;have n1':=num.out (k+1) 0 (by omega) (by omega);have n2':=num.out (m+1) 0 (by omega) (by omega);have e1':=BD.out G k (by rw[hG.out];omega) hkn (GB.out k hkn);have e2':=BD.out G m (by rw[hG.out];omega) hak (GB.out m hak);obtain⟨rr,hrr⟩:∃ rr,Hid (r G=rr):=⟨_,rfl⟩;obtain⟨tk,htk⟩:∃ tk,Hid (T G k=tk):=⟨_,rfl⟩;obtain⟨tm,htm⟩:∃ tm,Hid (T G m=tm):=⟨_,rfl⟩;obtain⟨ck,hck⟩:∃ ck,Hid (Zb co (k+1) 0=ck):=⟨_,rfl⟩;obtain⟨cm,hcm⟩:∃ cm,Hid (Zb co (m+1) 0=cm):=⟨_,rfl⟩;obtain⟨k1,hk1⟩:∃ k1,Hid (k+1=k1):=⟨_,rfl⟩;obtain⟨m1,hm1⟩:∃ m1,Hid (m+1=m1):=⟨_,rfl⟩;rw[hrr.out,htk.out] at yk;rw[hrr.out] at yt;rw[hrr.out,htm.out] at ym;rw[hck.out] at c2 n1';rw[hcm.out] at c4 n2';rw[htk.out] at e1';rw[htm.out] at e2';rw[hk1.out] at c1;rw[hm1.out] at c3;have HB:Hid (Xn f (k+1)=if tk+ck<tm+cm then k else m):=Hd (by
     rw[HA.out];simp only[hf.out,htk.out,htm.out,hck.out,hcm.out])
    have q2:(k1:Int)<(n:Int)+1:=by have:=hk1.out;omega
    have q3:(m1:Int)<(n:Int)+1:=by have:=hm1.out;omega
    have q4:(m:Int)<(n:Int):=by omega
    have q5:(G:Int)<((G+1:Nat):Int):=by omega
    have wk:IntKind.i64.wrap ((k:Int)+1)=(k1:Int):=by rw[show (k:Int)+1=(k1:Int) by have:=hk1.out;omega];exact IntWalk.i64_in _ (by omega)
    have wm:IntKind.i64.wrap ((m:Int)+1)=(m1:Int):=by rw[show (m:Int)+1=(m1:Int) by have:=hm1.out;omega];exact IntWalk.i64_in _ (by omega)
    have wa:IntKind.i64.wrap (tk+ck)=tk+ck:=IntWalk.i64_in _ (by omega);have wb:IntKind.i64.wrap (tm+cm)=tm+cm:=IntWalk.i64_in _ (by omega);have hl9:Hid (k+1<=n):=by
     have h9:k+1<=n:=hkn;exact h9
    clear HA hD n1' n2' e1' e2' b9 P9 XW
    by_cases hlt:tk+ck<tm+cm
    ·have HC:Hid (Xn f (k+1)=k):=by
      have h:=HB.out;rw[if_pos hlt] at h;exact h
     clear HB;go_wp2_with (fail);go_quiet (fail);clear wk wm;go_wp2_with (fail);go_roundw
     case rel=>exact⟨k+1,by go_num,by rw[HC.out],hl9.out,X.out.drewN _⟩
     case measure=>(have h9:=hl9.out;simp[intOf];omega)
    ·have HC:Hid (Xn f (k+1)=m):=by
      have h:=HB.out;rw[if_neg hlt] at h;exact h
     clear HB;go_wp2_with (fail);go_quiet (fail);clear wk wm;go_wp2_with (fail);go_roundw
     case rel=>exact⟨k+1,by go_num,by rw[HC.out],hl9.out,X.out.drewN _⟩
     case measure=>(have h9:=hl9.out;simp[intOf];omega)
   ·obtain rfl:k=n:=by omega
    have hl:=JM (f:=f) n1 k (Nat.le_refl _);have HL:Hid (∀ q:List Nat,(0::q).Perm (List.range (k+1))->T G (Xn f k)+Zb co (Xn f k+1) 0<=Zx co 0 q):=fun q hq=>by
     obtain⟨l',h1,h2⟩:=Zc0 (by omega) hW.out hq n1;rw[hG.out,Nat.add_sub_cancel] at h2;have h3:=Zb7 (f:=f) k l' h1;simp only[hf.out] at h3 ⊢;omega
    have TS:Hid (Trail co k T (T G (Xn f k)+Zb co (Xn f k+1) 0) G (Xn f k) []):=by
     have h:=Trail.start (rows:=co) (T:=T) n1 hl;rw[hG.out,Nat.add_sub_cancel] at h;exact h
    generalize Xn f k=last at *;obtain⟨C,hC⟩:∃ C,Hid (T G last+Zb co (last+1) 0=C):=⟨_,rfl⟩;rw[hC.out] at HL TS;have q1:¬((k:Int)<(k:Int)):=by omega
    have Xo:=Hd X.out;have OW0:Hid (OwI wo w6.heap.size none 0 (Ze ([]:List Nat).reverse)):=OwI.nil _ _;clear hf CT BD X;go_wp2_with (fail);go_loopw [8,9,11] (fun v8 v9 v11 wr=>∃ (g l:Nat) (ys:List Nat) (A':Option Addr) (c':Nat),v8=.int .i64 g/\v9=.int .i64 l/\v11=.slice A' ys.length c'/\Hid (Trail co k T C g l ys)/\Hid (OwI wr w6.heap.size A' c' (Ze ys.reverse))/\Hid (Ext w6 wr)) (fun v8 _ _ _=>(intOf v8).toNat)
    case atStart=>exact⟨G,last,[],none,0,rfl,rfl,rfl,TS,OW0,Xo⟩
    case round =>
     clear TS OW0 Xo;obtain⟨wp,rfl⟩:∃ wp:World,wp=wr:=⟨_,rfl⟩;obtain⟨g,l,ys,A',c',rfl,rfl,rfl,TR,OW,X⟩:=hrel
     by_cases hg0:g=0
     ·subst hg0
      obtain⟨PR,hCp⟩:=TR.out.end;have hyl:ys.length=k:=by
       have h:=PR.length_eq;rw[List.length_range,List.length_cons] at h;omega
      have LT:Hid (LeastT co (k+1) (Zx co 0 ys)):=⟨⟨ys,PR,rfl⟩,fun q hq=>by rw[<-hCp];exact HL.out q hq⟩;have hrev:(Ze ys.reverse++[(0:Int)]).length=k+1:=by simp[Ze,hyl]
      have eR:Hid ((Ze ys.reverse++[(0:Int)]).reverse=Ze (0::ys)):=Hd (by simp[Ze]);have hlen1:Hid (ys.length=(Ze ys.reverse).length):=Hd (by simp[Ze]);replace PR:=Hd PR;have RV:=Hd (fun(A9:Option Addr) (c9:Nat) (W:World) (o:OwI W w6.heap.size A9 c9 (Ze ys.reverse++[(0:Int)]))=>by
       have h:=ZaI A9 c9 w6.heap.size _ W o (by rw[hrev];omega);rw[hrev] at h;exact h)
      have TO9:=Hd (fun(P:Option Addr) (c:Nat) (W:World) (x:Ext w W) (hP:RdI W P (Ze (0::ys)))=>TO.out P c ys W x hP PR.out);replace hrev:=Hd hrev;clear hCp hC HL TR TO;go_wp2_with (at_builtin;refine Yw _ rfl _ _ rfl w6.heap.size A' ys.length c' (Ze ys.reverse) [(0:Int)] (some ⟨wp.heap.size,0,none⟩) 1 rfl rfl hlen1.out (OwI.ext OW.out (by(repeat (first | assumption | exact Ext.rf _ | apply Ext.drew | apply Ext.drewN | apply Ext.alloc)))) (.blk (by(first | exact .new (by simp) | exact .drew (.new (by simp)) | exact .alloc (.new (by simp)) _ | exact .drew (.alloc (.new (by simp)) _) | exact .alloc (.alloc (.new (by simp)) _) _ | exact .drew (.alloc (.alloc (.new (by simp)) _) _) | (repeat (first | assumption | (refine Blk.new ?_;(focus (simp;done))) | apply Blk.drew | apply Blk.drewN | apply Blk.alloc)))) rfl) (by rw[<-hlen1.out];simp;omega) (by have:=X.out.size;simp;omega) ?_;rintro A9 c9 w9 o9 g9 -);have e9:(Ze ys.reverse).length+1=k+1:=by rw[<-hlen1.out,hyl]
      rw[e9];have X9:Ext w6 w9:=Ext.grow (X.out.tr (by(repeat (first | assumption | exact Ext.rf _ | apply Ext.drew | apply Ext.drewN | apply Ext.alloc)))) g9 (fun q hq=>(OW.out.lt q hq).1);refine(RV.out A9 c9 w9 o9).mono ?_;rintro e w10 ⟨rfl,o10,M10⟩;rw[eR.out] at o10;have X10:Ext w w10:=(X6.out.tr X9).mod M10 (fun j hj e=>by have:=(o9.lt j e).1;omega);have b10:=(b6.out.ext X9).mod M10 (fun e=>by have:=(o9.lt _ e).1;omega);have t0:=b10.c0;have t1:=b10.c1;have t2:=b10.c2;have t3:=b10.c3;have t4:=b10.c4;have t5:=b10.c5;have TT:=Hd (TO9.out A9 c9 w10 X10 o10.read);have LE:Hid (k+1<=c9/\c9<=maxLen):=Hd (by
       have h:=o10.le;simp only[Zn,List.length_cons,hyl] at h;exact h)
      replace X10:=Hd X10;replace o10:=Hd o10;clear X9 o9 g9 M10 b10 RV TO9 e9;go_wp2_with (fail);refine TT.out.mono ?_;rintro e w11 ⟨rfl,x11⟩;replace x11:=Hd x11;clear t0 t1 t2 t3 t4 t5 TT;go_wp2_with (fail);go_ret3;exact⟨A9,c9,ys,rfl,RdI.ext o10.out.read x11.out,PR.out,LE.out.1,LE.out.2,LT.out,X10.out.tr x11.out⟩
     ·obtain⟨TS,hless⟩:=TR.out.step (by omega) hW.out hg0
      obtain⟨hln,hbit,-⟩:=TR.out.go hg0;have hgl:=TR.out.lt;have hyl:ys.length<=k+1:=W8 TR.out.nod fun y hy=>by have:=(TR.out.mem y).1 hy;omega
      obtain⟨rr,hrr⟩:∃ rr,Hid (r2 g=rr):=⟨_,rfl⟩;obtain⟨bk,hbk⟩:∃ bk,Hid (Bk g l=bk):=⟨_,rfl⟩;obtain⟨g2,hg2⟩:∃ g2,Hid (Zv g l=g2):=⟨_,rfl⟩;obtain⟨p1,hp1⟩:∃ p1,Hid (l+1=p1):=⟨_,rfl⟩;have KB:Hid (∀ W,Ext w6 W->W.cell? ⟨gp,1,none⟩=some (.slice (some ⟨tb,0,none⟩) (G+1) (G+1))/\W.cell? ⟨tb,g,none⟩=some (.slice (some ⟨rr,0,none⟩) k k)/\W.cell? ⟨rr,l,none⟩=some (.int .i64 bk)):=fun W x=>by
       have h:=CB.out W x g (by omega) hgl l hln;rw[hrr.out,hbk.out] at h;exact⟨(P6.out.ext x).cell 1,h.1,h.2⟩
      have CL:bits .andNot .i64 (g:Int) ((2:Int)^l)=(g2:Int):=by
       have h9:=Zb6 g l (by omega) (by omega);rw[Int.natCast_pow,hg2.out] at h9;exact h9
      have SHL:=Xm l (by omega);rw[hg2.out,hbk.out] at TS;rw[hg2.out] at hless;have q2:(g:Int)<((G+1:Nat):Int):=by have:=hG.out;omega
      have q3:(l:Int)<(k:Int):=by omega
      have q6:((g:Int)==0)=false:=by rw[beq_eq_false_iff_ne];omega
      have wl:IntKind.i64.wrap ((l:Int)+1)=(p1:Int):=by rw[show (l:Int)+1=(p1:Int) by have:=hp1.out;omega];exact IntWalk.i64_in _ (by have:=hp1.out;omega)
      have hlen1:Hid (ys.length=(Ze ys.reverse).length):=Hd (by simp[Ze]);have hlen2:Hid ((Ze ys.reverse++[(p1:Int)]).length=((l+1)::ys).length/\Ze ys.reverse++[(p1:Int)]=Ze ((l+1)::ys).reverse):=Hd (by
       rw[<-hp1.out];simp[Ze])
      replace TS:=Hd TS;clear TR hbit;go_wp2_with (at_builtin;refine Yw _ rfl _ _ rfl w6.heap.size A' ys.length c' (Ze ys.reverse) [(p1:Int)] (some ⟨wp.heap.size,0,none⟩) 1 rfl rfl hlen1.out (OwI.ext OW.out (by(repeat (first | assumption | exact Ext.rf _ | apply Ext.drew | apply Ext.drewN | apply Ext.alloc)))) (.blk (by(first | exact .new (by simp) | exact .drew (.new (by simp)) | exact .alloc (.new (by simp)) _ | exact .drew (.alloc (.new (by simp)) _) | exact .alloc (.alloc (.new (by simp)) _) _ | exact .drew (.alloc (.alloc (.new (by simp)) _) _) | (repeat (first | assumption | (refine Blk.new ?_;(focus (simp;done))) | apply Blk.drew | apply Blk.drewN | apply Blk.alloc)))) rfl) (by rw[<-hlen1.out];simp;omega) (by have:=X.out.size;simp;omega) ?_;rintro A9 c9 w9 o9 g9 -;have X9:Ext w6 w9:=Ext.grow (X.out.tr (by(repeat (first | assumption | exact Ext.rf _ | apply Ext.drew | apply Ext.drewN | apply Ext.alloc)))) g9 (fun q hq=>(OW.out.lt q hq).1);obtain⟨s1,s2,s3⟩:=KB.out w9 X9);have hs:Hid (ys.length+1=((l+1)::ys).length):=rfl;have O9:Hid (OwI w9 w6.heap.size A9 c9 (Ze ((l+1)::ys).reverse)):=by
       rw[<-hlen2.out.2];exact o9
      have Y9:=Hd X9;have e9:(Ze ys.reverse).length+1=((l+1)::ys).length:=by rw[<-hlen1.out];rfl
      rw[e9];refine⟨⟨g2,bk,(l+1)::ys,A9,c9,rfl,rfl,rfl,TS.out,O9.out,X9⟩,?_⟩;simp[intOf];omega
end Go.Proofs.YtmojhhlcocjoaaaGreatDoor
namespace Go.Proofs.YtmojhhlcocjoaaaGreatDoor
open Go.Shelf
def sortLay_ren : Go.Shelf.Ren:=⟨fun | 6=>136 | 15=>168 | 14=>167 | 28=>189 | 29=>190 | 20=>181 | 21=>182 | 22=>183 | 23=>184 | 24=>185 | 25=>186 | 26=>187 | 27=>188 | 46=>198 | 47=>199 | 48=>200 | 49=>201 | 50=>202 | 57=>220 | n=>n,fun | 22=>144 | 24=>143 | 25=>194 | 3=>3 | 39=>150 | 0=>0 | 53=>196 | 55=>53 | 4=>4 | 46=>235 | 45=>234 | 50=>65 | 5=>5 | 9=>9 | 66=>248 | 70=>252 | 76=>269 | 77=>270 | n=>n,fun n=>n⟩
theorem ZeI : SlLaysF0.n6 Tryz.prog sortLay_ren where
 mixed:=by kernel_rfl
 f6:=⟨ "slices.SortFunc[[]kurgan/exact.load,kurgan/exact.load]",by decide,Tryz.func136.trans (congrArg some (by kernel_rfl))⟩
 f14:=⟨ "slices.pdqsortCmpFunc[kurgan/exact.load]",by decide,Tryz.func167.trans (congrArg some (by kernel_rfl))⟩
 f15:=Tryz.func168.trans (congrArg some (by kernel_rfl))
 f20:=⟨ "slices.insertionSortCmpFunc[kurgan/exact.load]",by decide,Tryz.func181.trans (congrArg some (by kernel_rfl))⟩
 f21:=⟨ "slices.heapSortCmpFunc[kurgan/exact.load]",by decide,Tryz.func182.trans (congrArg some (by kernel_rfl))⟩
 f22:=⟨ "slices.breakPatternsCmpFunc[kurgan/exact.load]",by decide,Tryz.func183.trans (congrArg some (by kernel_rfl))⟩
 f23:=⟨ "slices.choosePivotCmpFunc[kurgan/exact.load]",by decide,Tryz.func184.trans (congrArg some (by kernel_rfl))⟩
 f24:=⟨ "slices.reverseRangeCmpFunc[kurgan/exact.load]",by decide,Tryz.func185.trans (congrArg some (by kernel_rfl))⟩
 f25:=⟨ "slices.partialInsertionSortCmpFunc[kurgan/exact.load]",by decide,Tryz.func186.trans (congrArg some (by kernel_rfl))⟩
 f26:=⟨ "slices.partitionEqualCmpFunc[kurgan/exact.load]",by decide,Tryz.func187.trans (congrArg some (by kernel_rfl))⟩
 f27:=⟨ "slices.partitionCmpFunc[kurgan/exact.load]",by decide,Tryz.func188.trans (congrArg some (by kernel_rfl))⟩
 f28:=Tryz.func189.trans (congrArg some (by kernel_rfl))
 f29:=Tryz.func190.trans (congrArg some (by kernel_rfl))
 f46:=⟨ "slices.siftDownCmpFunc[kurgan/exact.load]",by decide,Tryz.func198.trans (congrArg some (by kernel_rfl))⟩
 f47:=Tryz.func199.trans (congrArg some (by kernel_rfl))
 f48:=Tryz.func200.trans (congrArg some (by kernel_rfl))
 f49:=⟨ "slices.medianAdjacentCmpFunc[kurgan/exact.load]",by decide,Tryz.func201.trans (congrArg some (by kernel_rfl))⟩
 f50:=⟨ "slices.medianCmpFunc[kurgan/exact.load]",by decide,Tryz.func202.trans (congrArg some (by kernel_rfl))⟩
 f57:=⟨ "slices.order2CmpFunc[kurgan/exact.load]",by decide,Tryz.func220.trans (congrArg some (by kernel_rfl))⟩
 t0:=Tryz.underlying0
 a0:=Tryz.isAgg0
 z0:=Tryz.sizeOf0
 v0:=Tryz.zeroValue0
 t3:=Tryz.underlying3
 a3:=Tryz.isAgg3
 z3:=Tryz.sizeOf3
 v3:=Tryz.zeroValue3
 t4:=Tryz.underlying4
 a4:=Tryz.isAgg4
 z4:=Tryz.sizeOf4
 v4:=Tryz.zeroValue4
 t5:=Tryz.underlying5
 a5:=Tryz.isAgg5
 z5:=Tryz.sizeOf5
 v5:=Tryz.zeroValue5
 t9:=Tryz.underlying9
 a9:=Tryz.isAgg9
 z9:=Tryz.sizeOf9
 v9:=Tryz.zeroValue9
 t22:=Tryz.underlying144
 a22:=Tryz.isAgg144
 z22:=Tryz.sizeOf144
 v22:=Tryz.zeroValue144
 t25:=Tryz.underlying194
 a25:=Tryz.isAgg194
 z25:=Tryz.sizeOf194
 v25:=Tryz.zeroValue194
 t39:=Tryz.underlying150
 a39:=Tryz.isAgg150
 z39:=Tryz.sizeOf150
 v39:=Tryz.zeroValue150
 t45:=Tryz.underlying234
 a45:=Tryz.isAgg234
 z45:=Tryz.sizeOf234
 v45:=Tryz.zeroValue234
 t46:=Tryz.underlying235
 a46:=Tryz.isAgg235
 z46:=Tryz.sizeOf235
 v46:=Tryz.zeroValue235
 t50:=Tryz.underlying65
 a50:=Tryz.isAgg65
 z50:=Tryz.sizeOf65
 v50:=Tryz.zeroValue65
 t53:=Tryz.underlying196
 a53:=Tryz.isAgg196
 z53:=Tryz.sizeOf196
 v53:=Tryz.zeroValue196
 t55:=Tryz.underlying53
 a55:=Tryz.isAgg53
 z55:=Tryz.sizeOf53
 v55:=Tryz.zeroValue53
 t66:=Tryz.underlying248
 a66:=Tryz.isAgg248
 z66:=Tryz.sizeOf248
 v66:=Tryz.zeroValue248
 t70:=Tryz.underlying252
 a70:=Tryz.isAgg252
 z70:=Tryz.sizeOf252
 v70:=Tryz.zeroValue252
 t76:=Tryz.underlying269
 a76:=Tryz.isAgg269
 z76:=Tryz.sizeOf269
 v76:=Tryz.zeroValue269
 t77:=Tryz.underlying270
 a77:=Tryz.isAgg270
 z77:=Tryz.sizeOf270
 v77:=Tryz.zeroValue270
open Go.RowKit Go.ChangeShapes Go.WideShapes Go.ChangeAt Go.Deep Go.Shelf Go.Sort
abbrev ldA (d:Ld) : Value:=.agg #[.int .i64 d.1,.int .i64 d.2.1,.int .u64 (d.2.2:Int),.int .u64 0]
def QI (d:Ld) : Prop:=0<=d.1/\d.1<=1099511627776/\0<=d.2.1/\d.2.1<=1099511627776
abbrev BLd := { d:Ld // QI d }
instance:Inhabited BLd:=⟨⟨(0,0,0),by simp[QI]⟩⟩
def Uf (x:BLd) : List Value:=[.int .i64 x.1.1,.int .i64 x.1.2.1,.int .u64 (x.1.2.2:Int),.int .u64 0]
def cfL (x y:BLd) : Int:=if x.1.1=y.1.1 then y.1.2.1-x.1.2.1 else x.1.1-y.1.1
theorem JN (x y:BLd) : ltOf cfL x y=true↔(x.1.1<y.1.1\/(x.1.1=y.1.1/\y.1.2.1<x.1.2.1)):=by
 unfold ltOf;rw[decide_eq_true_iff];unfold cfL
 by_cases h:x.1.1=y.1.1
 ·rw[if_pos h];omega
 ·rw[if_neg h];omega
theorem UZ (x y:BLd) : ltOf cfL x y=false↔¬(x.1.1<y.1.1\/(x.1.1=y.1.1/\y.1.2.1<x.1.2.1)):=by
 rw[<-JN];simp
theorem ZeJ : SWO (ltOf cfL) where
 irrefl:=fun x=>(UZ x x).2 (by omega)
 trans:=fun x y z h1 h2=>(JN x z).2 (by
  have h1:=(JN x y).1 h1;have h2:=(JN y z).1 h2;omega)
 ntrans:=fun x y z h1 h2=>(UZ x z).2 (by
  have h1:=(UZ x y).1 h1;have h2:=(UZ y z).1 h2;omega)
theorem ZaK (x y:BLd)(W:World) : Calls Tryz.prog 137 #[.agg (Uf x).toArray,.agg (Uf y).toArray] W fun e w'=>e=.returned (.int .i64 (cfL x y))/\∃ q os',w'=grow (W.drewN q) os':=by
 obtain⟨⟨a,b,s⟩,h1⟩:=x;obtain⟨⟨a',b',s'⟩,h2⟩:=y;unfold QI at h1 h2;simp only at h1 h2;have w1:IntKind.i64.wrap (a-a')=a-a':=IntWalk.i64_in _ (by omega);have w2:IntKind.i64.wrap (b'-b)=b'-b:=IntWalk.i64_in _ (by omega);unfold cfL Uf;simp only
 by_cases e:a=a'
 ·have e1:(a != a')=false:=by simp[e]
  rw[if_pos e];clear e h1 h2;go_enter Tryz.func137,Tryz.ntmps137;go_wp2;go_ret;exact⟨rfl,0,_,by rw[alloc_eq_grow,alloc_eq_grow,grow_grow];rfl⟩
 ·have e1:(a != a')=true:=by simp[e]
  rw[if_neg e];clear e h1 h2;go_enter Tryz.func137,Tryz.ntmps137;go_wp2;go_ret;exact⟨rfl,0,_,by rw[alloc_eq_grow,alloc_eq_grow,grow_grow];rfl⟩
theorem UP (d:Array BLd) : (flatK Uf 4 d).toList=Zy (d.toList.map (·.1)):=by
 refine List.ext_getElem? fun t=>?_
 have hs:(flatK Uf 4 d).size=d.size*4:=size_flatK _ _ _;have hl:(Zy (d.toList.map (·.1))).length=d.size*4:=by rw[Yn];simp
 obtain⟨q,r,hr,rfl⟩:∃ q r,r<4/\t=q*4+r:=⟨t / 4,t%4,by omega,by omega⟩;have q1:(q*4+r) / 4=q:=by omega
 have q2:(q*4+r)%4=r:=by omega
 by_cases hk:q<d.size
 ·have e1:(d.toList.map (·.1))[q]?=some (d[q]'hk).1:=by simp[hk]
  obtain⟨g0,g1,g2,g3⟩:=YU e1;have e2:(flatK Uf 4 d).toList[q*4+r]?=some ((Uf (d[q]'hk))[r]!):=by
   have h3:=get_flatK Uf 4 d (q*4+r) (by omega);rw[q1,q2,getElem!_pos d q hk] at h3;rw[getElem!_pos _ (q*4+r) (by rw[hs];omega)] at h3;rw[<-h3];simp[hs]
  rw[e2];have hm:r=0\/r=1\/r=2\/r=3:=by omega
  rcases hm with rfl | rfl | rfl | rfl
  ·rw[Nat.add_zero,g0];rfl
  ·rw[g1];rfl
  ·rw[g2];rfl
  ·rw[g3];rfl
 ·rw[List.getElem?_eq_none (by rw[Array.length_toList,hs];omega),List.getElem?_eq_none (by omega)]
theorem Zd6 : ∀ w,(isAgg (sortLay_ren.t 24)).run Tryz.prog w=.ok true w:=Tryz.isAgg143
theorem Zc2 : ∀ w,(Go.sizeOf (sortLay_ren.t 24)).run Tryz.prog w=.ok 4 w:=Tryz.sizeOf143
theorem ZbJ {w:World}{base g n c:Nat}{l:List Ld}(h:OwV w base 143 4 (some ⟨g,0,none⟩) n c (Zy l))(hn:l.length=n)(hl:∀ d∈l,QI d)(hsz:n<=1000000000) :
  Calls Tryz.prog 136 #[.slice (some ⟨g,0,none⟩) n c,.func (.func 137) #[] #[]] w fun e w'=>e=.returned (.tuple #[])/\(∃ l2:List Ld,l2.Perm l/\OwV w' base 143 4 (some ⟨g,0,none⟩) n c (Zy l2))/\Mod (fun b=>b=g) w w':=by
 obtain⟨d,hd⟩:∃ d:Array BLd,d=(l.attach.map fun x=>(⟨x.1,hl x.1 x.2⟩:BLd)).toArray:=⟨_,rfl⟩;have hdl:d.toList.map (·.1)=l:=by
  rw[hd];simp only[List.map_map];exact List.attach_map_subtype_val l
 have hds:d.size=n:=by rw[<-hn,<-hdl];simp
 rcases h.cases with⟨e,_⟩ | ⟨g',cur,e,hb,hg,hnc,hcm,hs,ht⟩
 ·cases e
 obtain rfl:g=g':=by simpa using e
 have hcur:∀ j,j<n*4->cur[j]?=(Zy l)[j]?:=fun j hj=>by
  have h1:(cur.toList.take (n*4))[j]?=cur.toList[j]?:=List.getElem?_take_of_lt hj;rw[ht] at h1;rw[h1];simp
 have hH:HoldsK Uf 4 w g 0 d:=fun j hj=>by
  have hj':j<n*4:=by rw[size_flatK,hds] at hj;exact hj
  refine⟨?_,by simp[World.frozen?,hg]⟩;rw[Nat.zero_add,cell_of_row w g _ cur _ (0,0) hg,hcur j hj',<-hdl,<-UP];rw[getElem!_pos _ j hj];simp
 have hblk:g<w.heap.size:=(Array.getElem?_eq_some_iff.1 hg).1;have eg:∀ args w,(callFunc 137 args).run Tryz.prog w=.ok (.enter 137 args) w:=enters_of Tryz.func137 (by kernel_rfl) rfl;have hcmp:CmpLays Tryz.prog 137 #[] Uf 4 cfL g 0 d.size w:=fun _ _ _ _ x y=>ZaK x y _
 have hcon:=AnyQ.slices_SortFunc ZeI 4 Zd6 Zc2 Uf (fun _=>rfl) (fun x v hv=>by simp[Uf] at hv;rcases hv with rfl | rfl | rfl | rfl<;>rfl) cfL ZeJ 137 #[] g 0 c d w eg hcmp hH hblk (by omega);rw[hds] at hcon
 change Calls Tryz.prog 136 _ _ _ at hcon
 refine hcon.mono ?_;rintro e w' ⟨rfl,d',m,os,hp,-,rfl⟩;have hps:d'.size=n:=by rw[hp.1,hds]
 have hperm:(d'.toList.map (·.1)).Perm l:=by
  have h3:=hp.2.2;rw[<-hds] at h3;rw[Array.extract_size] at h3;rw[show d'.extract 0 d.size=d' by rw[<-hp.1];exact Array.extract_size] at h3;have:=h3.map (·.1)
  rwa [hdl] at this
 have hl2:(d'.toList.map (·.1)).length=n:=by rw[hperm.length_eq,hn]
 refine⟨rfl,⟨_,hperm,?_⟩,?_⟩
 ·refine .mk (cur:=putCells id 0 (flatK Uf 4 d') cur) hb ?_ hnc hcm (by simp[putCells,hs]) ?_
  ·unfold sortWorldK putRowK putRow mapBlock grow
   simp only[Array.getElem?_append_left (show g<(w.heap.modify g _).size by simpa using hblk)];rw[show (Sort.ahead w m).heap=w.heap from rfl,Array.getElem?_append_left (by simpa using hblk),Array.getElem?_modify,if_pos rfl,hg]
   rfl
  ·rw[<-UP]
   refine List.ext_getElem? fun j=>?_
   have hsK:(flatK Uf 4 d').size=n*4:=by rw[size_flatK,hps]
   by_cases hj:j<n*4
   ·rw[List.getElem?_take_of_lt hj]
    have hjc:j<cur.size:=by rw[hs];omega
    simp only[putCells,Array.getElem?_toList,Array.getElem?_mapIdx];rw[Array.getElem?_eq_getElem hjc];simp only[Option.map_some,Nat.zero_le,true_and,Nat.zero_add,hsK,hj,if_true,Nat.sub_zero,id];rw[getElem!_pos _ j (by omega)];simp[hsK,hj]
   ·rw[List.getElem?_eq_none (by rw[List.length_take];omega),List.getElem?_eq_none (by rw[Array.length_toList,hsK];omega)]
 ·refine⟨rfl,rfl,rfl,?_,fun k hk hne=>?_⟩
  ·simp[sortWorldK,putRowK,putRow,mapBlock,grow,Sort.ahead]
  ·unfold sortWorldK putRowK putRow mapBlock grow
   rw[Array.getElem?_append_left (by simpa [Sort.ahead] using hk),Array.getElem?_modify,if_neg (fun e=>hne e.symm)]
   rfl
theorem JO : (Tryz.prog.info? 143).map (fun i=>(i.zero,i.size,i.bytes))=some (some (.agg #[.int .i64 0,.int .i64 0,.int .u64 0,.int .u64 0]),4,32):=by kernel_rfl
theorem Zc3 (d m:Ld)(w:World) : Calls Tryz.prog 138 #[ldA d,ldA m] w fun e w'=>e=.returned (.bool (Uw d m))/\Ext w w':=by
 obtain⟨a,b,s⟩:=d;obtain⟨a',b',s'⟩:=m;unfold Uw;simp only[ldA]
 cases h1:decide (a'<=a)
 ·have h1':¬a'<=a:=of_decide_eq_false h1
  go_enter Tryz.func138,Tryz.ntmps138;go_wp2;go_ret;exact⟨rfl,by(repeat (first | assumption | exact Ext.rf _ | apply Ext.drew | apply Ext.drewN | apply Ext.alloc))⟩
 ·have h1':a'<=a:=of_decide_eq_true h1
  go_enter Tryz.func138,Tryz.ntmps138;go_wp2;go_ret;exact⟨rfl,by(repeat (first | assumption | exact Ext.rf _ | apply Ext.drew | apply Ext.drewN | apply Ext.alloc))⟩
def ZaL (w:World)(L:List Ld)(e:Ending)(w':World) : Prop:=∃ B c,e=.returned (.slice B L.length c)/\OwV w' w.heap.size 143 4 B L.length c (Zy L)/\Ext w w'
theorem Zc4 {A:Option Addr}{c n:Nat}{l:List Ld}{w:World}(hA:RdV w 143 A (Zy l))(hn:l.length=n)(hl:∀ d∈l,QI d/\d.2.2<18446744073709551616)(hsz:n<=1000000)(k:Nat)(hk:k<64)(wt vl room:Int)(hw:0<=wt/\wt<=2147483647)(hv:0<=vl/\vl<=2147483647)(hr:0<=room/\room<=2147483647) :
  Calls Tryz.prog 87 #[.slice A n c,.int .i64 k,.int .i64 wt,.int .i64 vl,.int .i64 room] w (ZaL w (Z4 l k wt vl room)):=by
 have WI:=Hd (fun(m:Nat) (hm:m<18446744073709551616) (W:World)=>V5 m k hm hk W);obtain⟨i0,hi,hz0,hz1,hz2⟩:=info_parts JO;replace hi:=Hd hi;replace hz0:=Hd hz0;replace hz1:=Hd hz1;replace hz2:=Hd hz2;have W0:Hid (0=(Z4 (l.take 0) k wt vl room).length):=Hd (by simp[Z4]);have O0:Hid (OwV w w.heap.size 143 4 none 0 0 (Zy (Z4 (l.take 0) k wt vl room))):=Hd (by
  simp only[List.take_zero,Z4,List.filter_nil,List.map_nil,Zy];exact OwV.nil _ _ _ _)
 replace hA:=Hd hA;replace hn:=Hd hn;replace hl:=Hd hl;go_enter Tryz.func87,Tryz.ntmps87;go_wp2_with (fail);go_loopw [11,16] (fun v11 v16 wr=>∃ (j m:Nat) (B:Option Addr) (b2:Nat),v11=.slice B m b2/\v16=.int .i64 j/\j<=n/\m<=j/\Hid (m=(Z4 (l.take j) k wt vl room).length)/\Hid (OwV wr w.heap.size 143 4 B m b2 (Zy (Z4 (l.take j) k wt vl room)))/\Hid (Ext w wr)) (fun _ v16 _=>n-(intOf v16).toNat)
 case atStart=>exact⟨0,0,none,0,rfl,rfl,by omega,by omega,W0,O0,Ext.rf _⟩
 case round =>
  clear W0 O0;obtain⟨wo,rfl⟩:∃ wo:World,wo=wr:=⟨_,rfl⟩;obtain⟨j,m,B,b2,rfl,rfl,hj,hmj,hm,hO,X⟩:=hrel
  by_cases hlt:j<n
  ·have hjl:j<l.length:=by rw[hn.out];exact hlt
   obtain⟨d,hd⟩:∃ d,Hid (l[j]?=some d):=⟨l[j],List.getElem?_eq_getElem hjl⟩;have hne:Zy l≠[]:=by
    intro e;have:=Yn l;rw[e] at this;simp at this;omega
   obtain⟨b,off,rfl,zb,hcell⟩:=(hA.out.ext X.out).form hne;obtain⟨g0,g1,g2,g3⟩:=YU hd.out;have c0:=hcell _ _ g0;have c1:=hcell _ _ g1;have c2:=hcell _ _ g2;have c3:=hcell _ _ g3;rw[<-Nat.add_assoc] at c1 c2 c3;have hok:=hl.out d (List.mem_of_getElem? hd.out);have HT:Z4 (l.take (j+1)) k wt vl room=Z4 (l.take j) k wt vl room++(if d.1+wt<=room then [(d.1+wt,d.2.1+vl,d.2.2 ||| 2^k)] else []):=by
    rw[List.take_add_one,hd.out];exact ZbA _ _ _ _ _ _
   obtain⟨dw,dv,dm⟩:=d;unfold QI at hok;simp only at hok c0 c1 c2 c3 HT;have w1:IntKind.i64.wrap (dw+wt)=dw+wt:=IntWalk.i64_in _ (by omega);have w2:IntKind.i64.wrap (dv+vl)=dv+vl:=IntWalk.i64_in _ (by omega);have q1:(j:Int)<(n:Int):=by omega
   generalize Z4 (l.take j) k wt vl room=L at *;clear hcell hne g0 g1 g2 g3 hjl
   by_cases hfit:dw+wt<=room
   ·rw[if_pos hfit] at HT
    replace HT:=Hd HT;go_upto_region 6 with(fail);have bx:Blk (wo.alloc (.cells #[.int .i64 dw,.int .i64 dv,.int .u64 dm,.int .u64 0] 143)) wo.heap.size 143 #[.int .i64 dw,.int .i64 dv,.int .u64 dm,.int .u64 0]:=.new rfl;have xx:Ext wo (wo.alloc (.cells #[.int .i64 dw,.int .i64 dv,.int .u64 dm,.int .u64 0] 143)):=(Ext.rf _).alloc _;have X2:=Hd (X.out.tr xx);have hO2:=Hd (hO.out.ext xx);have hBx:Hid (∀ q,bl B=some q->q<wo.heap.size):=fun q hq=>(hO.out.lt q hq).2
    generalize wo.alloc (.cells #[.int .i64 dw,.int .i64 dv,.int .u64 dm,.int .u64 0] 143)=wz at *;generalize wo.heap.size=gx at *;clear c0 c1 c2 c3 xx X hO;have e0:=bx.c0;have e1:=bx.c1;have e2:=bx.c2;have e3:=bx.c3;have zx:=bx.lt;have z0:=X2.out.size;have WD:=WI.out dm hok.2;unfold setV at WD;obtain⟨dm2,hdm2⟩:∃ dm2,Hid (dm ||| 2^k=dm2):=⟨_,rfl⟩;rw[hdm2.out] at WD HT;replace WD:=Hd WD;replace bx:=Hd bx;have hO3:=hO2.out;have hi':=hi.out;go_region_held3 (fun w'=>w'.cell? ⟨gx,0,none⟩=some (.int .i64 dw)/\w'.cell? ⟨gx,1,none⟩=some (.int .i64 dv)/\w'.cell? ⟨gx,2,none⟩=some (.int .u64 dm)/\w'.cell? ⟨gx,3,none⟩=some (.int .u64 0)) (go_keep)
     (first
      | (go_at_call 139;refine(WD.out _).mono ?_;rintro e w3 ⟨rfl,x3⟩;have y3:=Ext.tr (a:=wz) (by(repeat (first | assumption | exact Ext.rf _ | apply Ext.drew | apply Ext.drewN | apply Ext.alloc))) x3;have s0:=Zg y3 zx e0;have s1:=Zg y3 zx e1;have s2:=Zg y3 zx e2;have s3:=Zg y3 zx e3)
      | (refine ZaX _ (e:=143) Tryz.underlying144 hi.out hz0.out hz1.out hz2.out (by simp[Value.cells]) (by omega) (by rfl) _ _ (by rfl) w.heap.size B m b2 (Zy L) _ 1 1 [.int .i64 (dw+wt),.int .i64 (dv+vl),.int .u64 dm2,.int .u64 0] (by rfl) (by rfl) ?_ ?_ ?_ ?_ ?_ ?_ ?_ ?_;(refine hO2.out.ext ?_;(repeat (first | assumption | exact Ext.rf _ | apply Ext.drew | apply Ext.drewN | apply Ext.alloc)));(exact(RdV.blk (by(first | exact .new (by simp) | exact .drew (.new (by simp)) | exact .alloc (.new (by simp)) _ | exact .drew (.alloc (.new (by simp)) _) | exact .alloc (.alloc (.new (by simp)) _) _ | exact .drew (.alloc (.alloc (.new (by simp)) _) _) | (repeat (first | assumption | (refine Blk.new ?_;(focus (simp;done))) | apply Blk.drew | apply Blk.drewN | apply Blk.alloc))))).rdC);(simp);(simp[Value.oneCell']);(simp only[maxLen];omega);omega;(have:=y3.size;simp;omega);rintro A9 c9 w9 o9 g9 _;have X9:Ext w w9:=Ext.grow (X2.out.tr (Ext.tr (by(repeat (first | assumption | exact Ext.rf _ | apply Ext.drew | apply Ext.drewN | apply Ext.alloc))) (by(repeat (first | assumption | exact Ext.rf _ | apply Ext.drew | apply Ext.drewN | apply Ext.alloc))))) g9 (fun q hq=>(hO2.out.lt q hq).1);have b9:Blk w9 gx 143 #[.int .i64 dw,.int .i64 dv,.int .u64 dm,.int .u64 0]:=(bx.out.ext (by(repeat (first | assumption | exact Ext.rf _ | apply Ext.drew | apply Ext.drewN | apply Ext.alloc)))).grown g9 (fun e=>by have:=hBx.out _ e;omega);have s0:w9.cell? ⟨gx,0,none⟩=some (.int .i64 dw):=b9.cell 0;have s1:w9.cell? ⟨gx,1,none⟩=some (.int .i64 dv):=b9.cell 1;have s2:w9.cell? ⟨gx,2,none⟩=some (.int .u64 dm):=b9.cell 2;have s3:w9.cell? ⟨gx,3,none⟩=some (.int .u64 0):=b9.cell 3;replace b9:=Hd b9))
    all_goals
     have HL:Hid (m+1=(Z4 (l.take (j+1)) k wt vl room).length):=Hd (by rw[HT.out,List.length_append,<-hm.out];rfl);have O9:Hid (OwV w9 w.heap.size 143 4 A9 (m+1) c9 (Zy (Z4 (l.take (j+1)) k wt vl room))):=Hd (by rw[HT.out,YN];exact o9);replace X9:=Hd X9;clear s0 s1 s2 s3 b9 o9 e0 e1 e2 e3;go_wp2_with (fail);go_roundw
     case rel=>exact⟨j+1,m+1,A9,c9,rfl,by go_num,by omega,by omega,HL,O9,X9⟩
     case measure=>simp[intOf];omega
   ·rw[if_neg hfit,List.append_nil] at HT
    have HL:Hid (m=(Z4 (l.take (j+1)) k wt vl room).length):=Hd (by rw[HT];exact hm.out);have O9:Hid (OwV (wo.alloc (.cells #[.int .i64 dw,.int .i64 dv,.int .u64 dm,.int .u64 0] 143)) w.heap.size 143 4 B m b2 (Zy (Z4 (l.take (j+1)) k wt vl room))):=by
     have h:OwV wo w.heap.size 143 4 B m b2 (Zy (Z4 (l.take (j+1)) k wt vl room)):=by rw[HT];exact hO.out
     exact h.ext ((Ext.rf _).alloc _)
    have X9:=Hd (X.out.alloc (.cells #[.int .i64 dw,.int .i64 dv,.int .u64 dm,.int .u64 0] 143));clear hO X HT;go_wp2_with (fail);go_roundw
    case rel=>exact⟨j+1,m,B,b2,rfl,by go_num,by omega,by omega,HL,O9,X9⟩
    case measure=>simp[intOf];omega
  ·obtain rfl:n=j:=by omega
   have e:l.take n=l:=List.take_of_length_le (by rw[hn.out];exact Nat.le_refl _);rw[e] at hm hO;go_wp2_with (fail);go_ret;have h2:=hO.out;unfold ZaL;rw[<-hm.out];exact⟨B,b2,rfl,h2,X.out⟩
def Zd7 (g:Nat)(l:List Ld)(w:World)(e:Ending)(w':World) : Prop:=∃ (L l2:List Ld) (B:Option Addr) (c:Nat),l2.Perm l/\L=YE [] l2/\e=.returned (.slice B L.length c)/\OwV w' w.heap.size 143 4 B L.length c (Zy L)/\Mod (fun b=>b=g) w w'
theorem Zd8 {base g n c:Nat}{l:List Ld}{w:World}(h:OwV w base 143 4 (some ⟨g,0,none⟩) n c (Zy l))(hn:l.length=n)(hl:∀ d∈l,QI d)(hsz:n<=1000000) :
  Calls Tryz.prog 86 #[.slice (some ⟨g,0,none⟩) n c] w (Zd7 g l w):=by
 have SO:=Hd (ZbJ h hn hl (by omega));have zg:=(h.lt g rfl).2;obtain⟨i0,hi,hz0,hz1,hz2⟩:=info_parts JO;replace hi:=Hd hi;replace hz0:=Hd hz0;replace hz1:=Hd hz1;replace hz2:=Hd hz2;replace hn:=Hd hn;clear h hl;go_enter Tryz.func86,Tryz.ntmps86;go_wp2_with (fail);refine SO.out.mono ?_;rintro e w1 ⟨rfl,⟨l2,hp,h2⟩,hM⟩;have hl2:Hid (l2.length=n):=by
  have h9:l2.length=n:=by rw[hp.length_eq,hn.out]
  exact h9
 have z1:=hM.size;obtain⟨G,hG⟩:∃ G,Hid (YE [] l2=G):=⟨_,rfl⟩;have HP:=Hd hp;have HM:=Hd hM;have H2:=Hd h2.read;clear SO hp hM h2;go_wp2_with (fail);have K0:Hid (YE [] (l2.drop 0)=G):=by
  have h9:YE [] (l2.drop 0)=G:=by rw[List.drop_zero];exact hG.out
  exact h9
 have O0:Hid (OwV w1 w1.heap.size 143 4 none 0 0 (Zy [])):=OwV.nil _ _ _ _;go_loopw [3,10] (fun v3 v10 wr=>∃ (j m:Nat) (out:List Ld) (B:Option Addr) (b2:Nat),v3=.slice B m b2/\v10=.int .i64 j/\j<=n/\m<=j/\Hid (m=out.length)/\Hid (YE out (l2.drop j)=G)/\Hid (OwV wr w1.heap.size 143 4 B m b2 (Zy out))/\Hid (Ext w1 wr)) (fun _ v10 _=>n-(intOf v10).toNat)
 case atStart=>exact⟨0,0,[],none,0,rfl,rfl,by omega,by omega,rfl,K0,O0,Ext.rf _⟩
 case round =>
  clear K0 O0;obtain⟨wo,rfl⟩:∃ wo:World,wo=wr:=⟨_,rfl⟩;obtain⟨j,m,out,B,b2,rfl,rfl,hj,hmj,hm,hK,hO,X⟩:=hrel
  by_cases hlt:j<n
  ·have hjl:j<l2.length:=by rw[hl2.out];exact hlt
   obtain⟨d,hd⟩:∃ d,Hid (l2[j]?=some d):=⟨l2[j],List.getElem?_eq_getElem hjl⟩;have hne:Zy l2≠[]:=by
    intro e;have:=Yn l2;rw[e] at this;simp at this;omega
   obtain⟨b,off,hA,zb,hcell⟩:=(H2.out.ext X.out).form hne;obtain⟨rfl,rfl⟩:g=b/\0=off:=by simpa using hA
   obtain⟨g0,g1,g2,g3⟩:=YU hd.out;have c0:=hcell _ _ g0;have c1:=hcell _ _ g1;have c2:=hcell _ _ g2;have c3:=hcell _ _ g3;rw[Nat.zero_add] at c0 c1 c2 c3;have HD:l2.drop j=d::l2.drop (j+1):=by
    obtain⟨_,hv⟩:=List.getElem?_eq_some_iff.1 hd.out;rw[List.drop_eq_getElem_cons hjl,hv]
   have KN:YE (match out.getLast? with
    | none=>[d]
    | some q=>if Uw d q=true then out else out++[d]) (l2.drop (j+1))=G:=by
    have:=hK.out;rw[HD] at this;exact this
   obtain⟨dw,dv,dm⟩:=d;simp only at c0 c1 c2 c3;have q1:(j:Int)<(n:Int):=by omega
   clear hcell hne g0 g1 g2 g3 hjl HD hA;go_upto_region 6 with(fail);have bx:Blk (wo.alloc (.cells #[.int .i64 dw,.int .i64 dv,.int .u64 dm,.int .u64 0] 143)) wo.heap.size 143 #[.int .i64 dw,.int .i64 dv,.int .u64 dm,.int .u64 0]:=.new rfl;have xx:Ext wo (wo.alloc (.cells #[.int .i64 dw,.int .i64 dv,.int .u64 dm,.int .u64 0] 143)):=(Ext.rf _).alloc _;have X2:=Hd (X.out.tr xx);have hO2:=Hd (hO.out.ext xx);generalize wo.alloc (.cells #[.int .i64 dw,.int .i64 dv,.int .u64 dm,.int .u64 0] 143)=wz at *;generalize wo.heap.size=gx at *;clear c0 c1 c2 c3 xx X hO hK;have e0:=bx.c0;have e1:=bx.c1;have e2:=bx.c2;have e3:=bx.c3;have zx:=bx.lt;have z0:=X2.out.size;replace bx:=Hd bx;have z1':w.heap.size<=w1.heap.size:=z1
   by_cases hm0:m=0
   ·subst hm0
    have ho:out=[]:=List.eq_nil_of_length_eq_zero hm.out.symm;subst ho;have KN2:Hid (YE ([]++[(dw,dv,dm)]) (l2.drop (j+1))=G):=KN;clear KN;refine wp_region_any (by kernel_rfl) ?_
    change wpAny _ _ _ _ _ _ _ (World.drew _)
    refine Za (i:=0) (op:=Op.move (Operand.tmp 3)) (t:=144) (d:=some 14) (v:=?_) rfl (by decide +kernel) (by decide +kernel) (by decide +kernel) (fun _ _ _ h=>h) ?_ ?_
    case refine_2=>(intro _;unfold Zd;go_simp;try with_reducible rfl)
    try simp only[lay]
    refine Za (i:=1) (op:=Op.call { callee:=Callee.builtin Builtin.len,args:=#[Operand.tmp 14],argTypes:=#[144] }) (t:=3) (d:=some 15) (v:=?_) rfl (by decide +kernel) (by decide +kernel) (by decide +kernel) (fun _ _ _ h=>h) ?_ ?_
    case refine_2=>(intro _;unfold Zd;go_simp;try with_reducible rfl)
    try simp only[lay]
    refine Za (i:=2) (op:=Op.binOp BinOp.eql 3 (Operand.tmp 15) (Operand.const (Value.int IntKind.i64 0)) 3) (t:=4) (d:=some 16) (v:=?_) rfl (by decide +kernel) (by decide +kernel) (by decide +kernel) (fun _ _ _ h=>h) ?_ ?_
    case refine_2=>(intro _;unfold Zd;go_simp;try with_reducible rfl)
    try simp only[lay]
    refine Za (i:=3) (op:=Op.move (Operand.tmp 16)) (t:=4) (d:=some 17) (v:=?_) rfl (by decide +kernel) (by decide +kernel) (by decide +kernel) (fun _ _ _ h=>h) ?_ ?_
    case refine_2=>(intro _;unfold Zd;go_simp;try with_reducible rfl)
    try simp only[lay]
    refine Xj (i:=4) (op:=Op.load 143 (Operand.tmp 5)) (t:=143) (d:=some 18) (b:=true) (g:=(3,false)) rfl (by decide +kernel) (by decide +kernel) (by decide +kernel) (fun _ _ _ h=>h) (by kernel_rfl) rfl ?_
    try simp only[lay]
    refine Xj (i:=5) (op:=Op.move (Operand.tmp 3)) (t:=144) (d:=some 19) (b:=true) (g:=(3,false)) rfl (by decide +kernel) (by decide +kernel) (by decide +kernel) (fun _ _ _ h=>h) (by kernel_rfl) rfl ?_
    try simp only[lay]
    refine Xj (i:=6) (op:=Op.move (Operand.tmp 3)) (t:=144) (d:=some 20) (b:=true) (g:=(3,false)) rfl (by decide +kernel) (by decide +kernel) (by decide +kernel) (fun _ _ _ h=>h) (by kernel_rfl) rfl ?_
    try simp only[lay]
    refine Xj (i:=7) (op:=Op.call { callee:=Callee.builtin Builtin.len,args:=#[Operand.tmp 20],argTypes:=#[144] }) (t:=3) (d:=some 21) (b:=true) (g:=(3,false)) rfl (by decide +kernel) (by decide +kernel) (by decide +kernel) (fun _ _ _ h=>h) (by kernel_rfl) rfl ?_
    try simp only[lay]
    refine Xj (i:=8) (op:=Op.binOp BinOp.sub 3 (Operand.tmp 21) (Operand.const (Value.int IntKind.i64 1)) 3) (t:=3) (d:=some 22) (b:=true) (g:=(3,false)) rfl (by decide +kernel) (by decide +kernel) (by decide +kernel) (fun _ _ _ h=>h) (by kernel_rfl) rfl ?_
    try simp only[lay]
    refine Xj (i:=9) (op:=Op.indexAddr 144 (Operand.tmp 19) (Operand.tmp 22)) (t:=0) (d:=some 23) (b:=true) (g:=(3,false)) rfl (by decide +kernel) (by decide +kernel) (by decide +kernel) (fun _ _ _ h=>h) (by kernel_rfl) rfl ?_
    try simp only[lay]
    refine Xj (i:=10) (op:=Op.load 143 (Operand.tmp 23)) (t:=143) (d:=some 24) (b:=true) (g:=(3,false)) rfl (by decide +kernel) (by decide +kernel) (by decide +kernel) (fun _ _ _ h=>h) (by kernel_rfl) rfl ?_
    try simp only[lay]
    refine Xj (i:=11) (op:=Op.call { callee:=Callee.value (Operand.func 138),args:=#[Operand.tmp 18,Operand.tmp 24],argTypes:=#[143,143] }) (t:=4) (d:=some 25) (b:=true) (g:=(3,false)) rfl (by decide +kernel) (by decide +kernel) (by decide +kernel) (fun _ _ _ h=>h) (by kernel_rfl) rfl ?_
    try simp only[lay]
    refine Xj (i:=12) (op:=Op.unOp UnOp.not 4 (Operand.tmp 25)) (t:=4) (d:=some 26) (b:=true) (g:=(3,false)) rfl (by decide +kernel) (by decide +kernel) (by decide +kernel) (fun _ _ _ h=>h) (by kernel_rfl) rfl ?_
    try simp only[lay]
    refine Za (i:=13) (op:=Op.pick (Operand.tmp 17) (Operand.const (Value.bool true)) (Operand.tmp 26)) (t:=4) (d:=some 27) (v:=?_) rfl (by decide +kernel) (by decide +kernel) (by decide +kernel) (fun _ _ _ h=>h) ?_ ?_
    case refine_2=>(intro _;unfold Zd;go_simp;try with_reducible rfl)
    try simp only[lay]
    refine wpAny_done (by kernel_rfl) ?_ _;go_simp;have yz:Ext wz wz.drew:=(Ext.rf _).drew;have HO3:=Hd (hO2.out.ext yz);have XY:=Hd (X2.out.tr yz);have HBy:=Hd (Nat.le_trans z0 yz.size);go_wp2_with (at_builtin;refine Ui _ (e:=143) Tryz.underlying144 hi.out hz0.out hz1.out hz2.out (by simp[Value.cells]) (by omega) rfl _ _ rfl w1.heap.size B 0 b2 (Zy []) _ 1 1 [.int .i64 dw,.int .i64 dv,.int .u64 dm,.int .u64 0] rfl rfl (HO3.out.ext ((Ext.rf _).alloc _)) (RdV.blk (.new rfl)).rdC (by simp) (by simp[Value.oneCell']) (by simp only[maxLen];omega) (by omega) (by have:=HBy.out;simp;omega) ?_;rintro A9 c9 w9 o9 g9 _;replace o9:=Hd o9;replace g9:=Hd g9);have X9:Hid (Ext w1 w9):=Ext.grow (XY.out.alloc _) g9.out (fun q hq=>(hO2.out.lt q hq).1);have HL:Hid (0+1=(([]:List Ld)++[(dw,dv,dm)]).length):=by
     have h9:0+1=(([]:List Ld)++[(dw,dv,dm)]).length:=by rw[List.length_append,<-hm.out];rfl
     exact h9
    have O9:Hid (OwV w9 w1.heap.size 143 4 A9 (0+1) c9 (Zy (([]:List Ld)++[(dw,dv,dm)]))):=by
     have h9:OwV w9 w1.heap.size 143 4 A9 (0+1) c9 (Zy (([]:List Ld)++[(dw,dv,dm)])):=by rw[YN];exact o9.out
     exact h9
    clear o9 g9 HO3 XY;go_wp2_with (fail);go_roundw
    case rel=>exact⟨j+1,0+1,_,A9,c9,rfl,by go_num,by omega,by omega,HL,KN2,O9,X9⟩
    case measure=>simp[intOf];omega
   ·obtain⟨p,hp⟩:∃ p,Hid (m=p+1):=⟨m-1,(by omega:m=m-1+1)⟩
    have hpl:p<out.length:=by rw[<-hm.out,hp.out];omega
    obtain⟨md,hmd⟩:∃ md,Hid (out[p]?=some md):=⟨out[p],List.getElem?_eq_getElem hpl⟩;have hlast:out.getLast?=some md:=by
     rw[List.getLast?_eq_getElem?,<-hm.out,hp.out];exact hmd.out
    rw[hlast] at KN;simp only at KN;have hne:Zy out≠[]:=by
     intro e;have:=Yn out;rw[e] at this;simp at this;omega
    obtain⟨gb,ob,hA,zb,hcell⟩:=hO2.out.read.form hne;have hob:ob=0:=by
     rcases hO2.out.cases with⟨h1,_⟩ | ⟨g',cur,h1,_⟩
     ·rw[hA] at h1;cases h1
     ·rw[hA] at h1
      have h2:gb=g'/\ob=0:=by simpa using h1
      exact h2.2
    subst hob hA;obtain⟨g0,g1,g2,g3⟩:=YU hmd.out;have a0:=hcell _ _ g0;have a1:=hcell _ _ g1;have a2:=hcell _ _ g2;have a3:=hcell _ _ g3;rw[Nat.zero_add] at a0 a1 a2 a3;obtain⟨ew,ev,em⟩:=md;simp only at a0 a1 a2 a3;have WO:=fun(W:World)=>Zc3 (dw,dv,dm) (ew,ev,em) W
    simp only[ldA] at WO;obtain⟨wb,hwb⟩:∃ wb,Hid (Uw (dw,dv,dm) (ew,ev,em)=wb):=⟨_,rfl⟩;rw[hwb.out] at WO KN;replace WO:=Hd WO;have wp:IntKind.i64.wrap ((m:Int)-1)=(p:Int):=by
     have:=hp.out;rw[show (m:Int)-1=(p:Int) by omega];exact IntWalk.i64_in _ (by omega)
    have qm:((m:Int)==0)=false:=by simp;omega
    have qp:(p:Int)<(m:Int):=by have:=hp.out;omega
    clear hcell hne g0 g1 g2 g3 hlast hpl;go_region_held3 (fun w'=>w'.cell? ⟨gx,0,none⟩=some (.int .i64 dw)/\w'.cell? ⟨gx,1,none⟩=some (.int .i64 dv)/\w'.cell? ⟨gx,2,none⟩=some (.int .u64 dm)/\w'.cell? ⟨gx,3,none⟩=some (.int .u64 0)/\w'.cell? ⟨gb,p*4,none⟩=some (.int .i64 ew)/\w'.cell? ⟨gb,p*4+1,none⟩=some (.int .i64 ev)/\w'.cell? ⟨gb,p*4+2,none⟩=some (.int .u64 em)/\w'.cell? ⟨gb,p*4+3,none⟩=some (.int .u64 0)) (go_keep)
     (first
      | (go_at_call 138;refine(WO.out _).mono ?_;rintro e w3 ⟨rfl,x3⟩;have y3:=Ext.tr (a:=wz) (by(repeat (first | assumption | exact Ext.rf _ | apply Ext.drew | apply Ext.drewN | apply Ext.alloc))) x3;have s0:=Zg y3 zx e0;have s1:=Zg y3 zx e1;have s2:=Zg y3 zx e2;have s3:=Zg y3 zx e3;have s4:=Zg y3 zb a0;have s5:=Zg y3 zb a1;have s6:=Zg y3 zb a2;have s7:=Zg y3 zb a3))
    all_goals
     cases wb with
     | true =>
      have KN2:Hid (YE out (l2.drop (j+1))=G):=KN;have O9:=Hd (hO2.out.ext y3);have X9:=Hd (X2.out.tr y3);clear KN s0 s1 s2 s3 s4 s5 s6 s7 e0 e1 e2 e3 a0 a1 a2 a3;go_wp2_with (fail);go_roundw
      case rel=>exact⟨j+1,m,out,_,b2,rfl,by go_num,by omega,by omega,hm,KN2,O9,X9⟩
      case measure=>simp[intOf];omega
     | false =>
      have KN2:Hid (YE (out++[(dw,dv,dm)]) (l2.drop (j+1))=G):=KN;clear KN s4 s5 s6 s7 e0 e1 e2 e3 a0 a1 a2 a3;have yz:Ext wz w3:=y3;have HO3:=Hd (hO2.out.ext yz);have XY:=Hd (X2.out.tr yz);have HBy:=Hd (Nat.le_trans z0 yz.size);go_wp2_with (at_builtin;refine Ui _ (e:=143) Tryz.underlying144 hi.out hz0.out hz1.out hz2.out (by simp[Value.cells]) (by omega) rfl _ _ rfl w1.heap.size (some ⟨gb,0,none⟩) m b2 (Zy out) _ 1 1 [.int .i64 dw,.int .i64 dv,.int .u64 dm,.int .u64 0] rfl rfl (HO3.out.ext ((Ext.rf _).alloc _)) (RdV.blk (.new rfl)).rdC (by simp) (by simp[Value.oneCell']) (by simp only[maxLen];omega) (by omega) (by have:=HBy.out;simp;omega) ?_;rintro A9 c9 w9 o9 g9 _;replace o9:=Hd o9;replace g9:=Hd g9);have X9:Hid (Ext w1 w9):=Ext.grow (XY.out.alloc _) g9.out (fun q hq=>(hO2.out.lt q hq).1);have HL:Hid (m+1=(out++[(dw,dv,dm)]).length):=by
       have h9:m+1=(out++[(dw,dv,dm)]).length:=by rw[List.length_append,<-hm.out];rfl
       exact h9
      have O9:Hid (OwV w9 w1.heap.size 143 4 A9 (m+1) c9 (Zy (out++[(dw,dv,dm)]))):=by
       have h9:OwV w9 w1.heap.size 143 4 A9 (m+1) c9 (Zy (out++[(dw,dv,dm)])):=by rw[YN];exact o9.out
       exact h9
      clear o9 g9 HO3 XY;go_wp2_with (fail);go_roundw
      case rel=>exact⟨j+1,m+1,_,A9,c9,rfl,by go_num,by omega,by omega,HL,KN2,O9,X9⟩
      case measure=>simp[intOf];omega
  ·obtain rfl:n=j:=by omega
   have e:l2.drop n=[]:=List.drop_of_length_le (by rw[hl2.out];exact Nat.le_refl _);rw[e] at hK;have hoG:out=G:=hK.out;have hGL:Hid (m=G.length/\OwV wo w1.heap.size 143 4 B m b2 (Zy G)):=by
    rw[<-hoG];exact⟨hm.out,hO.out⟩
   clear hoG hK hm hO e;go_wp2_with (fail);go_ret;have h2:=hGL.out.2;rw[hGL.out.1] at h2;exact⟨G,l2,B,b2,HP.out,hG.out.symm,by rw[hGL.out.1];rfl,h2.more HM.out.size,HM.out.ext X.out⟩
attribute [local go_sem] Oper.semAt_some
def ZaM (i:InstP)(n:Nat)(w:World)(e:Ending)(w':World) : Prop :=
 ∃ A c m,e=.returned (.tuple #[.slice A n c,.int .i64 (YO (atF i.value) n m),.int .i64 0])/\RdI w' A (xB m n)/\m<2^n/\ZT (atF i.weight) n m<=i.cap/\n<=c/\c<=maxLen/\(∀ s,s<2^n->ZT (atF i.weight) n s<=i.cap->YO (atF i.value) n m<=YO (atF i.value) n s)/\Ext w w'
theorem ZeU {k n:Nat}(h:k<=n)(hn:n<=18) : 2^k<=262144:=by
 have:2^k<=2^18:=Nat.pow_le_pow_right (by omega) (by omega);omega
theorem Zc5 {l:List Ld}{k:Nat}{wt vl room:Int}{d:Ld}(h:d∈Z4 l k wt vl room) : ∃ q∈l,q.1+wt<=room/\d=(q.1+wt,q.2.1+vl,q.2.2 ||| 2^k):=by
 obtain⟨q,hq,rfl⟩:=List.mem_map.1 h;obtain⟨hq,hf⟩:=List.mem_filter.1 hq;exact⟨q,hq,by simpa using hf,rfl⟩
theorem Jn (f:Nat->Int) : ∀ k,ZT f k 0=0
 | 0=>rfl
 | k+1=>by rw[ZP,Jn f k];simp
theorem OwV.some_of {w:World}{base:Nat}{e:TypeId}{size:Nat}{A:Option Addr}{n c:Nat}{vs:List Value}(h:OwV w base e size A n c vs)(hn:vs≠[]) : ∃ g,A=some ⟨g,0,none⟩:=by
 rcases h.cases with⟨_,_,_,h0⟩ | ⟨g,cur,rfl,_⟩
 ·exact absurd h0 hn
 ·exact⟨g,rfl⟩
def Zc6 (F:Fence)(n:Nat)(P:Program)(fn:Func)(R:Ending->World->Prop) : Exit->Act->World->Prop
 | .normal,a,w | .ret,a,w=>LeavesInM F n P fn a.tmps R a.defers .returning w
 | _,_,_=>False
theorem Ug {F:Fence}{n:Nat}{P:Program}{fn:Func}{R:Ending->World->Prop}(e:Exit)(a:Act)(w:World)(h:Zc6 F n P fn R e a w) : bodyPostM F n P fn R e a w:=by
 cases e<;>first | exact h | exact h.elim
def mkX (n:Nat)(l:List Nat) : List Int:=(List.range n).map fun j=>if j∈l then 1 else 0
theorem JP (n:Nat)(l:List Nat) : (mkX n l).length=n:=by simp[mkX]
theorem ZeK (n:Nat) : mkX n []=List.replicate n 0:=by simp[mkX,List.map_const']
theorem JQ {n j:Nat}(l:List Nat)(h:j<n) : (mkX n l)[j]?=some (if j∈l then 1 else 0):=by
 rw[mkX,List.getElem?_map,List.getElem?_range h]
 rfl
theorem Zd9 {n x:Nat}(l:List Nat)(h:x<n) : mkX n (l++[x])=(mkX n l).set x 1:=by
 apply List.ext_getElem?;intro j
 by_cases hj:j<n
 ·rw[JQ _ hj,List.getElem?_set,JQ _ hj]
  by_cases e:x=j
  ·subst e
   simp[JP,h]
  ·rw[if_neg e]
   have:¬j=x:=fun h=>e h.symm
   simp[this]
 ·rw[List.getElem?_eq_none (by rw[JP];omega),List.getElem?_eq_none (by rw[List.length_set,JP];omega)]
theorem Zea {m n:Nat}(h:n<=64) : mkX n (Zc m)=xB m n:=by
 unfold mkX xB;refine List.map_congr_left fun j hj=>?_
 have:=List.mem_range.1 hj
 by_cases hb:m.testBit j=true
 ·rw[if_pos hb,if_pos (ZX.2 ⟨by omega,hb⟩)]
 ·rw[if_neg hb,if_neg (fun h=>hb (ZX.1 h).2)]
def UU (xs:List Int) : Array Value:=(xs.map (Value.int .i64)).toArray
theorem OwI.blkOf {w:World}{base g c:Nat}{xs:List Int}(h:OwI w base (some ⟨g,0,none⟩) c xs)(hc:c=xs.length) : Blk w g 3 (UU xs):=by
 rcases OwI.cases h with⟨h,_⟩ | ⟨g',cur,hA,hb,hg,hn,hm,hs,ht⟩
 ·cases h
 ·obtain rfl:g=g':=by simpa using hA
  rw[List.take_of_length_le (by rw[Array.length_toList,hs,hc];exact Nat.le_refl _)] at ht;have:cur=UU xs:=by unfold UU;rw[<-ht]
  rw[<-this];exact hg
theorem Zeb (xs:List Int)(x:Nat)(v:Int) : (UU xs).setIfInBounds x (.int .i64 v)=UU (xs.set x v):=by
 unfold UU;rw[List.setIfInBounds_toArray,List.map_set]
theorem Held.setAt {w0 w:World}{sb:Nat}(h:Held w0 sb w)(i:Nat)(u:Value) : Held w0 sb (w.setCell ⟨sb,i,none⟩ u):=⟨by simp;exact h.1,fun b h1 h2=>(Below.heap_setCell w ⟨sb,i,none⟩ u b h2).trans (h.2 b h1 h2)⟩
theorem ZaN (i:InstP)(us:List Value)(n:Nat)(w:World)(H:RInst w us i)(hT:Tab w)(hc:Zl i=0)(hk:i.kind=1)(hn:i.n=n)(h18:n<=18) :
  CallsIn Fence.wide 3 Tryz.prog 44 #[.agg (List.toArray us)] w (ZaM i n w):=by
 have ok:=Z3 hc hk;have okcap:=ok.cap;have okn:=ok.n1;have okw:=ok.w;have okv:=ok.v;have TK:=fun(W:World) (x:Ext w W)=>ZbD i us W (H.ext x) hc hk (by omega)
 have TO:=fun(P:Option Addr) (c m:Nat) (W:World) (x:Ext w W) (hP:RdI W P (xB m n)) (hcap:ZT (atF i.weight) n m<=i.cap)=>ZcY i us P c m n W (H.ext x) hc hk hn hP hcap
 have BW:=fun(m k:Nat) (hk:k<=n)=>(V9 (f:=atF i.weight) (n:=n) (fun j _=>Uy ok.sw j) m k hk).1
 have BV:=fun(m k:Nat) (hk:k<=n)=>(V9 (f:=atF i.value) (n:=n) (fun j _=>Uy ok.sv j) m k hk).1
 have SW:=fun(j:Nat)=>Uy ok.sw j
 have SV:=fun(j:Nat)=>Uy ok.sv j
 obtain⟨kind,nn,cap,xw,xv,co⟩:=i;obtain⟨A,a,B,b,D,d,rfl,⟨rA,-⟩,⟨rB,-⟩,-⟩:=H;simp only at *;subst hk hn;have lw:xw.length=n:=by omega
 have lv:xv.length=n:=by omega
 simp only[lw,lv] at TK TO;rw[lw,lv];have GW:∀ j,j<n->∃ b' o',A=some ⟨b',o',none⟩/\b'<w.heap.size/\w.cell? ⟨b',o'+j,none⟩=some (.int .i64 (atF xw j)):=fun j hj=>by
  obtain⟨b',o',x,h1,h2,h3,h4,_⟩:=rA.at (k:=j) (by omega);exact⟨b',o',h1,h2,by rw[h3];unfold atF;rw[getD_some h4.out]⟩
 have GV:∀ j,j<n->∃ b' o',B=some ⟨b',o',none⟩/\b'<w.heap.size/\w.cell? ⟨b',o'+j,none⟩=some (.int .i64 (atF xv j)):=fun j hj=>by
  obtain⟨b',o',x,h1,h2,h3,h4,_⟩:=rB.at (k:=j) (by omega);exact⟨b',o',h1,h2,by rw[h3];unfold atF;rw[getD_some h4.out]⟩
 have B1:Hid (Blk (w.alloc (.cells #[.int .i64 1,.int .i64 n,.int .i64 cap,.slice A n a,.slice B n b,.slice D co.length d] 25)) w.heap.size 25 #[.int .i64 1,.int .i64 n,.int .i64 cap,.slice A n a,.slice B n b,.slice D co.length d]):=.new rfl;have X0:Hid (Ext w (w.alloc (.cells #[.int .i64 1,.int .i64 n,.int .i64 cap,.slice A n a,.slice B n b,.slice D co.length d] 25))):=(Ext.rf _).alloc _;obtain⟨i0,hi,hz0,hz1,hz2⟩:=info_parts JO;replace hi:=Hd hi;replace hz0:=Hd hz0;replace hz1:=Hd hz1;replace hz2:=Hd hz2;replace GW:=Hd GW;replace GV:=Hd GV;replace BW:=Hd BW;replace BV:=Hd BV;replace SW:=Hd SW;replace SV:=Hd SV;replace TK:=Hd TK;replace TO:=Hd TO;clear hc ok rA rB okw okv lw lv;refine callsIn_of_wp_marks Tryz.func44 rfl trivial ?_ rfl;simp only[Tryz.ntmps44,List.size_toArray,List.length_cons,List.length_nil,Nat.reduceAdd,Nat.reduceSub,Array.replicate_succ,Array.replicate_zero,List.push_toArray,List.append_toArray,List.nil_append,List.cons_append];refine wpIn_wide.2 (wp_mono ?_ Ug);go_wp2_with (fail);refine(TK.out _ X0.out).mono ?_;rintro e w1 ⟨rfl,x1⟩;have Bi:=Hd (B1.out.ext x1);have X1:=Hd (X0.out.tr x1);have z1:=Bi.out.lt;have t1:=Bi.out.c1;clear B1 X0 x1;go_wp2_with (fail);have bS:Blk (w1.alloc (.cells #[.int .i64 0,.int .i64 0,.int .u64 0,.int .u64 0] 143)) w1.heap.size 143 #[.int .i64 0,.int .i64 0,.int .u64 0,.int .u64 0]:=.new rfl;have O0:Hid (OwV (w1.alloc (.cells #[.int .i64 0,.int .i64 0,.int .u64 0,.int .u64 0] 143)) w1.heap.size 143 4 (some ⟨w1.heap.size,0,none⟩) 1 1 (Zy [(0,0,0)])):=OwV.full bS (Nat.le_refl _) rfl (by simp[maxLen]);have X2:Hid (Ext w1 (w1.alloc (.cells #[.int .i64 0,.int .i64 0,.int .u64 0,.int .u64 0] 143))):=(Ext.rf _).alloc _;have G0:Hid (Good 0 (atF xw) (atF xv) cap [(0,0,0)]):=Good.start okcap.1;clear bS;go_loopw [6,22] (fun v6 v22 wr=>∃ (k m:Nat) (Bl:Option Addr) (cl:Nat) (l:List Ld),v6=.slice Bl m cl/\v22=.int .i64 k/\k<=n/\Hid (m=l.length)/\Hid (Good k (atF xw) (atF xv) cap l)/\Hid (OwV wr w1.heap.size 143 4 Bl m cl (Zy l))/\Hid (Ext w1 wr)) (fun _ v22 _=>n-(intOf v22).toNat)
 case atStart=>exact⟨0,1,_,1,[(0,0,0)],rfl,rfl,by omega,rfl,G0,O0,X2⟩
 case round =>
  clear O0 X2 G0 t1;obtain⟨wo,rfl⟩:∃ wo:World,wo=wr:=⟨_,rfl⟩;obtain⟨k,m,Bl,cl,l,rfl,rfl,hk,hm,hG,hO,X⟩:=hrel;have XW:=X1.out.tr X.out;have Bw:=Hd (Bi.out.ext X.out);have LB:Hid (∀ d∈l,QI d/\d.2.2<2^k):=fun d hd=>by
   obtain⟨h1,h2,h3,h4⟩:=hG.out.each d hd;have b1:=BW.out d.2.2 k hk;have b2:=BV.out d.2.2 k hk;unfold QI;exact⟨by omega,h1⟩
  have LN:Hid (l≠[]):=by
   have h9:l≠[]:=by
    obtain⟨d,hd,_⟩:=hG.out.dom 0 (Nat.two_pow_pos k) (by rw[Jn];exact okcap.1);intro e;rw[e] at hd
    cases hd
   exact h9
  have p18:=ZeU hk h18;have ll:l.length<=262144:=Nat.le_trans hG.out.len p18
  by_cases hlt:k<n
  ·obtain⟨b1',o1,rfl,z1',c1⟩:=GW.out k hlt
   obtain⟨b2',o2,rfl,z2',c2⟩:=GV.out k hlt;have k1:=Zg XW z1' c1;have k2:=Zg XW z2' c2;have t2:=Bw.out.c2;have t3:=Bw.out.c3;have t4:=Bw.out.c4;have q1:(k:Int)<(n:Int):=by omega
   have sw:=SW.out k;have sv:=SV.out k;have ST:=Hd (fun(l2:List Ld) (h:l2.Perm (l++Z4 l k (atF xw k) (atF xv k) cap))=>hG.out.step (l2:=l2) sw.1 h);have WL:=Hd (fun(W:World) (h:RdV W 143 Bl (Zy l))=>Zc4 (c:=cl) h hm.out.symm (fun d hd=>by have:=LB.out d hd;exact⟨this.1,by omega⟩) (by rw[hm.out];omega) k (by omega) (atF xw k) (atF xv k) cap sw sv okcap);have WB:Hid (∀ d∈l++Z4 l k (atF xw k) (atF xv k) cap,QI d):=fun d hd=>by
    rcases List.mem_append.1 hd with hd | hd
    ·exact(LB.out d hd).1
    ·obtain⟨q,hq,h1,rfl⟩:=Zc5 hd
     have h2:=(LB.out q hq).1;obtain⟨_,_,h3,_⟩:=hG.out.each q hq;have b2:=BV.out q.2.2 k hk;unfold QI at h2 ⊢;simp only;omega
   have wl:=Je l k (atF xw k) (atF xv k) cap;generalize Z4 l k (atF xw k) (atF xv k) cap=lw at *;generalize atF xw k=aw at *;generalize atF xv k=av at *;replace XW:=Hd XW;clear c1 c2 sw sv;go_wp2_with (fail);refine wp_region_any (by kernel_rfl) ?_
   change wpAny _ _ _ _ _ _ _ (World.drew _)
   refine Za (i:=0) (op:=Op.move (Operand.tmp 6)) (t:=144) (d:=some 25) (v:=?_) rfl (by decide +kernel) (by decide +kernel) (by decide +kernel) (fun _ _ _ h=>h) ?_ ?_
   case refine_2=>(intro _;unfold Zd;go_simp;try with_reducible rfl)
   try simp only[lay]
   refine Za (i:=1) (op:=Op.move (Operand.tmp 6)) (t:=144) (d:=some 26) (v:=?_) rfl (by decide +kernel) (by decide +kernel) (by decide +kernel) (fun _ _ _ h=>h) ?_ ?_
   case refine_2=>(intro _;unfold Zd;go_simp;try with_reducible rfl)
   try simp only[lay]
   refine Za (i:=2) (op:=Op.move (Operand.tmp 7)) (t:=3) (d:=some 27) (v:=?_) rfl (by decide +kernel) (by decide +kernel) (by decide +kernel) (fun _ _ _ h=>h) ?_ ?_
   case refine_2=>(intro _;unfold Zd;go_simp;try with_reducible rfl)
   try simp only[lay]
   refine Za (i:=3) (op:=Op.fieldAddr 25 (Operand.tmp 1) 3) (t:=0) (d:=some 28) (v:=?_) rfl (by decide +kernel) (by decide +kernel) (by decide +kernel) (fun _ _ _ h=>h) ?_ ?_
   case refine_2=>(intro _;unfold Zd;go_simp;try with_reducible rfl)
   try simp only[lay]
   refine Za (i:=5) (op:=Op.move (Operand.tmp 7)) (t:=3) (d:=some 30) (v:=?_) rfl (by decide +kernel) (by decide +kernel) (by decide +kernel) (fun _ _ _ h=>h) ?_ ?_
   case refine_2=>(intro _;unfold Zd;go_simp;try with_reducible rfl)
   try simp only[lay]
   refine Za (i:=8) (op:=Op.fieldAddr 25 (Operand.tmp 1) 4) (t:=0) (d:=some 33) (v:=?_) rfl (by decide +kernel) (by decide +kernel) (by decide +kernel) (fun _ _ _ h=>h) ?_ ?_
   case refine_2=>(intro _;unfold Zd;go_simp;try with_reducible rfl)
   try simp only[lay]
   refine Za (i:=10) (op:=Op.move (Operand.tmp 7)) (t:=3) (d:=some 35) (v:=?_) rfl (by decide +kernel) (by decide +kernel) (by decide +kernel) (fun _ _ _ h=>h) ?_ ?_
   case refine_2=>(intro _;unfold Zd;go_simp;try with_reducible rfl)
   try simp only[lay]
   refine Za (i:=13) (op:=Op.fieldAddr 25 (Operand.tmp 1) 2) (t:=0) (d:=some 38) (v:=?_) rfl (by decide +kernel) (by decide +kernel) (by decide +kernel) (fun _ _ _ h=>h) ?_ ?_
   case refine_2=>(intro _;unfold Zd;go_simp;try with_reducible rfl)
   try simp only[lay]
   refine YK (n:=4) [(4,some 29),(6,some 31),(7,some 32),(9,some 34),(11,some 36),(12,some 37),(14,some 39)] (fun | 4=>.slice (some ⟨b1',o1,none⟩) n a | 6=>.pointer (some ⟨b1',o1+k,none⟩) | 7=>.int .i64 aw | 9=>.slice (some ⟨b2',o2,none⟩) n b | 11=>.pointer (some ⟨b2',o2+k,none⟩) | 12=>.int .i64 av | 14=>.int .i64 cap | _=>undef) #[true,true,true,true,true,true,true,true,true,true,true,true,true,true,true,false,false,false,false] (by decide +kernel) ?_ ?_
   ·intro pS hpm uS hD K hK
    simp only[List.mem_cons,List.not_mem_nil,or_false] at hpm;rcases hpm with rfl | rfl | rfl | rfl | rfl | rfl | rfl
    ·exact Zo (T:=22) (x:=Operand.tmp 28) (t:=22) (d:=some 29) rfl (.pointer (some ⟨w.heap.size,3,none⟩)) (by kernel_rfl) (.slice (some ⟨b1',o1,none⟩) n a) (by go_simp) hK
    ·exact ZU (T:=22) (x:=Operand.tmp 29) (y:=Operand.tmp 30) (t:=0) (d:=some 31) rfl (.slice (some ⟨b1',o1,none⟩) n a) (.int .i64 k) (Eq.trans (b:=uS 4) (by kernel_rfl) (hD 4 (Zm (by kernel_rfl)))) (by kernel_rfl) (.pointer (some ⟨b1',o1+k,none⟩)) (by go_simp) hK
    ·exact Zo (T:=3) (x:=Operand.tmp 31) (t:=3) (d:=some 32) rfl (.pointer (some ⟨b1',o1+k,none⟩)) (Eq.trans (b:=uS 6) (by kernel_rfl) (hD 6 (Zm (by kernel_rfl)))) (.int .i64 aw) (by go_simp) hK
    ·exact Zo (T:=22) (x:=Operand.tmp 33) (t:=22) (d:=some 34) rfl (.pointer (some ⟨w.heap.size,4,none⟩)) (by kernel_rfl) (.slice (some ⟨b2',o2,none⟩) n b) (by go_simp) hK
    ·exact ZU (T:=22) (x:=Operand.tmp 34) (y:=Operand.tmp 35) (t:=0) (d:=some 36) rfl (.slice (some ⟨b2',o2,none⟩) n b) (.int .i64 k) (Eq.trans (b:=uS 9) (by kernel_rfl) (hD 9 (Zm (by kernel_rfl)))) (by kernel_rfl) (.pointer (some ⟨b2',o2+k,none⟩)) (by go_simp) hK
    ·exact Zo (T:=3) (x:=Operand.tmp 36) (t:=3) (d:=some 37) rfl (.pointer (some ⟨b2',o2+k,none⟩)) (Eq.trans (b:=uS 11) (by kernel_rfl) (hD 11 (Zm (by kernel_rfl)))) (.int .i64 av) (by go_simp) hK
    ·exact Zo (T:=3) (x:=Operand.tmp 38) (t:=3) (d:=some 39) rfl (.pointer (some ⟨w.heap.size,2,none⟩)) (by kernel_rfl) (.int .i64 cap) (by go_simp) hK
   simp only[Zj,Act.put,List.setIfInBounds_toArray,List.set_cons_zero,List.set_cons_succ];refine Zh 15 (by decide +kernel) (Z7 (f:=87) (xs:=#[Operand.tmp 26,Operand.tmp 27,Operand.tmp 32,Operand.tmp 37,Operand.tmp 39]) (ts:=#[144,3,3,3,3]) (t:=144) (d:=some 40) rfl #[.slice Bl m cl,.int .i64 k,.int .i64 aw,.int .i64 av,.int .i64 cap] (by go_simp) (by kernel_rfl) _ (WL.out _ (hO.out.ext ((Ext.rf _).drew)).read) ?_);rintro e w2 ⟨B2,c2,rfl,o2',x2⟩;refine⟨_,rfl,?_⟩
   try simp only[lay]
   have x2':Hid (Ext wo w2):=Ext.tr ((Ext.rf wo).drew) x2;have hO2:=hO.out.ext x2'.out;obtain⟨A9,c9,w9,hrun,o9,g9,_⟩:=Vf w2 (e:=143) Tryz.underlying144 hi.out hz0.out hz1.out hz2.out (by simp[Value.cells]) (by omega) w1.heap.size 144 Bl m cl (Zy l) B2 lw.length c2 (Zy lw) hO2 o2'.read.rdC (Yn lw) (Jd lw) (by have:=hm.out;simp only[maxLen];omega) (by have:=hm.out;omega) (Nat.le_trans X.out.size x2'.out.size);have x9:Hid (Ext w1 w9):=Ext.grow (X.out.tr x2'.out) g9 (fun q hq=>(hO2.lt q hq).1);rw[<-YN] at o9;have hne:Zy (l++lw)≠[]:=by
    intro e;have h1:=Yn (l++lw);rw[e] at h1;simp only[List.length_nil,List.length_append] at h1;have h2:=List.length_pos_iff.2 LN.out;omega
   obtain⟨g,rfl⟩:=o9.some_of hne;have gb:=(o9.lt g rfl).1;have BB:=Zd8 o9 (by rw[List.length_append,hm.out]) WB.out (by have:=hm.out;omega);clear hne hO2 g9 x2 o2';refine Zh 16 (by kernel_rfl) (U4 rfl (.slice Bl m cl) (.slice B2 lw.length c2) (by kernel_rfl) (by kernel_rfl) _ hrun ?_)
   try simp only[lay]
   refine Zh 17 (by decide +kernel) (Z7 (f:=86) (xs:=#[Operand.tmp 41]) (ts:=#[144]) (t:=144) (d:=some 42) rfl #[.slice (some ⟨g,0,none⟩) (m+lw.length) c9] (by go_simp) (by kernel_rfl) _ (BB) ?_);rintro e w3 ⟨L,l2,B3,c3,hp,hL,he,o3,M3⟩;replace hL:=Hd hL;subst he;refine⟨_,rfl,?_⟩
   try simp only[lay]
   refine Za (i:=18) (op:=Op.assign (Operand.tmp 42)) (t:=144) (d:=some 6) (v:=?_) rfl (by decide +kernel) (by decide +kernel) (by decide +kernel) (fun _ _ _ h=>h) ?_ ?_
   case refine_2=>(intro _;unfold Zd;go_simp;try with_reducible rfl)
   try simp only[lay]
   refine wpAny_done (by kernel_rfl) ?_ _;have x3:Hid (Ext w1 w3):=x9.out.mod M3 (fun j hj e=>by subst e;omega);have G3:Hid (Good (k+1) (atF xw) (atF xv) cap L):=by
    have h9:Good (k+1) (atF xw) (atF xv) cap L:=by rw[hL.out];exact ST.out l2 hp
    exact h9
   have O3:Hid (OwV w3 w1.heap.size 143 4 B3 L.length c3 (Zy L)):=o3.more x9.out.size;clear hrun o9 BB M3 o3 x9 x2' k1 k2 t2 t3 t4 hL;go_simp;go_wp2_with (fail);go_roundw
   case rel=>exact⟨k+1,L.length,B3,c3,L,rfl,by go_num,by omega,rfl,G3,O3,x3⟩
   case measure=>simp[intOf];omega
  ·obtain rfl:n=k:=by omega
   obtain⟨d0,hd0⟩:∃ d0,Hid (l[0]?=some d0):=⟨l[0]'(List.length_pos_iff.2 LN.out),List.getElem?_eq_getElem _⟩;have hne:Zy l≠[]:=by
    intro e;have h1:=Yn l;rw[e] at h1;simp only[List.length_nil] at h1;have h2:=List.length_pos_iff.2 LN.out;omega
   have m0:0<m:=by rw[hm.out];exact List.length_pos_iff.2 LN.out
   obtain⟨g,rfl⟩:=hO.out.some_of hne;obtain⟨gb,ob,hA,zb,hcell⟩:=hO.out.read.form hne;obtain⟨rfl,rfl⟩:g=gb/\0=ob:=by simpa using hA
   obtain⟨g0,g1,g2,g3⟩:=YU hd0.out;have c0:wo.cell? ⟨g,0,none⟩=some (.int .i64 d0.1):=by simpa using hcell _ _ g0
   have c1:wo.cell? ⟨g,1,none⟩=some (.int .i64 d0.2.1):=by simpa using hcell _ _ g1
   have c2:wo.cell? ⟨g,2,none⟩=some (.int .u64 d0.2.2):=by simpa using hcell _ _ g2
   have c3:wo.cell? ⟨g,3,none⟩=some (.int .u64 0):=by simpa using hcell _ _ g3
   have q0:¬((n:Int)<(n:Int)):=by omega
   have q1:(0:Int)<(m:Int):=by omega
   have xx:Ext wo (wo.alloc (.cells #[.int .i64 d0.1,.int .i64 d0.2.1,.int .u64 d0.2.2,.int .u64 0] 143)):=(Ext.rf _).alloc _;have BX:Hid (Blk (wo.alloc (.cells #[.int .i64 d0.1,.int .i64 d0.2.1,.int .u64 d0.2.2,.int .u64 0] 143)) wo.heap.size 143 #[.int .i64 d0.1,.int .i64 d0.2.1,.int .u64 d0.2.2,.int .u64 0]):=.new rfl;have XZ:=Hd (X.out.tr xx);have hO2:=Hd (hO.out.ext xx);obtain⟨G,hG2⟩:∃ G,Hid (JJ d0 (l.drop 0)=G):=⟨_,rfl⟩;have GT:Hid (G∈l/\∀ d∈l,d.2.1<=G.2.1):=by
    have h1:=Zb4 (l:=l) (t:=d0);have h2:=hG2.out;rw[List.drop_zero] at h2;rw[h2] at h1;refine⟨?_,h1.2.1⟩;rcases h1.2.2 with h3 | h3
    ·rw[h3];exact List.mem_of_getElem? hd0.out
    ·exact h3
   have zx:g<wo.heap.size:=zb;obtain⟨dw,dv,dm⟩:=d0;simp only at c0 c1 c2 c3 BX XZ hO2;have zn:=Hd X.out.size;clear XW hcell hne g0 g1 g2 g3 hA xx LN hO X zb hlt;go_wp2_with (fail);generalize wo.alloc (.cells #[.int .i64 dw,.int .i64 dv,.int .u64 dm,.int .u64 0] 143)=wz at *;obtain⟨gx,hgx⟩:∃ gx,gx=wo.heap.size:=⟨_,rfl⟩;rw[<-hgx] at BX zx zn ⊢;replace hgx:=Hd hgx;have zx0:w1.heap.size<=gx:=zn.out;go_loopw [49] (fun v49 wr=>∃ (j:Nat) (t:Ld),v49=.int .i64 j/\j<=m/\Hid (JJ t (l.drop j)=G)/\Hid (Blk wr gx 143 #[.int .i64 t.1,.int .i64 t.2.1,.int .u64 t.2.2,.int .u64 0])/\Hid (Mod (fun b=>b=gx) wz wr)) (fun v49 _=>m-(intOf v49).toNat)
   case atStart=>exact⟨0,(dw,dv,dm),rfl,by omega,hG2,BX,Mod.rf _⟩
   case round =>
    clear hG2 BX c0 c1 c2 c3;obtain⟨wp,rfl⟩:∃ wp:World,wp=wr:=⟨_,rfl⟩;obtain⟨j,t,rfl,hj,hT2,bX,hM⟩:=hrel
    by_cases hlt:j<m
    ·have hjl:j<l.length:=by rw[<-hm.out];exact hlt
     obtain⟨d,hd⟩:∃ d,Hid (l[j]?=some d):=⟨l[j],List.getElem?_eq_getElem hjl⟩;have hne:Zy l≠[]:=by
      intro e;have:=Yn l;rw[e] at this;simp at this;omega
     have RO:=(hO2.out.mod hM.out (fun q hq e=>by
      have h1:g=q:=by simpa [bl] using hq
      omega)).read
     obtain⟨gb,ob,hA,zb,hcell⟩:=RO.form hne;obtain⟨rfl,rfl⟩:g=gb/\0=ob:=by simpa using hA
     obtain⟨g0,g1,g2,g3⟩:=YU hd.out;have c0:=hcell _ _ g0;have c1:=hcell _ _ g1;have c2:=hcell _ _ g2;have c3:=hcell _ _ g3;rw[Nat.zero_add] at c0 c1 c2 c3;have TN:Hid (JJ (if t.2.1<d.2.1 then d else t) (l.drop (j+1))=G):=by
      have h1:=hT2.out;obtain⟨_,hv⟩:=List.getElem?_eq_some_iff.1 hd.out;rw[List.drop_eq_getElem_cons hjl,hv] at h1;exact h1
     have q3:(j:Int)<(m:Int):=by omega
     have zp:=bX.out.lt;have bw:=bX.out.alloc (.cells #[.int .i64 d.1,.int .i64 d.2.1,.int .u64 d.2.2,.int .u64 0] 143);obtain⟨tw,tv,tm⟩:=t;obtain⟨ew,ev,em⟩:=d;simp only at c0 c1 c2 c3 TN bX bw;have by':Blk (wp.alloc (.cells #[.int .i64 ew,.int .i64 ev,.int .u64 em,.int .u64 0] 143)) wp.heap.size 143 #[.int .i64 ew,.int .i64 ev,.int .u64 em,.int .u64 0]:=.new rfl
     have MO:=Hd (hM.out.alloc (.cells #[.int .i64 ew,.int .i64 ev,.int .u64 em,.int .u64 0] 143));clear hcell hne g0 g1 g2 g3 hA RO bX hM hT2;go_upto_region 14 with(fail);clear c0 c1 c2 c3;generalize (wp.alloc (.cells #[.int .i64 ew,.int .i64 ev,.int .u64 em,.int .u64 0] 143))=wy at *;have hne2:wp.heap.size≠gx:=by omega
     generalize wp.heap.size=gy at *;have c0:=by'.c0
     have c1:=by'.c1
     have c2:=by'.c2
     have c3:=by'.c3
     have k0:=bw.c0;have k1:=bw.c1;have k2:=bw.c2;have k3:=bw.c3;have f0:=bw.free 0;have f1:=bw.free 1;have f2:=bw.free 2;have f3:=bw.free 3;have BN:Hid (Blk ((((wy.setCell ⟨gx,0,none⟩ (.int .i64 ew)).setCell ⟨gx,1,none⟩ (.int .i64 ev)).setCell ⟨gx,2,none⟩ (.int .u64 em)).setCell ⟨gx,3,none⟩ (.int .u64 0)) gx 143 #[.int .i64 ew,.int .i64 ev,.int .u64 em,.int .u64 0]):=(((bw.set 0 (.int .i64 ew)).set 1 (.int .i64 ev)).set 2 (.int .u64 em)).set 3 (.int .u64 0);have MN:Hid (Mod (fun b=>b=gx) wz ((((wy.setCell ⟨gx,0,none⟩ (.int .i64 ew)).setCell ⟨gx,1,none⟩ (.int .i64 ev)).setCell ⟨gx,2,none⟩ (.int .u64 em)).setCell ⟨gx,3,none⟩ (.int .u64 0))):=(((MO.out.set (p:=⟨gx,0,none⟩) (.inl rfl) _).set (p:=⟨gx,1,none⟩) (.inl rfl) _).set (p:=⟨gx,2,none⟩) (.inl rfl) _).set (p:=⟨gx,3,none⟩) (.inl rfl) _;have BO:=Hd bw;clear bw by'
     by_cases hv:tv<ev
     ·rw[if_pos hv] at TN
      go_wp2_with (fail);go_roundw
      case rel=>exact⟨j+1,(ew,ev,em),by go_num,by omega,TN,BN,MN⟩
      case measure=>simp[intOf];omega
     ·rw[if_neg hv] at TN
      clear BN MN;go_wp2_with (fail);go_roundw
      case rel=>exact⟨j+1,(tw,tv,tm),by go_num,by omega,TN,BO,MO⟩
      case measure=>simp[intOf];omega
    ·obtain rfl:m=j:=by omega
     obtain rfl:t=G:=by
      have h1:=hT2.out;rw[List.drop_of_length_le (by have:=hm.out;omega)] at h1;exact h1
     have ME:=hG.out.each t GT.out.1;have OPT:Hid (∀ s,s<2^n->ZT (atF xw) n s<=cap->YO (atF xv) n t.2.2<=YO (atF xv) n s):=fun s h1 h2=>by
      obtain⟨q,q1,q2,q3⟩:=hG.out.dom s h1 h2;have h3:=GT.out.2 q q1;have h4:=QG (atF xv) s n;have h5:=QG (atF xv) t.2.2 n;omega
     have XP:Hid (Ext w1 wp):=XZ.out.mod hM.out (fun q h1 e=>by omega);have Bq:=Bi.out.ext XP.out;have t1:=Bq.c1;have k2:=bX.out.c2;have k3:=bX.out.c3;have MB:Hid (t.2.2<2^n/\ZT (atF xw) n t.2.2<=cap):=⟨ME.1,by rw[<-ME.2.1];exact ME.2.2.2⟩;have q4:¬((m:Int)<(m:Int)):=by omega
     have zxp:=bX.out.lt;generalize t.2.2=msk at *;go_upto_region 18 with(at_make;refine Wh _ rfl _ _ rfl wp.heap.size _ _ n rfl rfl rfl rfl (by omega) (Nat.le_refl _) ?_;rintro w5 o5 g5;replace o5:=Hd o5;replace g5:=Hd g5);have x5:=Ext.grow (Ext.rf wp) g5.out (by simp);have bA:Blk (w5.alloc (.cells #[.slice (some ⟨wp.heap.size,0,none⟩) n n] 22)) w5.heap.size 22 #[.slice (some ⟨wp.heap.size,0,none⟩) n n]:=.new rfl;have x6:Ext w5 (w5.alloc (.cells #[.slice (some ⟨wp.heap.size,0,none⟩) n n] 22)):=(Ext.rf _).alloc _;have zz5:=o5.out.lt _ rfl;have o6:=Hd (o5.out.ext x6);have X6:=Hd (x5.tr x6);generalize w5.alloc (.cells #[.slice (some ⟨wp.heap.size,0,none⟩) n n] 22)=w6 at *;have l2:=Zg X6.out zxp k2;have l3:=Zg X6.out zxp k3;obtain⟨gy,hgy⟩:∃ gy,gy=wp.heap.size:=⟨_,rfl⟩;obtain⟨ga,hga⟩:∃ ga,ga=w5.heap.size:=⟨_,rfl⟩;rw[<-hgy] at o6 bA zz5 zxp ⊢;rw[<-hga] at bA zz5 ⊢;have zA:=bA.lt;replace bA:=Hd bA;have zi7:w.heap.size<gy:=by
      have:=(Bi.out.lt);have:=XP.out.size;omega
     have zyx:gx<gy:=by omega
     replace hgy:=Hd hgy;clear o5 g5 x5 x6 hga k2 k3;go_wp2_with (fail);refine(XJ msk _).mono ?_;rintro e w' ⟨rfl,rfl⟩;go_wp2_with (fail);have bB:Blk (w6.alloc (.cells #[.int .u64 msk,.int .u64 0] 141)) w6.heap.size 141 #[.int .u64 msk,.int .u64 0]:=.new rfl;have x7:Ext w6 (w6.alloc (.cells #[.int .u64 msk,.int .u64 0] 141)):=(Ext.rf _).alloc _;have hB0:Ext w (w6.alloc (.cells #[.int .u64 msk,.int .u64 0] 141)):=((X1.out.tr XP.out).tr X6.out).tr x7;have b18:2^n<=262144:=ZeU (Nat.le_refl n) h18;have hm64:msk<18446744073709551616:=by have:=MB.out.1;omega
     have hmn:Hid (∀ x∈Zc msk,x<n):=fun x hx=>by
      have h1:=(ZX.1 hx).2;have h3:=MB.out.1
      by_cases h:x<n
      ·exact h
      ·have:=Nat.pow_le_pow_right (n:=2) (by omega) (by omega:n<=x)
       rw[Nat.testBit_lt_two_pow (by omega)] at h1
       cases h1
     have h63:∀ x∈Zc msk,x<63:=fun x hx=>by have:=hmn.out x hx;omega
     have hg:=Vh hT;have b0:Blk (w6.alloc (.cells #[.int .u64 msk,.int .u64 0] 141)) gy 3 (UU (mkX n [])):=by
      have h1:=(OwI.blkOf o6.out (by simp)).ext x7;rw[ZeK];exact h1
     have bA7:=Hd (bA.out.ext x7);have Bi7:=Hd ((Bq.ext X6.out).ext x7);have zy6:gy<w6.heap.size:=by omega
     have zy7:gy≠ga:=by omega
     generalize hw7:w6.alloc (.cells #[.int .u64 msk,.int .u64 0] 141)=w7 at *;have z7:w7.heap.size=w6.heap.size+1:=by rw[<-hw7];simp
     clear hw7;refine(wpIn_wide (n:=3)).1 ?_;refine wpIn_rangeFunc_ownG rfl (by omega) (gf:=140) (lb:=#[.pointer (some ⟨w6.heap.size,0,none⟩)]) rfl trivial (enters_of Tryz.func140 (by kernel_rfl) rfl)
      (YC 2 msk hm64 h63 w6.heap.size w.heap.size _ bB (hT.ext hB0) hB0.size hg) SetKp.tr (XL (cs:=#[.int .u64 msk,.int .u64 0]) hB0.size bB) (Below.refl _ _) (fun _=>rfl)
      (fun pre W=>Blk W gy 3 (UU (mkX n (inL pre)))/\Held w7 gy W/\Below w.heap.size w W)
      (fun _ _ _=>False)
      (OwnFrom.and (ZI (by omega) _ _) (OwnFrom.and (YI (Nat.le_refl _)) (ownFrom_below (Nat.le_refl _) (by omega))))
      (fun _ _ _ _ _ hs _ _=>hs)
      ⟨by simpa [inL] using b0,⟨Nat.le_refl _,fun _ _ _=>rfl⟩,hB0⟩
      (fun x=>{ tmps:=#[.agg #[.int .i64 1,.int .i64 n,.int .i64 cap,.slice A n a,.slice B n b,.slice D co.length d],.pointer (some ⟨w.heap.size,0,none⟩),.slice none 0 0,.int .i64 0,.int .i64 0,.int .i64 0,.slice (some ⟨g,0,none⟩) m cl,u7,.pointer (some ⟨gx,0,none⟩),undef,u10,.pointer (some ⟨ga,0,none⟩),.int .i64 ((x.1:Nat):Int),.agg #[.int .i64 1,.int .i64 n,.int .i64 cap,.slice A n a,.slice B n b,.slice D co.length d],.int .i64 0,.int .i64 0,.bool false,undef,.agg #[.int .i64 0,.int .i64 0,.int .u64 0,.int .u64 0],.slice (some ⟨w1.heap.size,0,none⟩) 1 1,.pointer (some ⟨w.heap.size,1,none⟩),.int .i64 n,.int .i64 n,.bool false,u24,u25,u26,u27,u28,u29,u30,u31,u32,u33,u34,u35,u36,u37,u38,u39,u40,u41,u42,u43,.slice (some ⟨g,0,none⟩) m cl,.pointer (some ⟨g,0,none⟩),.agg #[.int .i64 dw,.int .i64 dv,.int .u64 dm,.int .u64 0],.slice (some ⟨g,0,none⟩) m cl,.int .i64 m,.int .i64 m,.bool false,u51,u52,u53,u54,u55,u56,u57,u58,u59,.pointer (some ⟨w.heap.size,1,none⟩),.int .i64 n,.slice (some ⟨gy,0,none⟩) n n,.pointer (some ⟨gx,2,none⟩),.agg #[.int .u64 msk,.int .u64 0],.func (.func 140) #[] #[.pointer (some ⟨w6.heap.size,0,none⟩)],.int .i64 ((x.1:Nat):Int),undef,undef,undef,undef,undef,undef,undef,undef,undef],defers:=[] }) ?assign ?body ?done ?stop
     case assign =>
      intro l x W K hK
      gi_wp2
      exact hK
     case body =>
      rintro l pre x W ⟨hX,hH,hBW⟩ hlt2;have hxn:=hmn.out x.1 x.2;have cA:W.cell? ⟨ga,0,none⟩=some (.slice (some ⟨gy,0,none⟩) n n):=(hH.blk bA7.out (by omega)).cell 0;have cX:W.cell? ⟨gy,x.1,none⟩=some (.int .i64 (if x.1∈inL pre then 1 else 0)):=by
       rw[hX.cell];unfold UU;rw[List.getElem?_toArray,List.getElem?_map,JQ _ hxn]
       rfl
      have fX:=hX.free x.1;have q5:((x.1:Nat):Int)<(n:Int):=by omega
      have zW:w6.heap.size+1<=W.heap.size:=by have:=hH.1;omega
      have E1:KeepsFrom w7.heap.size W (W.setCell ⟨gy,x.1,none⟩ (.int .i64 1))/\SetKp w.heap.size w6.heap.size W (W.setCell ⟨gy,x.1,none⟩ (.int .i64 1))/\Blk (W.setCell ⟨gy,x.1,none⟩ (.int .i64 1)) gy 3 (UU (mkX n (inL (pre++[x]))))/\Held w7 gy (W.setCell ⟨gy,x.1,none⟩ (.int .i64 1))/\Below w.heap.size w (W.setCell ⟨gy,x.1,none⟩ (.int .i64 1)):=by
       refine⟨(KeepsOthers.setCell _ _ _).from _,⟨(Below.refl _ _).setCell (by simp<;>omega) _,Below.heap_setCell W ⟨gy,x.1,none⟩ _ w6.heap.size (by simp;omega)⟩,?_,hH.setAt _ _,hBW.setCell (by simp<;>omega) _⟩;rw[Y5,Zd9 _ hxn,<-Zeb];exact hX.set x.1 (.int .i64 1)
      replace E1:=Hd E1;replace hX:=Hd hX;replace hH:=Hd hH;replace hBW:=Hd hBW
      gi_wp2
      exact E1.out
     case done =>
      rintro D' ys W hD rfl ⟨hX,hH,hBW⟩ hK;rw[Yg,Zea (by omega)] at hX;have BiW:=hH.blk Bi7.out (by omega);have bAW:=hH.blk bA7.out (by omega);have t0:=BiW.c0;have t1:=BiW.c1;have t2:=BiW.c2;have t3:=BiW.c3;have t4:=BiW.c4;have t5:=BiW.c5;have cA:=bAW.c0;have RX:RdI W (some ⟨gy,0,none⟩) (xB msk n):=.blk hX (by unfold UU;simp);replace TO:=Hd (TO.out (some ⟨gy,0,none⟩) n msk W hBW RX MB.out.2);go_simp;go_wp2_with (fail);refine TO.out.mono ?_;rintro e w8 ⟨rfl,x8⟩;go_wp2_with (fail);have zD:w7.heap.size<=D':=hD;have hKD:w8.heap[D']?=some (.deferred (some [])):=(x8.block D' (Array.getElem?_eq_some_iff.1 hK).1).trans hK;have neD:gy≠D':=by omega
      refine⟨by simp,.inl ⟨_,_,rfl,run_takeDeferred hKD,?_⟩⟩;refine⟨.tuple #[.slice (some ⟨gy,0,none⟩) n n,.int .i64 (YO (atF xv) n msk),.int .i64 0],by simp[results,Tryz.results44,go_sem],?_⟩;have hz7:=hB0.size;have hzW:=hH.1;have E8:Ext w w8:=hBW.trans (x8.mono (by omega));exact⟨some ⟨gy,0,none⟩,n,msk,rfl,.blk ((World.putObj_heap_other neD).trans (hX.ext x8)) (by unfold UU;simp),MB.out.1,MB.out.2,Nat.le_refl _,(by simp only[maxLen];omega),OPT.out,E8.trans (belowK_b (w:=w) (Nat.le_refl _) w8 D' _ _ (by omega) hKD rfl rfl)⟩
     case stop =>
      rintro D c pre W _ _ h _;exact h.elim
theorem JR (i:InstP)(us:List Value)(n:Nat)(w:World)(H:RInst w us i)(hT:Tab w)(hc:Zl i=0)(hk:i.kind=1)(hn:i.n=n)(h18:n<=18) :
  Calls Tryz.prog 44 #[.agg (List.toArray us)] w (ZaM i n w):=callsIn_wide.1 (ZaN i us n w H hT hc hk hn h18)
end Go.Proofs.YtmojhhlcocjoaaaGreatDoor
namespace Go.Proofs.YtmojhhlcocjoaaaGreatDoor
section
variable {n R:Nat} {cst:Nat->Nat->Int} {far M:Int} {has frm:Nat->Nat} {L:List Nat} {a:Nat} {u v least:Nat->Int}
theorem GI.bound (h:GI n cst far R has L a u v least frm)(ho:HasOk n R has)(hRn:R<=n)(hf:∃ c,1<=c/\c<=n/\has c=0)(num:∀ i c,1<=i->i<=n->1<=c->c<=n->0<=cst i c/\cst i c<=M) :
  (∀ i,1<=i->i<=n->0<=u i/\u i<=M)/\∀ c,1<=c->c<=n->-M<=v c/\v c<=0:=by
 obtain⟨c0,k1,k2,k3⟩:=hf;have hu:∀ i,1<=i->i<=n->0<=u i/\u i<=M:=fun i h1 h2=>by
  have a1:=h.slack i c0 h1 h2 k1 k2;have a2:=h.free c0 k1 k2 k3;have a3:=(num i c0 h1 h2 k1 k2).2;have a4:=h.pos i;omega
 refine⟨hu,fun c h1 h2=>?_⟩;have hM:0<=M:=by
  have:=num 1 c0 (by omega) (by omega) k1 k2;omega
 have a1:=h.neg c h1 h2
 by_cases hc:has c=0
 ·have:=h.free c h1 h2 hc
  omega
 ·have a2:=h.tight c h1 h2 hc
  have a3:=ho.le c h2;have a4:=hu (has c) (by omega) (by omega);have a5:=num (has c) c (by omega) (by omega) h1 h2;omega
end
structure TI (n:Nat)(cst:Nat->Nat->Int)(R:Nat)(u v:Nat->Int)(has:Nat->Nat)(hole:Nat) : Prop where
 all:∀ i,1<=i->i<=R->∃ c,c<=n/\c≠hole/\has c=i
 inj:∀ c c',c<=n->c'<=n->c≠hole->c'≠hole->has c=has c'->has c≠0->c=c'
 le:∀ c,c<=n->c≠hole->has c<=R
 tight:∀ c,1<=c->c<=n->c≠hole->has c≠0->cst (has c) c=u (has c)+v c
 free:∀ c,1<=c->c<=n->c≠hole->has c=0->v c=0
section
variable {n R:Nat} {cst:Nat->Nat->Int} {far:Int} {has has' hs frm:Nat->Nat} {L:List Nat} {a hole:Nat} {u v least:Nat->Int}
theorem GI.turn (h:GI n cst far R has L a u v least frm)(ho:HasOk n R has)(ha:has a=0) : TI n cst R u v has a where
 all:=fun i h1 h2=>by
  obtain⟨c,k1,k2⟩:=ho.all i h1 h2;refine⟨c,k1,?_,k2⟩;rintro rfl;omega
 inj:=fun c c' h1 h2 _ _=>ho.inj c c' h1 h2
 le:=fun c h1 _=>ho.le c h1
 tight:=fun c h1 h2 _=>h.tight c h1 h2
 free:=fun c h1 h2 _=>h.free c h1 h2
theorem TI.back {p:Nat}(h:TI n cst R u v hs hole)(hh:hole<=n)(hp:p<=n)(hne:p≠hole)(hp0:hs p≠0)(ht:cst (hs p) hole=u (hs p)+v hole)(hn:∀ c,has' c=if c=hole then hs p else hs c) : TI n cst R u v has' p where
 all:=fun i h1 h2=>by
  obtain⟨c,k1,k2,k3⟩:=h.all i h1 h2
  by_cases e:c=p
  ·subst e
   exact⟨hole,hh,fun e=>hne e.symm,by rw[hn,if_pos rfl,k3]⟩
  ·exact⟨c,k1,e,by rw[hn,if_neg k2,k3]⟩
 inj:=fun c c' h1 h2 h3 h4 e h0=>by
  rw[hn] at e h0;rw[hn c'] at e
  by_cases e1:c=hole
  ·by_cases e2:c'=hole
   ·rw[e1,e2]
   ·rw[if_pos e1,if_neg e2] at e
    exact absurd (h.inj p c' hp h2 hne e2 e hp0).symm h4
  ·by_cases e2:c'=hole
   ·rw[if_neg e1,if_pos e2] at e
    rw[if_neg e1] at h0;exact absurd (h.inj c p h1 hp e1 hne e h0) h3
   ·rw[if_neg e1,if_neg e2] at e
    rw[if_neg e1] at h0;exact h.inj c c' h1 h2 e1 e2 e h0
 le:=fun c h1 h2=>by
  rw[hn];split
  ·exact h.le p hp hne
  ·rename_i e
   exact h.le c h1 e
 tight:=fun c h1 h2 h3 h4=>by
  rw[hn] at h4 ⊢
  by_cases e:c=hole
  ·subst e
   rw[if_pos rfl];exact ht
  ·rw[if_neg e] at h4 ⊢
   exact h.tight c h1 h2 e h4
 free:=fun c h1 h2 h3 h4=>by
  rw[hn] at h4
  by_cases e:c=hole
  ·rw[if_pos e] at h4
   exact absurd h4 hp0
  ·rw[if_neg e] at h4
   exact h.free c h1 h2 e h4
theorem TI.done (h:TI n cst R u v hs 0)(slack:∀ i c,1<=i->i<=n->1<=c->c<=n->u i+v c<=cst i c)(neg:∀ c,1<=c->c<=n->v c<=0)(pos:∀ i,0<=u i)(fresh:∀ i,R<i->u i=0) : HI n cst R u v hs where
 le:=fun c h1 h2=>h.le c h2 (by omega)
 all:=fun i h1 h2=>by
  obtain⟨c,k1,k2,k3⟩:=h.all i h1 h2;exact⟨c,by omega,k1,k3⟩
 inj:=fun c c' h1 h2 h3 h4=>h.inj c c' h2 h4 (by omega) (by omega)
 slack:=slack
 tight:=fun c h1 h2=>h.tight c h1 h2 (by omega)
 free:=fun c h1 h2=>h.free c h1 h2 (by omega)
 neg:=neg
 pos:=pos
 fresh:=fresh
structure BackI (n:Nat)(has:Nat->Nat)(full:List Nat)(hs:Nat->Nat)(hole:Nat) : Prop where
 path:∃ A B,full=A++hole::B/\∀ c∈A,hs c=has c
theorem GI.back (h:GI n cst far R has L a u v least frm)(ho:HasOk n R has)(hb:BackI n has (L++[a]) hs hole)(ht:TI n cst R u v hs hole)(h0:hole≠0)(hn:∀ c,has' c=if c=hole then hs (frm hole) else hs c) :
  frm hole<=n/\TI n cst R u v has' (frm hole)/\BackI n has (L++[a]) has' (frm hole)/\∃ A B,L++[a]=A++hole::B/\frm hole∈A:=by
 obtain⟨A,B,e,hA⟩:=hb.path;have hA0:A≠[]:=by
  rintro rfl;have:=h.first;rw[e] at this;simp at this;exact h0 this
 obtain⟨m1,m2⟩:=h.way A B hole e hA0;have hmem:∀ c∈A++hole::B,c<=n:=fun c hc=>h.le c (by rw[e];exact hc)
 have hp:frm hole<=n:=hmem _ (by simp[m1]);have hnd:=h.nodup;rw[e] at hnd;have hne:frm hole≠hole:=fun e2=>(List.nodup_append.1 hnd).2.2 (frm hole) m1 hole (by simp) e2
 have hseen:has (frm hole)≠0:=by
  have hAL:∀ c∈A,c∈L:=by
   intro c hc;have h1:c∈L++[a]:=by rw[e];simp[hc]
   rcases List.mem_append.1 h1 with h2 | h2
   ·exact h2
   ·obtain rfl:=List.mem_singleton.1 h2
    exfalso
    rcases List.eq_nil_or_concat B with rfl | ⟨B',b,rfl⟩
    ·have e':L++[c]=A++[hole]:=e
     have:=(List.append_inj' e' rfl).2;have e3:c=hole:=by simpa using this
     exact(List.nodup_append.1 hnd).2.2 c hc hole (by simp) e3
    ·rw[List.concat_eq_append] at e hnd
     have e':L++[c]=(A++hole::B')++[b]:=by simpa using e
     have:=(List.append_inj' e' rfl).2;have e3:c=b:=by simpa using this
     exact(List.nodup_append.1 hnd).2.2 c hc b (by simp) e3
  exact h.seen _ (hAL _ m1)
 have e1:hs (frm hole)=has (frm hole):=hA _ m1;refine⟨hp,ht.back (hmem hole (by simp)) hp hne (by rw[e1];exact hseen) (by rw[e1];exact m2) hn,⟨?_⟩,A,B,e,m1⟩;obtain⟨A1,A2,e2⟩:=List.append_of_mem m1;refine⟨A1,A2++hole::B,by rw[e,e2];simp,fun c hc=>?_⟩;have hcA:c∈A:=by rw[e2];simp[hc]
 rw[hn,if_neg (fun e3=>(List.nodup_append.1 hnd).2.2 c hcA hole (by simp) e3),hA c hcA]
end
theorem UQ {F:Nat->Int} : ∀ {rows:List (List Int)} {off:List Int} {q:List Nat},rows.length=q.length->off.length=q.length->(∀ (k c:Nat) (x:List Int) (o:Int),rows[k]?=some x->off[k]?=some o->q[k]?=some c->x.getD c 0=o+F c)->Zr rows (Ze q)=Zi off+Zi (q.map F)
 | [],off,q,h1,h2,_=>by
  have:q=[]:=List.eq_nil_of_length_eq_zero (by simpa using h1.symm);subst this;have:off=[]:=List.eq_nil_of_length_eq_zero (by simpa using h2);subst this;simp[Zi,Zr,Ze]
 | r::rows,[],q,h1,h2,_=>by
  exfalso
  simp at h1 h2;omega
 | r::rows,o::off,[],h1,_,_=>by simp at h1
 | r::rows,o::off,c::q,h1,h2,h=>by
  have h3:=h 0 c r o rfl rfl rfl;have ih:=UQ (F:=F) (rows:=rows) (off:=off) (q:=q) (by simpa using h1) (by simpa using h2) fun k c x o a b d=>h (k+1) c x o a b d
  simp only[Ze,List.map_cons,Zi,Zr] at ih ⊢;rw[Int.toNat_natCast];omega
theorem Zec {n:Nat}{rows:List (List Int)}{u v:Nat->Int}{has:Nat->Nat}{x:List Nat}(hr:rows.length=n)(h:HI n (fun i c=>(rows.getD (i-1) []).getD (c-1) 0) n u v has)(hx:x.length=n)(hxc:∀ c,1<=c->c<=n->x[has c-1]?=some (c-1)) :
  x.Perm (List.range n)/\∀ q:List Nat,q.Perm (List.range n)->Zr rows (Ze x)<=Zr rows (Ze q):=by
 have at':∀ i,i<n->∃ c,1<=c/\c<=n/\has c=i+1/\x[i]?=some (c-1):=fun i hi=>by
  obtain⟨c,k1,k2,k3⟩:=h.all (i+1) (by omega) (by omega);have:=hxc c k1 k2;rw[k3,Nat.add_sub_cancel] at this;exact⟨c,k1,k2,k3,this⟩
 have hperm:x.Perm (List.range n):=by
  have hd:x.Nodup:=by
   refine List.pairwise_iff_getElem.2 fun i j hi hj hij e=>?_
   obtain⟨c,k1,k2,k3,k4⟩:=at' i (by omega);obtain⟨d,m1,m2,m3,m4⟩:=at' j (by omega);rw[List.getElem?_eq_getElem hi] at k4;rw[List.getElem?_eq_getElem hj] at m4;have e1:=Option.some.inj k4;have e2:=Option.some.inj m4;have:c=d:=by omega
   subst this;omega
  refine(List.perm_ext_iff_of_nodup hd List.nodup_range).2 fun y=>?_
  rw[List.mem_range]
  constructor
  ·intro hy
   obtain⟨i,hi,rfl⟩:=List.mem_iff_getElem.1 hy;obtain⟨c,k1,k2,k3,k4⟩:=at' i (by omega);rw[List.getElem?_eq_getElem hi] at k4;have:=Option.some.inj k4;omega
  ·intro hy
   have hne:has (y+1)≠0:=by
    intro e0;have hl:=W8 (l:=(List.range n).map fun i=>x.getD i 0) (n:=n) ?_ ?_
    ·have hs:y∈x:=by
      cases hd2:decide (y∈x) with
      | true=>exact of_decide_eq_true hd2
      | false =>
       exfalso
       have hny:=of_decide_eq_false hd2;have h2:=W8 (l:=y::x) (n:=n) (List.nodup_cons.2 ⟨hny,hd⟩) ?_
       ·rw[List.length_cons,hx] at h2
        omega
       ·intro z hz
        rcases List.mem_cons.1 hz with rfl | hz
        ·exact hy
        ·obtain⟨i,hi,rfl⟩:=List.mem_iff_getElem.1 hz
         obtain⟨c,k1,k2,k3,k4⟩:=at' i (by omega);rw[List.getElem?_eq_getElem hi] at k4;have:=Option.some.inj k4;omega
     obtain⟨i,hi,e⟩:=List.mem_iff_getElem.1 hs;obtain⟨c,k1,k2,k3,k4⟩:=at' i (by omega);rw[List.getElem?_eq_getElem hi,e] at k4;have:=Option.some.inj k4;have e5:c=y+1:=by omega
     subst e5;omega
    ·refine List.pairwise_map.2 (List.Pairwise.imp_of_mem ?_ List.nodup_range)
     intro i j hi hj hij e;have hi:=List.mem_range.1 hi;have hj:=List.mem_range.1 hj;obtain⟨c,k1,k2,k3,k4⟩:=at' i hi;obtain⟨d,m1,m2,m3,m4⟩:=at' j hj;rw[getD_some k4,getD_some m4] at e;have:c=d:=by omega
     subst this;omega
    ·intro z hz
     obtain⟨i,hi,rfl⟩:=List.mem_map.1 hz;obtain⟨c,k1,k2,k3,k4⟩:=at' i (List.mem_range.1 hi);rw[getD_some k4];omega
   have:=hxc (y+1) (by omega) (by omega);rw[Nat.add_sub_cancel] at this;exact List.mem_of_getElem? this
 refine⟨hperm,fun q hq=>?_⟩;have hoff:∀ k,((List.range n).map fun i=>u (i+1))[k]?=if k<n then some (u (k+1)) else none:=fun k=>by
  rw[List.getElem?_map]
  by_cases hk:k<n
  ·rw[List.getElem?_range hk,if_pos hk];rfl
  ·rw[List.getElem?_eq_none (by simp;omega),if_neg hk];rfl
 have hge:=Qj (F:=fun c=>v (c+1)) (rows:=rows) (off:=(List.range n).map fun i=>u (i+1)) (q:=q) (by rw[hr,hq.length_eq,List.length_range]) (by simp[hq.length_eq]) fun k c r o h1 h2 h3=>by
  have hk:k<n:=by rw[<-hr];exact(List.getElem?_eq_some_iff.1 h1).1
  rw[hoff,if_pos hk] at h2;obtain rfl:=Option.some.inj h2;have hc:c<n:=List.mem_range.1 (hq.mem_iff.1 (List.mem_of_getElem? h3));have:=h.slack (k+1) (c+1) (by omega) (by omega) (by omega) (by omega);simp only[Nat.add_sub_cancel] at this;rw[show rows.getD k []=r from getD_some h1] at this;exact this
 have hle:Zr rows (Ze x)=Zi ((List.range n).map fun i=>u (i+1))+Zi (x.map fun c=>v (c+1)):=by
  refine UQ (by rw[hr,hx]) (by simp[hx]) fun k c r o h1 h2 h3=>?_
  have hk:k<n:=by rw[<-hr];exact(List.getElem?_eq_some_iff.1 h1).1
  rw[hoff,if_pos hk] at h2;obtain rfl:=Option.some.inj h2;obtain⟨d,k1,k2,k3,k4⟩:=at' k hk;rw[h3] at k4;have e:c=d-1:=Option.some.inj k4;subst e;have:=h.tight d k1 k2 (by omega);rw[k3] at this;simp only[Nat.add_sub_cancel] at this;rw[show rows.getD k []=r from getD_some h1] at this;rw[show d-1+1=d by omega];exact this
 have e:=Yz ((hperm.trans hq.symm).map fun c=>v (c+1));omega
end Go.Proofs.YtmojhhlcocjoaaaGreatDoor
namespace Go.Proofs.YtmojhhlcocjoaaaGreatDoor
structure LookR (n:Nat)(far:Int)(sl:Nat->Int)(S:Nat->Bool)(a:Nat)(least least':Nat->Int)(frm frm':Nat->Nat)(k next:Nat)(step:Int) : Prop where
 done:∀ c,1<=c->c<k->S c=false->(sl c<least c/\least' c=sl c/\frm' c=a)\/(least c<=sl c/\least' c=least c/\frm' c=frm c)
 keep:∀ c,c<1\/k<=c\/S c=true->least' c=least c/\frm' c=frm c
 best:(step=far/\next=0/\∀ c,1<=c->c<k->S c=true)\/(1<=next/\next<k/\S next=false/\step=least' next/\∀ c,1<=c->c<k->S c=false->step<=least' c)
section
variable {n:Nat} {far:Int} {sl:Nat->Int} {S:Nat->Bool} {a:Nat} {least least':Nat->Int} {frm frm':Nat->Nat} {k next:Nat} {step:Int}
theorem LookR.start : LookR n far sl S a least least frm frm 1 0 far :=
 ⟨fun c h1 h2=>by omega,fun _ _=>⟨rfl,rfl⟩,.inl ⟨rfl,rfl,fun c h1 h2=>by omega⟩⟩
theorem LookR.skip (h:LookR n far sl S a least least' frm frm' k next step)(hs:S k=true) : LookR n far sl S a least least' frm frm' (k+1) next step:=by
 have lt:∀ c,c<k+1->c≠k->c<k:=fun c h1 h2=>by omega
 refine⟨fun c h1 h2 h3=>?_,fun c hc=>?_,?_⟩
 ·refine h.done c h1 (lt c h2 ?_) h3
  rintro rfl;rw[hs] at h3
  cases h3
 ·refine h.keep c ?_
  rcases hc with hc | hc | hc
  ·exact .inl hc
  ·exact .inr (.inl (by omega))
  ·exact .inr (.inr hc)
 ·rcases h.best with⟨b1,b2,b3⟩ | ⟨b1,b2,b3,b4,b5⟩
  ·refine .inl ⟨b1,b2,fun c h1 h2=>?_⟩
   by_cases e:c=k
   ·rw[e];exact hs
   ·exact b3 c h1 (lt c h2 e)
  ·refine .inr ⟨b1,by omega,b3,b4,fun c h1 h2 h3=>b5 c h1 (lt c h2 ?_) h3⟩
   rintro rfl;rw[hs] at h3
   cases h3
theorem LookR.look {l2:Nat->Int}{f2:Nat->Nat}{x:Int}(h:LookR n far sl S a least least' frm frm' k next step)(hs:S k=false)(k1:1<=k)(hx:(sl k<least k/\x=sl k/\f2 k=a)\/(least k<=sl k/\x=least k/\f2 k=frm k))
  (hl:∀ c,l2 c=if c=k then x else least' c) (hf:∀ c,c≠k->f2 c=frm' c) (hfar:x<far) :
  (x<step->LookR n far sl S a least l2 frm f2 (k+1) k x)/\(step<=x->LookR n far sl S a least l2 frm f2 (k+1) next step):=by
 have d:∀ c,1<=c->c<k+1->S c=false->(sl c<least c/\l2 c=sl c/\f2 c=a)\/(least c<=sl c/\l2 c=least c/\f2 c=frm c):=fun c h1 h2 h3=>by
  by_cases e:c=k
  ·subst e
   rw[hl,if_pos rfl];exact hx
  ·rw[hl,if_neg e,hf c e]
   exact h.done c h1 (by omega) h3
 have kp:∀ c,c<1\/k+1<=c\/S c=true->l2 c=least c/\f2 c=frm c:=fun c hc=>by
  have e:c≠k:=by
   rintro rfl;rcases hc with hc | hc | hc
   ·omega
   ·omega
   ·rw[hs] at hc
    cases hc
  rw[hl,if_neg e,hf c e];refine h.keep c ?_;rcases hc with hc | hc | hc
  ·exact .inl hc
  ·exact .inr (.inl (by omega))
  ·exact .inr (.inr hc)
 have ek:l2 k=x:=by rw[hl,if_pos rfl]
 refine⟨fun hlt=>⟨d,kp,.inr ⟨k1,by omega,hs,ek.symm,fun c h1 h2 h3=>?_⟩⟩,fun hle=>⟨d,kp,?_⟩⟩
 ·by_cases e:c=k
  ·subst e;omega
  ·rw[hl,if_neg e]
   rcases h.best with⟨b1,b2,b3⟩ | ⟨b1,b2,b3,b4,b5⟩
   ·rw[b3 c h1 (by omega)] at h3
    cases h3
   ·have:=b5 c h1 (by omega) h3
    omega
 ·rcases h.best with⟨b1,b2,b3⟩ | ⟨b1,b2,b3,b4,b5⟩
  ·omega
  ·refine .inr ⟨b1,by omega,b3,?_,fun c h1 h2 h3=>?_⟩
   ·rw[hl,if_neg (by omega)]
    exact b4
   ·by_cases e:c=k
    ·subst e;omega
    ·rw[hl,if_neg e]
     exact b5 c h1 (by omega) h3
end
structure TurnR (S:Nat->Bool)(has:Nat->Nat)(step:Int)(u v least u' v' least':Nat->Int)(k:Nat) : Prop where
 u:∀ i,u' i=if ∃ s,s<k/\S s=true/\has s=i then u i+step else u i
 v:∀ c,1<=c->v' c=if c<k/\S c=true then v c-step else v c
 l:∀ c,least' c=if c<k/\S c=false then least c-step else least c
section
variable {S:Nat->Bool} {has:Nat->Nat} {step:Int} {u v least u' v' least':Nat->Int} {k:Nat}
theorem TurnR.start : TurnR S has step u v least u v least 0 :=
 ⟨fun i=>by rw[if_neg];rintro ⟨s,h,_⟩;omega,fun c _=>by rw[if_neg (by omega)],fun c=>by rw[if_neg (by omega)]⟩
theorem TurnR.seen {v2:Nat->Int}(h:TurnR S has step u v least u' v' least' k)(hs:S k=true)(inj:∀ s,s<k->S s=true->has s≠has k)(h2:∀ c,1<=c->v2 c=if c=k then v' k-step else v' c) :
  u' (has k)=u (has k)/\(1<=k->v' k=v k)/\TurnR S has step u v least (fun i=>if i=has k then u' (has k)+step else u' i) v2 least' (k+1):=by
 have e1:u' (has k)=u (has k):=by
  rw[h.u,if_neg];rintro ⟨s,a,b,c⟩;exact inj s a b c
 refine⟨e1,fun h1=>by rw[h.v k h1,if_neg (by omega)],⟨fun i=>?_,fun c hc=>?_,fun c=>?_⟩⟩
 ·by_cases e:i=has k
  ·rw[if_pos e,e1,if_pos ⟨k,by omega,hs,e.symm⟩,e]
  ·rw[if_neg e,h.u]
   by_cases hx:∃ s,s<k/\S s=true/\has s=i
   ·obtain⟨s,a,b,c⟩:=hx
    rw[if_pos ⟨s,a,b,c⟩,if_pos ⟨s,by omega,b,c⟩]
   ·rw[if_neg hx,if_neg]
    rintro ⟨s,a,b,c⟩
    by_cases e2:s=k
    ·subst e2;exact e c.symm
    ·exact hx ⟨s,by omega,b,c⟩
 ·rw[h2 c hc]
  by_cases e:c=k
  ·subst e
   rw[if_pos rfl,if_pos ⟨by omega,hs⟩,h.v c hc,if_neg (by omega)]
  ·rw[if_neg e,h.v c hc]
   by_cases h3:c<k/\S c=true
   ·rw[if_pos h3,if_pos ⟨by omega,h3.2⟩]
   ·rw[if_neg h3,if_neg]
    rintro ⟨a,b⟩;exact h3 ⟨by omega,b⟩
 ·rw[h.l]
  by_cases e:c=k
  ·subst e
   rw[if_neg (by omega),if_neg];rintro ⟨_,b⟩;rw[hs] at b
   cases b
  ·by_cases h3:c<k/\S c=false
   ·rw[if_pos h3,if_pos ⟨by omega,h3.2⟩]
   ·rw[if_neg h3,if_neg]
    rintro ⟨a,b⟩;exact h3 ⟨by omega,b⟩
theorem TurnR.unseen (h:TurnR S has step u v least u' v' least' k)(hs:S k=false) :
  least' k=least k/\TurnR S has step u v least u' v' (fun c=>if c=k then least' k-step else least' c) (k+1):=by
 have e1:least' k=least k:=by rw[h.l,if_neg (by omega)]
 refine⟨e1,⟨fun i=>?_,fun c hc=>?_,fun c=>?_⟩⟩
 ·rw[h.u]
  by_cases hx:∃ s,s<k/\S s=true/\has s=i
  ·obtain⟨s,a,b,c⟩:=hx
   rw[if_pos ⟨s,a,b,c⟩,if_pos ⟨s,by omega,b,c⟩]
  ·rw[if_neg hx,if_neg]
   rintro ⟨s,a,b,c⟩
   by_cases e2:s=k
   ·subst e2
    rw[hs] at b
    cases b
   ·exact hx ⟨s,by omega,b,c⟩
 ·rw[h.v c hc]
  by_cases h3:c<k/\S c=true
  ·rw[if_pos h3,if_pos ⟨by omega,h3.2⟩]
  ·rw[if_neg h3,if_neg]
   rintro ⟨a,b⟩
   by_cases e:c=k
   ·subst e
    rw[hs] at b
    cases b
   ·exact h3 ⟨by omega,b⟩
 ·by_cases e:c=k
  ·subst e
   rw[if_pos rfl,e1,if_pos ⟨by omega,hs⟩]
  ·rw[if_neg e,h.l]
   by_cases h3:c<k/\S c=false
   ·rw[if_pos h3,if_pos ⟨by omega,h3.2⟩]
   ·rw[if_neg h3,if_neg]
    rintro ⟨a,b⟩;exact h3 ⟨by omega,b⟩
end
def ZaO (w:World)(g:Nat) : Nat:=match w.heap[g]? with
 | some (.cells cs _ _)=>cs.toList.countP fun v=>match v with | .bool b => !b | _=>false
 | _=>0
theorem ArrB.left {w:World}{g n:Nat}{S:Nat->Bool}(h:ArrB w g n S) : ZaO w g=(List.range n).countP fun i => !S i:=by
 unfold ArrB Blk at h;unfold ZaO;rw[h];simp only[List.countP_map]
 rfl
theorem UR {α:Type}{p q:α->Bool}{a:α} : ∀ {l:List α},a∈l->p a=true->q a=false->(∀ x,q x=true->p x=true)->l.countP q<l.countP p
 | [],h,_,_,_=>by cases h
 | x::l,h,hp,hq,hs=>by
  have hle:l.countP q<=l.countP p:=List.countP_mono_left fun y _ hy=>hs y hy
  rw[List.countP_cons,List.countP_cons];rcases List.mem_cons.1 h with rfl | h
  ·rw[hp,hq]
   simp;omega
  ·have ih:=UR h hp hq hs
   have:(if q x=true then 1 else 0)<=(if p x=true then 1 else 0):=by
    cases hqx:q x
    ·simp
    ·rw[hs x hqx]
     simp
   omega
theorem Zc7 {n a:Nat}{S S':Nat->Bool}(ha:a<n)(h1:S a=false)(h2:∀ i,S' i=if i=a then true else S i) : ((List.range n).countP fun i => !S' i)<(List.range n).countP fun i => !S i:=by
 refine UR (a:=a) (List.mem_range.2 ha) (by simp[h1]) (by simp[h2]) fun x hx=>?_
 rw[h2] at hx;split at hx
 ·simp at hx
 ·exact hx
end Go.Proofs.YtmojhhlcocjoaaaGreatDoor
namespace Go.Proofs.YtmojhhlcocjoaaaGreatDoor
open Go.RowKit Go.ChangeShapes Go.WideShapes Go.ChangeAt Go.Deep
def PB (w:World)(gp:Nat)(D:Option Addr)(d n N gu gv gh gf:Nat) : Prop :=
 Blk w gp 131 #[.slice D n d,.slice (some ⟨gu,0,none⟩) N N,.slice (some ⟨gv,0,none⟩) N N,.slice (some ⟨gh,0,none⟩) N N,.slice (some ⟨gf,0,none⟩) N N]
theorem Zc8 {w:World}{gp d n N gu gv gh gf:Nat}{D:Option Addr}{rows:List (List Int)}{u v:Nat->Int}(hP:PB w gp D d n N gu gv gh gf)(hu:Arr w gu N u)(hv:Arr w gv N v)
  (hC:RdE 1 RInts w D rows) (rok:RowsOk rows) (hn:rows.length=n) (hN:N=n+1) {r c:Nat} (r1:1<=r) (r2:r<=n) (c1:1<=c) (c2:c<=n) (bu:0<=u r/\u r<=2147483647) (bv:-2147483647<=v c/\v c<=0) :
  Calls Tryz.prog 135 #[.pointer (some ⟨gp,0,none⟩),.int .i64 r,.int .i64 c] w fun e w'=>e=.returned (.int .i64 (Zb rows (r-1) (c-1)-u r-v c))/\Ext w w':=by
 subst hn;obtain⟨rp,hrp⟩:∃ rp,Hid (r-1=rp):=⟨_,rfl⟩;obtain⟨cp,hcp⟩:∃ cp,Hid (c-1=cp):=⟨_,rfl⟩;rw[hrp.out,hcp.out];have e1:(r:Int)-1=(rp:Int):=by rw[<-hrp.out];omega
 have e2:(c:Int)-1=(cp:Int):=by rw[<-hcp.out];omega
 have w1:IntKind.i64.wrap ((r:Int)-1)=(rp:Int):=by rw[e1];exact IntWalk.i64_in _ (by have:=rok.n2;omega)
 have w2:IntKind.i64.wrap ((c:Int)-1)=(cp:Int):=by rw[e2];exact IntWalk.i64_in _ (by have:=rok.n2;omega)
 have z1:rp<rows.length:=by rw[<-hrp.out];omega
 have z2:cp<rows.length:=by rw[<-hcp.out];omega
 obtain⟨cb,cof,rb,ro,d',rfl,k1,k2⟩:=Ww rok hC z1 z2;have bc:=Xe rok rp cp z1 z2;have ku:=hu.cell (k:=r) (by omega);have kv:=hv.cell (k:=c) (by omega);generalize Zb rows rp cp=x at *;generalize u r=ur at *;generalize v c=vc at *;have p0:=hP.c0;have p1:=hP.c1;have p2:=hP.c2;have w3:IntKind.i64.wrap (x-ur)=x-ur:=IntWalk.i64_in _ (by omega);have w4:IntKind.i64.wrap (x-ur-vc)=x-ur-vc:=IntWalk.i64_in _ (by omega);have q1:(r:Int)<(N:Int):=by omega
 have q2:(c:Int)<(N:Int):=by omega
 have q3:(rp:Int)<(rows.length:Int):=by omega
 have q4:(cp:Int)<(rows.length:Int):=by omega
 replace hN:=Hd hN;clear hP hu hv hC rok e1 e2 bu bv bc;go_enter Tryz.func135,Tryz.ntmps135;go_wp2_with (fail);go_quiet (fail);go_wp2_with (fail);go_ret;exact⟨rfl,by(repeat (first | assumption | exact Ext.rf _ | apply Ext.drew | apply Ext.drewN | apply Ext.alloc))⟩
def PS (gu gv gh gf:Nat)(k:Nat) : Prop:=k=gu\/k=gv\/k=gh\/k=gf
theorem Zed {w:World}{gp d n N R gu gv gh gf:Nat}{D:Option Addr}{cst:Nat->Nat->Int}{far:Int}{has frm:Nat->Nat}{L:List Nat}{a:Nat}{u v least:Nat->Int}
  (hP:PB w gp D d n N gu gv gh gf) (hh:Arr w gh N fun c=>(has c:Int)) (hf:Arr w gf N fun c=>(frm c:Int)) (hne:gh≠gf) (hN:N=n+1) (hn:n<=1000)
  (hG:GI n cst far R has L a u v least frm) (ho:HasOk n R has) (ha:has a=0) :
  Calls Tryz.prog 81 #[.pointer (some ⟨gp,0,none⟩),.int .i64 a] w fun e w'=>e=.returned (.tuple #[])/\(∃ hs,Arr w' gh N (fun c=>(hs c:Int))/\HI n cst R u v hs)/\Mod (fun k=>k=gh) w w':=by
 have hgp:gp≠gh:=fun e=>hh.ne hP (by decide) e.symm
 have T0:=hG.turn ho ha;have B0:BackI n has (L++[a]) has a:=⟨⟨L,[],by simp,fun _ _=>rfl⟩⟩;have la:a<=n:=hG.le a (by simp);replace hG:=Hd hG;replace ho:=Hd ho;replace T0:=Hd T0;replace B0:=Hd B0;replace hP:=Hd hP;replace hh:=Hd hh;replace hf:=Hd hf;replace hN:=Hd hN;clear ha;go_enter Tryz.func81,Tryz.ntmps81;go_wp2_with (fail);go_loopw [1] (fun v1 wr=>∃ (hole:Nat) (hs:Nat->Nat),v1=.int .i64 hole/\hole<=n/\Hid (Arr wr gh N (fun c=>(hs c:Int))/\TI n cst R u v hs hole/\BackI n has (L++[a]) hs hole)/\Hid (Mod (fun k=>k=gh) w wr)) (fun v1 _=>(L++[a]).idxOf (intOf v1).toNat)
 case atStart=>exact⟨a,has,rfl,la,⟨hh.out,T0.out,B0.out⟩,Mod.rf _⟩
 case round =>
  obtain⟨wo,rfl⟩:∃ wo:World,wo=wr:=⟨_,rfl⟩;obtain⟨hole,hs,rfl,hle,HH,HM⟩:=hrel
  by_cases h0:hole=0
  ·subst h0
   go_wp2_with (fail);go_end0;exact⟨rfl,⟨hs,HH.out.1,HH.out.2.1.done hG.out.slack hG.out.neg hG.out.pos hG.out.fresh⟩,HM.out⟩
  ·obtain⟨HA,HT,HB⟩:=HH.out
   obtain⟨f1,f2,f3,A,B,f4,f5⟩:=hG.out.back ho.out HB HT h0 (has':=fun c=>if c=hole then hs (frm hole) else hs c) (fun c=>rfl);have hP1:PB wo gp D d n N gu gv gh gf:=hP.out.mod HM.out hgp;have hF1:=hf.out.mod HM.out (fun e=>hne e.symm);have kf:=hF1.cell (k:=hole) (by have:=hN.out;omega);have kh:=HA.cell (k:=frm hole) (by have:=hN.out;omega);have fh:=HA.free hole;have S1:=HA.set hole (hs (frm hole):Int);have p3:=hP1.c3;have p4:=hP1.c4;have kh0:=HA.cell (k:=hole) (by have:=hN.out;omega);have S1':Arr (wo.setCell ⟨gh,hole,none⟩ (.int .i64 (hs (frm hole)))) gh N (fun c=>((if c=hole then hs (frm hole) else hs c:Nat):Int)):=S1.congr fun i _=>by split<;>rfl
   have FIN:=Hd (And.intro S1' (And.intro f2 f3));have MM:Hid (Mod (fun k=>k=gh) w (wo.setCell ⟨gh,hole,none⟩ (.int .i64 (hs (frm hole))))):=HM.out.set (p:=⟨gh,hole,none⟩) (.inl rfl) _;have ML:Hid ((L++[a]).idxOf (frm hole)<(L++[a]).idxOf hole):=by
    have nd:=hG.out.nodup;have h:(L++[a]).idxOf (frm hole)<(L++[a]).idxOf hole:=by
     rw[f4] at nd ⊢;have h1:hole∉A:=fun hm=>(List.nodup_append.1 nd).2.2 hole hm hole (by simp) rfl
     rw[List.idxOf_append,if_pos f5,List.idxOf_append,if_neg h1];have:=List.idxOf_lt_length_of_mem f5;omega
    exact h
   have q0:((hole:Int) != 0)=true:=by simp;omega
   have q1:(hole:Int)<(N:Int):=by have:=hN.out;omega
   have q2:((frm hole:Nat):Int)<(N:Int):=by have:=hN.out;omega
   clear HA HT HB hF1 hP1 S1 S1' f2 f3 f4 f5 HH HM;replace f1:=Hd f1;generalize frm hole=p at *;generalize hs p=x at *;go_wp2_with (fail);refine wp_region_any (by kernel_rfl) ?_
   change wpAny _ _ _ _ _ _ _ (World.drew _)
   refine Za (i:=0) (op:=Op.move (Operand.tmp 0)) (t:=129) (d:=some 14) (v:=?_) rfl (by decide +kernel) (by decide +kernel) (by decide +kernel) (fun _ _ _ h=>h) ?_ ?_
   case refine_2=>(intro _;unfold Zd;go_simp;try with_reducible rfl)
   try simp only[lay]
   refine Za (i:=1) (op:=Op.nilCheck (Operand.tmp 14)) (t:=0) (d:=some 15) (v:=?_) rfl (by decide +kernel) (by decide +kernel) (by decide +kernel) (fun _ _ _ h=>h) ?_ ?_
   case refine_2=>(intro _;unfold Zd;go_simp;try with_reducible rfl)
   try simp only[lay]
   refine Za (i:=2) (op:=Op.fieldAddr 131 (Operand.tmp 15) 3) (t:=0) (d:=some 16) (v:=?_) rfl (by decide +kernel) (by decide +kernel) (by decide +kernel) (fun _ _ _ h=>h) ?_ ?_
   case refine_2=>(intro _;unfold Zd;go_simp;try with_reducible rfl)
   try simp only[lay]
   refine Za (i:=4) (op:=Op.move (Operand.tmp 1)) (t:=3) (d:=some 18) (v:=?_) rfl (by decide +kernel) (by decide +kernel) (by decide +kernel) (fun _ _ _ h=>h) ?_ ?_
   case refine_2=>(intro _;unfold Zd;go_simp;try with_reducible rfl)
   try simp only[lay]
   refine Za (i:=5) (op:=Op.move (Operand.tmp 0)) (t:=129) (d:=some 19) (v:=?_) rfl (by decide +kernel) (by decide +kernel) (by decide +kernel) (fun _ _ _ h=>h) ?_ ?_
   case refine_2=>(intro _;unfold Zd;go_simp;try with_reducible rfl)
   try simp only[lay]
   refine Za (i:=6) (op:=Op.nilCheck (Operand.tmp 19)) (t:=0) (d:=some 20) (v:=?_) rfl (by decide +kernel) (by decide +kernel) (by decide +kernel) (fun _ _ _ h=>h) ?_ ?_
   case refine_2=>(intro _;unfold Zd;go_simp;try with_reducible rfl)
   try simp only[lay]
   refine Za (i:=7) (op:=Op.fieldAddr 131 (Operand.tmp 20) 3) (t:=0) (d:=some 21) (v:=?_) rfl (by decide +kernel) (by decide +kernel) (by decide +kernel) (fun _ _ _ h=>h) ?_ ?_
   case refine_2=>(intro _;unfold Zd;go_simp;try with_reducible rfl)
   try simp only[lay]
   refine Za (i:=9) (op:=Op.move (Operand.tmp 4)) (t:=3) (d:=some 23) (v:=?_) rfl (by decide +kernel) (by decide +kernel) (by decide +kernel) (fun _ _ _ h=>h) ?_ ?_
   case refine_2=>(intro _;unfold Zd;go_simp;try with_reducible rfl)
   try simp only[lay]
   refine Yx (n:=2) [(3,some 17),(8,some 22),(10,some 24),(11,some 25)] (fun | 3=>.slice (some ⟨gh,0,none⟩) N N | 8=>.slice (some ⟨gh,0,none⟩) N N | 10=>.pointer (some ⟨gh,p,none⟩) | 11=>.int .i64 x | _=>undef) #[true,true,true,true,true,true,true,true,true,true,true,true,false,false] (by decide +kernel) ?_ ?_
   ·intro pS hpm uS hD K hK
    simp only[List.mem_cons,List.not_mem_nil,or_false] at hpm;rcases hpm with rfl | rfl | rfl | rfl
    ·exact Zo (T:=22) (x:=Operand.tmp 16) (t:=22) (d:=some 17) rfl (.pointer (some ⟨gp,3,none⟩)) (by kernel_rfl) (.slice (some ⟨gh,0,none⟩) N N) (by go_simp) hK
    ·exact Zo (T:=22) (x:=Operand.tmp 21) (t:=22) (d:=some 22) rfl (.pointer (some ⟨gp,3,none⟩)) (by kernel_rfl) (.slice (some ⟨gh,0,none⟩) N N) (by go_simp) hK
    ·exact ZU (T:=22) (x:=Operand.tmp 22) (y:=Operand.tmp 23) (t:=0) (d:=some 24) rfl (.slice (some ⟨gh,0,none⟩) N N) (.int .i64 p) (Eq.trans (b:=uS 8) (by kernel_rfl) (hD 8 (Zm (by kernel_rfl)))) (by kernel_rfl) (.pointer (some ⟨gh,p,none⟩)) (by go_simp) hK
    ·exact Zo (T:=3) (x:=Operand.tmp 24) (t:=3) (d:=some 25) rfl (.pointer (some ⟨gh,p,none⟩)) (Eq.trans (b:=uS 10) (by kernel_rfl) (hD 10 (Zm (by kernel_rfl)))) (.int .i64 x) (by go_simp) hK
   simp only[Zj,Act.put,List.setIfInBounds_toArray,List.set_cons_zero,List.set_cons_succ];refine Za (i:=12) (op:=Op.indexAddr 22 (Operand.tmp 17) (Operand.tmp 18)) (t:=0) (d:=some 26) (v:=?_) rfl (by decide +kernel) (by decide +kernel) (by decide +kernel) (fun _ _ _ h=>h) ?_ ?_
   case refine_2=>(intro _;unfold Zd;go_simp;try with_reducible rfl)
   try simp only[lay]
   refine Zh 13 (by decide +kernel) (Yo rfl (.pointer (some ⟨gh,hole,none⟩)) (.int .i64 x) (by kernel_rfl) (by kernel_rfl) (by go_simp;rfl) ?_);refine wpAny_done (by kernel_rfl) ?_ _;clear kf kh kh0 fh p3 p4;generalize wo.setCell ⟨gh,hole,none⟩ (.int .i64 x)=w4 at *;go_wp2_with (fail);go_roundw
   case rel=>exact⟨p,_,rfl,f1.out,⟨FIN.out.1.ext ((Ext.rf _).drew),FIN.out.2.1,FIN.out.2.2⟩,MM.out.drew⟩
   case measure=>exact ML.out
def Va (rows:List (List Int))(i c:Nat) : Int:=Zb rows (i-1) (c-1)
abbrev VI : Int:=1152921504606846976
structure GrowS (w wr:World)(gu gv gh gf gl gs N:Nat)(has:Nat->Nat)(u v least:Nat->Int)(frm:Nat->Nat)(S:Nat->Bool) : Prop where
 u:Arr wr gu N u
 v:Arr wr gv N v
 h:Arr wr gh N fun c=>(has c:Int)
 f:Arr wr gf N fun c=>(frm c:Int)
 l:Arr wr gl N least
 s:ArrB wr gs N S
 m:Mod (PS gu gv gh gf) w wr
def ApartH (w:World)(gu gv gh gf gl gs:Nat) : Prop:=[gu,gv,gh,gf,gl,gs].Nodup/\w.heap.size<=gl/\w.heap.size<=gs
section
variable {w wr w':World} {gu gv gh gf gl gs N:Nat} {has:Nat->Nat} {u v least:Nat->Int} {frm:Nat->Nat} {S:Nat->Bool}
theorem GrowS.ext (h:GrowS w wr gu gv gh gf gl gs N has u v least frm S)(x:Ext wr w') : GrowS w w' gu gv gh gf gl gs N has u v least frm S :=
 ⟨h.u.ext x,h.v.ext x,h.h.ext x,h.f.ext x,h.l.ext x,h.s.ext x,h.m.ext x⟩
theorem ApartH.ne (h:ApartH w gu gv gh gf gl gs) : (gu≠gv/\gu≠gh/\gu≠gf/\gu≠gl/\gu≠gs)/\(gv≠gh/\gv≠gf/\gv≠gl/\gv≠gs)/\(gh≠gf/\gh≠gl/\gh≠gs)/\(gf≠gl/\gf≠gs)/\gl≠gs:=by
 have:=h.1;simp only[List.nodup_cons,List.mem_cons,List.not_mem_nil,or_false,not_or] at this;obtain⟨⟨a1,a2,a3,a4,a5⟩,⟨b1,b2,b3,b4⟩,⟨c1,c2,c3⟩,⟨d1,d2⟩,e1,-⟩:=this;exact⟨⟨a1,a2,a3,a4,a5⟩,⟨b1,b2,b3,b4⟩,⟨c1,c2,c3⟩,⟨d1,d2⟩,e1⟩
theorem GrowS.setU (h:GrowS w wr gu gv gh gf gl gs N has u v least frm S)(d:ApartH w gu gv gh gf gl gs)(k:Nat)(x:Int) : GrowS w (wr.setCell ⟨gu,k,none⟩ (.int .i64 x)) gu gv gh gf gl gs N has (fun i=>if i=k then x else u i) v least frm S:=by
 obtain⟨⟨a1,a2,a3,a4,a5⟩,⟨b1,b2,b3,b4⟩,⟨c1,c2,c3⟩,⟨d1,d2⟩,e1⟩:=d.ne;exact⟨h.u.set k x,h.v.far a1.symm _,h.h.far a2.symm _,h.f.far a3.symm _,h.l.far a4.symm _,h.s.far a5.symm _,h.m.set (p:=⟨gu,k,none⟩) (.inl (.inl rfl)) _⟩
theorem GrowS.setV (h:GrowS w wr gu gv gh gf gl gs N has u v least frm S)(d:ApartH w gu gv gh gf gl gs)(k:Nat)(x:Int) : GrowS w (wr.setCell ⟨gv,k,none⟩ (.int .i64 x)) gu gv gh gf gl gs N has u (fun i=>if i=k then x else v i) least frm S:=by
 obtain⟨⟨a1,a2,a3,a4,a5⟩,⟨b1,b2,b3,b4⟩,⟨c1,c2,c3⟩,⟨d1,d2⟩,e1⟩:=d.ne;exact⟨h.u.far a1 _,h.v.set k x,h.h.far b1.symm _,h.f.far b2.symm _,h.l.far b3.symm _,h.s.far b4.symm _,h.m.set (p:=⟨gv,k,none⟩) (.inl (.inr (.inl rfl))) _⟩
theorem GrowS.setF (h:GrowS w wr gu gv gh gf gl gs N has u v least frm S)(d:ApartH w gu gv gh gf gl gs)(k:Nat)(x:Nat) : GrowS w (wr.setCell ⟨gf,k,none⟩ (.int .i64 x)) gu gv gh gf gl gs N has u v least (fun i=>if i=k then x else frm i) S:=by
 obtain⟨⟨a1,a2,a3,a4,a5⟩,⟨b1,b2,b3,b4⟩,⟨c1,c2,c3⟩,⟨d1,d2⟩,e1⟩:=d.ne;exact⟨h.u.far a3 _,h.v.far b2 _,h.h.far c1 _,(h.f.set k x).congr fun i _=>by split<;>rfl,h.l.far d1.symm _,h.s.far d2.symm _,h.m.set (p:=⟨gf,k,none⟩) (.inl (.inr (.inr (.inr rfl)))) _⟩
theorem GrowS.setL (h:GrowS w wr gu gv gh gf gl gs N has u v least frm S)(d:ApartH w gu gv gh gf gl gs)(k:Nat)(x:Int) : GrowS w (wr.setCell ⟨gl,k,none⟩ (.int .i64 x)) gu gv gh gf gl gs N has u v (fun i=>if i=k then x else least i) frm S:=by
 obtain⟨⟨a1,a2,a3,a4,a5⟩,⟨b1,b2,b3,b4⟩,⟨c1,c2,c3⟩,⟨d1,d2⟩,e1⟩:=d.ne;exact⟨h.u.far a4 _,h.v.far b3 _,h.h.far c2 _,h.f.far d1 _,h.l.set k x,h.s.far e1.symm _,h.m.set (p:=⟨gl,k,none⟩) (.inr d.2.1) _⟩
theorem GrowS.setS (h:GrowS w wr gu gv gh gf gl gs N has u v least frm S)(d:ApartH w gu gv gh gf gl gs)(k:Nat)(x:Bool) : GrowS w (wr.setCell ⟨gs,k,none⟩ (.bool x)) gu gv gh gf gl gs N has u v least frm (fun i=>if i=k then x else S i):=by
 obtain⟨⟨a1,a2,a3,a4,a5⟩,⟨b1,b2,b3,b4⟩,⟨c1,c2,c3⟩,⟨d1,d2⟩,e1⟩:=d.ne;exact⟨h.u.far a5 _,h.v.far b4 _,h.h.far c3 _,h.f.far d2 _,h.l.far e1 _,h.s.set k x,h.m.set (p:=⟨gs,k,none⟩) (.inr d.2.2) _⟩
theorem GrowS.congL {l2:Nat->Int}(h:GrowS w wr gu gv gh gf gl gs N has u v least frm S)(e:∀ i,i<N->least i=l2 i) : GrowS w wr gu gv gh gf gl gs N has u v l2 frm S :=
 ⟨h.u,h.v,h.h,h.f,h.l.congr e,h.s,h.m⟩
end
def Zee (n N R gu gv gh gf:Nat)(cst:Nat->Nat->Int)(w:World)(e:Ending)(w':World) : Prop :=
 ∃ (a:Nat) (L:List Nat) (u v least:Nat->Int) (has frm:Nat->Nat),e=.returned (.int .i64 a)/\has a=0/\Arr w' gu N u/\Arr w' gv N v/\Arr w' gh N (fun c=>(has c:Int))/\Arr w' gf N (fun c=>(frm c:Int))/\GI n cst VI R has L a u v least frm/\HasOk n R has/\Mod (PS gu gv gh gf) w w'
theorem ZeL {n R:Nat}{cst:Nat->Nat->Int}{has frm frm':Nat->Nat}{L:List Nat}{a:Nat}{u v least least':Nat->Int}{c:Nat}(h:GI n cst VI R has L a u v least frm)(ho:HasOk n R has)(hRn:R<=n)(ha:has a≠0)
  (num:∀ i c,1<=i->i<=n->1<=c->c<=n->0<=cst i c/\cst i c<=2147483647) (bu:∀ i,1<=i->i<=n->0<=u i/\u i<=2147483647) (bv:∀ c,1<=c->c<=n->-2147483647<=v c/\v c<=0) (c1:1<=c) (c2:c<=n) (hc:c∉L++[a])
  (k1:(cst (has a) c-u (has a)-v c<least c/\least' c=cst (has a) c-u (has a)-v c/\frm' c=a)\/(least c<=cst (has a) c-u (has a)-v c/\least' c=least c/\frm' c=frm c)):0<=least' c/\least' c<=4294967294:=by
 have la:=h.le a (by simp);have h1:=ho.le a la;have s1:=h.slack (has a) c (by omega) (by omega) c1 c2;have b1:=num (has a) c (by omega) (by omega) c1 c2;have b2:=bu (has a) (by omega) (by omega);have b3:=bv c c1 c2;rcases k1 with⟨_,e,_⟩ | ⟨k,e,_⟩
 ·omega
 ·by_cases hL:L=[]
  ·have:=h.far0 hL c c1 c2
   have e2:VI=1152921504606846976:=rfl;omega
  ·have hcL:c∉L:=fun hm=>hc (List.mem_append_left _ hm)
   obtain⟨m1,m2⟩:=h.least2 hL c c1 c2 hcL;have l2:=h.le (frm c) (List.mem_append_left _ m1);have h2:=ho.le (frm c) l2;have h3:=h.seen _ m1;have s2:=h.slack (has (frm c)) c (by omega) (by omega) c1 c2;omega
end Go.Proofs.YtmojhhlcocjoaaaGreatDoor
namespace Go.Proofs.YtmojhhlcocjoaaaGreatDoor
open Go.RowKit Go.ChangeShapes Go.WideShapes Go.ChangeAt Go.Deep
theorem Zef {wb w:World}{gp d n N r R gu gv gh gf:Nat}{D:Option Addr}{rows:List (List Int)}{u v:Nat->Int}{has frm:Nat->Nat}
  (hP:PB w gp D d n N gu gv gh gf) (hu:Arr w gu N u) (hv:Arr w gv N v) (hh:Arr w gh N fun c=>(has c:Int)) (hf:Arr w gf N fun c=>(frm c:Int)) (hd:[gu,gv,gh,gf].Nodup)
  (hC:RdE 1 RInts wb D rows) (hx:Ext wb w) (hb:∀ k,k<wb.heap.size->¬PS gu gv gh gf k) (rok:RowsOk rows) (hn:rows.length=n) (hN:N=n+1) (hI:HI n (Va rows) r u v has) (hr:r<n) (hR:R=r+1) :
  Calls Tryz.prog 82 #[.pointer (some ⟨gp,0,none⟩),.int .i64 R] w (Zee n N R gu gv gh gf (Va rows) w):=by
 have num:∀ i c,1<=i->i<=n->1<=c->c<=n->0<=Va rows i c/\Va rows i c<=2147483647:=fun i c h1 h2 h3 h4=>Xe rok (i-1) (c-1) (by omega) (by omega)
 have n24:n<=24:=by rw[<-hn];exact rok.n2
 have SL:=fun(W:World) (u v:Nat->Int) (hp:PB W gp D d n N gu gv gh gf) (a1:Arr W gu N u) (a2:Arr W gv N v) (x:Ext wb W) (i c:Nat) (i1:1<=i) (i2:i<=n) (c1:1<=c) (c2:c<=n) (bu:0<=u i/\u i<=2147483647) (bv:-2147483647<=v c/\v c<=0) =>
  Zc8 hp a1 a2 (hC.ext x fun _ _ h=>h.ext x) rok hn hN i1 i2 c1 c2 bu bv
 have XM:=fun(W:World) (m:Mod (PS gu gv gh gf) w W)=>hx.mod m hb
 have gpn:¬PS gu gv gh gf gp:=by
  rintro (h | h | h | h)
  ·exact hu.ne hP (by decide) h.symm
  ·exact hv.ne hP (by decide) h.symm
  ·exact hh.ne hP (by decide) h.symm
  ·exact hf.ne hP (by decide) h.symm
 have PM:=fun(W:World) (m:Mod (PS gu gv gh gf) w W)=>(show PB W gp D d n N gu gv gh gf from hP.mod m gpn)
 have h0:(fun c=>if c=0 then R else has c) 0=R:=rfl;obtain⟨hs,hhs⟩:∃ hs:Nat->Nat,hs=fun c=>if c=0 then R else has c:=⟨_,rfl⟩
 have hs0:hs 0=R:=by rw[hhs];rfl
 have hs1:∀ c,1<=c->hs c=has c:=fun c hc=>by rw[hhs];simp only;rw[if_neg (by omega)]
 have HO:HasOk n R hs:=by rw[hR];exact hI.hasOk (by rw[hs0,hR]) hs1
 obtain⟨cf,cf1,cf2,cf3⟩:=hI.some_free hr;have HF:∃ c,1<=c/\c<=n/\hs c=0:=⟨cf,cf1,cf2,by rw[hs1 cf cf1];exact cf3⟩;have HG:=fun(least:Nat->Int) (frm:Nat->Nat) (e:∀ c,1<=c->c<=n->least c=VI)=>(show GI n (Va rows) VI R hs [] 0 u v least frm by rw[hR];exact hI.grow hs1 e)
 have hRn:R<=n:=by omega
 have MU:=And.intro hd (And.intro hu.lt (And.intro hv.lt (And.intro hh.lt hf.lt)));have p0:=hP.c0;have p3:=hP.c3;have f0:=hh.free 0;have k0:=hh.cell (k:=0) (by omega);have A1:=hh.set 0 (R:Int);have A1':Arr (w.setCell ⟨gh,0,none⟩ (.int .i64 R)) gh N (fun c=>(hs c:Int)):=A1.congr fun i _=>by rw[hhs];simp only;split<;>rfl
 have hne:gu≠gh/\gv≠gh/\gf≠gh:=by
  simp only[List.nodup_cons,List.mem_cons,List.not_mem_nil,or_false,not_or] at hd;exact⟨hd.1.2.1,hd.2.1.1,fun e=>hd.2.2.1 e.symm⟩
 have AA:=And.intro A1' (And.intro (hu.far (a:=⟨gh,0,none⟩) hne.1 (.int .i64 R)) (And.intro (hv.far (a:=⟨gh,0,none⟩) hne.2.1 (.int .i64 R)) (And.intro (hf.far (a:=⟨gh,0,none⟩) hne.2.2 (.int .i64 R)) ((Mod.rf (S:=PS gu gv gh gf) w).set (p:=⟨gh,0,none⟩) (.inl (.inr (.inr (.inl rfl)))) (.int .i64 R)))));have z0:(0:Int)<(N:Int):=by omega
 have e1:(n:Int)+1=(N:Int):=by omega
 have w1:IntKind.i64.wrap ((n:Int)+1)=(N:Int):=by rw[e1];exact IntWalk.i64_in _ (by omega)
 have szw:(w.setCell ⟨gh,0,none⟩ (.int .i64 R)).heap.size=w.heap.size:=by simp[World.setCell]
 have n24N:N<=25:=by omega
 replace AA:=Hd AA;replace SL:=Hd SL;replace XM:=Hd XM;replace PM:=Hd PM;replace HO:=Hd HO;replace HF:=Hd HF;replace HG:=Hd HG;replace hRn:=Hd hRn;replace MU:=Hd MU;replace num:=Hd num;replace hN:=Hd hN;replace hs0:=Hd hs0;replace szw:=Hd szw;clear hP hu hv hh hf hd hC hx hb rok hn hI hr hR hhs hs1 h0 A1 A1' hne cf cf1 cf2 cf3;go_enter Tryz.func82,Tryz.ntmps82;go_upto_region 3 with(fail);generalize w.setCell ⟨gh,0,none⟩ (.int .i64 R)=w1 at *;clear p0 p3 f0 k0;go_wp2_with (first
  | (at_make;refine Wh _ rfl _ _ rfl w1.heap.size _ _ N rfl rfl (by first | rfl | exact e1) (by first | rfl | exact e1) (by omega) (Nat.le_refl _) ?_;rintro w2 o2 g2;replace o2:=Hd o2;replace g2:=Hd g2)
  | (at_make;refine ZbH _ rfl _ _ rfl _ _ N rfl rfl (by first | rfl | exact e1) (by first | rfl | exact e1) (by omega) ?_;rintro w3 a3 g3;replace a3:=Hd a3;replace g3:=Hd g3))
 replace g3:=g3.out;replace a3:=a3.out;have a2:=Hd (Arr.of_own o2.out);have x2:=Hd ((Ext.rf w1).grownNone g2.out);clear o2 g2;have x3:=(Ext.rf w2).grownNone g3;obtain⟨m1,m2,m3,m4,m5⟩:=AA.out;have z12:=a2.out.lt;have x13:=x2.out.tr x3;have AP:ApartH w gu gv gh gf w1.heap.size w2.heap.size:=by
  obtain⟨q1,q2,q3,q4,q5⟩:=MU.out;have q6:=szw.out;refine⟨?_,by omega,by have:=x2.out.size;omega⟩;simp only[List.nodup_cons,List.mem_cons,List.not_mem_nil,or_false,not_or,not_false_eq_true,List.nodup_nil,and_true] at q1 ⊢;omega
 have GS:Hid (GrowS w w3 gu gv gh gf w1.heap.size w2.heap.size N hs u v (fun c=>if c<0 then VI else 0) frm (fun _=>false)) :=
  ⟨m2.ext x13,m3.ext x13,m1.ext x13,m4.ext x13,(a2.out.ext x3).congr fun i _=>by rw[if_neg (by omega)],a3,m5.ext x13⟩
 generalize w1.heap.size=gl at *;generalize w2.heap.size=gs at *;replace AP:=Hd AP;clear m1 m2 m3 m4 m5 z12 x13 x3 x2 a2 a3 g3 AA szw MU;clear w1 w2;go_wp2_with (fail);go_loopw [35] (fun i wr=>∃ (k:Nat),i=.int .i64 k/\k<=N/\Hid (GrowS w wr gu gv gh gf gl gs N hs u v (fun c=>if c<k then VI else 0) frm (fun _=>false))) (fun i _=>N-(intOf i).toNat)
 case atStart=>exact⟨0,rfl,by omega,GS⟩
 case round =>
  obtain⟨wo,rfl⟩:∃ wo:World,wo=wr:=⟨_,rfl⟩;obtain⟨k,rfl,hk,HS⟩:=hrel;clear GS
  by_cases hlt:k<N
  ·have kl:=HS.out.l.cell hlt
   have fl:=HS.out.l.free k;have q1:(k:Int)<(N:Int):=by omega
   have F1:=Hd ((HS.out.setL AP.out k VI).congL (l2:=fun c=>if c<k+1 then VI else 0) fun i _=>by
    by_cases e:i=k
    ·rw[if_pos e,if_pos (by omega)]
    ·rw[if_neg e]
     by_cases e2:i<k
     ·rw[if_pos e2,if_pos (by omega)]
     ·rw[if_neg e2,if_neg (by omega)])
   go_wp2_with (fail);go_roundw
   case rel=>exact⟨k+1,by go_num,by omega,F1⟩
   case measure=>simp[intOf];omega
  ·obtain rfl:k=N:=by omega
   go_wp2_with (fail);have HS1:=Hd (HS.out.congL (l2:=fun _=>VI) fun i hi=>if_pos hi);have G0:=Hd (HG.out (fun _=>VI) frm fun _ _ _=>rfl);clear HS HG hlt hk;go_loopw [9] (fun v9 wr=>∃ (a:Nat) (L:List Nat) (u v least:Nat->Int) (frm:Nat->Nat) (S:Nat->Bool),v9=.int .i64 a/\a<=n/\Hid (GI n (Va rows) VI R hs L a u v least frm)/\Hid (GrowS w wr gu gv gh gf gl gs k hs u v least frm S)/\Hid (∀ c,c<=n->(S c=true↔c∈L))) (fun _ wr=>ZaO wr gs)
   case atStart=>exact⟨0,[],u,v,_,frm,_,rfl,by omega,G0,HS1,fun c _=>by simp⟩
   case round =>
    clear G0 HS1;obtain⟨wp,rfl⟩:∃ wp:World,wp=wr:=⟨_,rfl⟩;obtain⟨a,L,u,v,least,frm,S,rfl,ha,GG,G1,HS⟩:=hrel;have p3:wp.cell? ⟨gp,3,none⟩=some (.slice (some ⟨gh,0,none⟩) k k):=(PM.out _ G1.out.m).cell 3;have q1:(a:Int)<(k:Int):=by have:=hN.out;omega
    have ka:=G1.out.h.cell (k:=a) (by have:=hN.out;omega)
    by_cases hz:hs a=0
    ·have e0:((hs a:Nat):Int)=0:=by omega
     rw[e0] at ka;go_wp2_with (fail);go_ret;exact⟨a,L,u,v,least,hs,frm,rfl,hz,G1.out.u,G1.out.v,G1.out.h,G1.out.f,GG.out,HO.out,G1.out.m⟩
    ·have e0:(((hs a:Nat):Int) != 0)=true:=by simp;omega
     obtain⟨row,hrow⟩:∃ row,Hid (hs a=row):=⟨_,rfl⟩;have ks:=G1.out.s.cell (k:=a) (by have:=hN.out;omega);have fs:=G1.out.s.free a;have SA:S a=false:=by
      cases h:S a with
      | false=>rfl
      | true=>exact absurd ((HS.out a ha).1 h) GG.out.notin
     obtain⟨S5,hS5⟩:∃ S5:Nat->Bool,S5=fun i=>if i=a then true else S i:=⟨_,rfl⟩
     have G2:=Hd (G1.out.setS AP.out a true);rw[<-hS5] at G2;have S2:Hid (∀ c,c<=n->(S5 c=true↔c∈L++[a])):=fun c hc=>by
      rw[hS5];simp only[List.mem_append,List.mem_singleton]
      by_cases e:c=a
      ·simp[e]
      ·rw[if_neg e,HS.out c hc]
       simp[e]
     have ML:Hid (∀ W,ArrB W gs k S5->ZaO W gs<ZaO wp gs):=fun W h1=>by
      rw[h1.left,G1.out.s.left];exact Zc7 (by have:=hN.out;omega) SA fun _=>by rw[hS5]
     have BD:=Hd (GG.out.bound HO.out hRn.out HF.out num.out);have RB:1<=row/\row<=n:=by
      have h1:=HO.out.le a ha;have h2:=hrow.out;have h3:=hRn.out;omega
     have hz':Hid (hs a≠0):=hz;clear hS5 SA HS hz G1;rw[hrow.out] at ka e0;go_upto_region 13 with(fail);generalize wp.setCell ⟨gs,a,none⟩ (.bool true)=w5 at *;clear p3 ka ks fs;have p3:w5.cell? ⟨gp,3,none⟩=some (.slice (some ⟨gh,0,none⟩) k k):=(PM.out _ G2.out.m).cell 3;have ka:=G2.out.h.cell (k:=a) (by have:=hN.out;omega);simp only[hrow.out] at ka;go_wp2_with (fail);clear p3 ka;go_loopw [11,12,13] (fun v11 v12 v13 wr=>∃ (c next:Nat) (step:Int) (least2:Nat->Int) (frm2:Nat->Nat),v11=.int .i64 step/\v12=.int .i64 next/\v13=.int .i64 c/\1<=c/\c<=k/\Hid (LookR n VI (fun c=>Va rows row c-u row-v c) S5 a least least2 frm frm2 c next step)/\Hid (GrowS w wr gu gv gh gf gl gs k hs u v least2 frm2 S5)) (fun _ _ v13 _=>k-(intOf v13).toNat)
     case atStart=>exact⟨1,0,VI,least,frm,rfl,rfl,rfl,by omega,by have:=hN.out;omega,LookR.start,G2⟩
     case round =>
      clear G2;obtain⟨wq,rfl⟩:∃ wq:World,wq=wr:=⟨_,rfl⟩;obtain⟨c,next,step,least2,frm2,rfl,rfl,rfl,hc1,hck,LR,G3⟩:=hrel
      by_cases hcn:c<=n
      ·have q2:(c:Int)<=(n:Int):=by omega
       have q3:(c:Int)<(k:Int):=by have:=hN.out;omega
       have wc1:IntKind.i64.wrap ((c:Int)+1)=((c+1:Nat):Int):=IntWalk.i64_in _ (by omega);have ks:=G3.out.s.cell (k:=c) (by have:=hN.out;omega);obtain⟨sb,hsb⟩:∃ sb,Hid (S5 c=sb):=⟨_,rfl⟩;rw[hsb.out] at ks
       cases sb with
       | true =>
        have LR2:=Hd (LR.out.skip hsb.out);clear LR;go_wp2_with (fail);go_roundw
        case rel=>exact⟨c+1,next,step,least2,frm2,rfl,rfl,by go_num,by omega,by have:=hN.out;omega,LR2,G3⟩
        case measure=>simp[intOf];omega
       | false =>
        have hb1:=BD.out.1 row RB.1 RB.2;have hb2:=BD.out.2 c hc1 hcn;have SC:=Hd (SL.out wq u v (PM.out _ G3.out.m) G3.out.u G3.out.v (XM.out _ G3.out.m) row c RB.1 RB.2 hc1 hcn hb1 hb2);have nb:=num.out row c RB.1 RB.2 hc1 hcn;go_wp2_with (fail);refine SC.out.mono ?_;rintro e w6 ⟨rfl,x6⟩;have G4:=Hd (G3.out.ext x6);clear G3 x6 SC ks;obtain⟨x,hx⟩:∃ x,Hid (Va rows row c-u row-v c=x):=⟨_,rfl⟩;rw[show Zb rows (row-1) (c-1)-u row-v c=x from hx.out];have xb:x<VI:=by
         have:=hx.out;show x<1152921504606846976;omega
        have lk:=(LR.out.keep c (.inr (.inl (Nat.le_refl _))));have kl:=G4.out.l.cell (k:=c) (by have:=hN.out;omega);have fl:=G4.out.l.free c;clear hb1 hb2 nb
        by_cases h1:x<least2 c
        ·have LK:=LR.out.look (l2:=fun i=>if i=c then x else least2 i) (f2:=fun i=>if i=c then a else frm2 i) (x:=x) hsb.out hc1 (.inl ⟨by rw[<-lk.1];exact hx.out ▸ h1,hx.out.symm,if_pos rfl⟩) (fun _=>rfl) (fun i hi=>if_neg hi) xb
         have G5:=Hd ((G4.out.setL AP.out c x).setF AP.out c a);have p4:w6.cell? ⟨gp,4,none⟩=some (.slice (some ⟨gf,0,none⟩) k k):=(PM.out _ G4.out.m).cell 4;have kf:=G4.out.f.cell (k:=c) (by have:=hN.out;omega);have ff:=G4.out.f.free c;have nlf:gl≠gf:=AP.out.ne.2.2.2.1.1.symm;replace LK:=Hd LK;replace lk:=Hd lk;clear LR G4;go_upto_region 22 with(go_region);generalize (w6.setCell ⟨gl,c,none⟩ (.int .i64 x)).setCell ⟨gf,c,none⟩ (.int .i64 a)=w7 at *;clear kl fl p4 kf ff nlf;have kl:w7.cell? ⟨gl,c,none⟩=some (.int .i64 x):=by
          have:=G5.out.l.cell (k:=c) (by have:=hN.out;omega)
          rwa [if_pos rfl] at this
         by_cases h2:x<step
         ·have LK2:=Hd (LK.out.1 h2)
          go_wp2_with (fail);go_roundw
          case rel=>exact⟨c+1,c,x,_,_,rfl,rfl,by go_num,by omega,by have:=hN.out;omega,LK2,G5⟩
          case measure=>simp[intOf];omega
         ·have LK2:=Hd (LK.out.2 (by omega))
          go_wp2_with (fail);go_roundw
          case rel=>exact⟨c+1,next,step,_,_,rfl,rfl,by go_num,by omega,by have:=hN.out;omega,LK2,G5⟩
          case measure=>simp[intOf];omega
        ·obtain⟨y,hy⟩:∃ y,Hid (least2 c=y):=⟨_,rfl⟩
         rw[hy.out] at kl;have EL:∀ i,least2 i=if i=c then y else least2 i:=fun i=>by
          by_cases e:i=c
          ·rw[if_pos e,e,hy.out]
          ·rw[if_neg e]
         have E1:least c<=Va rows row c-u row-v c:=by
          have:=hx.out;rw[<-lk.1];omega
         have E2:y=least c:=by rw[<-hy.out];exact lk.1
         have LK:=LR.out.look (l2:=least2) (f2:=frm2) (x:=y) hsb.out hc1 (.inr ⟨E1,E2,lk.2⟩) EL (fun _ _=>rfl) (by have:=hy.out;omega);clear EL E1 E2;replace LK:=Hd LK;replace lk:=Hd lk;have h1':¬x<y:=by rw[<-hy.out];exact h1
         clear LR h1
         by_cases h2:y<step
         ·have LK2:=Hd (LK.out.1 h2)
          go_wp2_with (fail);go_roundw
          case rel=>exact⟨c+1,c,y,_,_,rfl,rfl,by go_num,by omega,by have:=hN.out;omega,LK2,G4⟩
          case measure=>simp[intOf];omega
         ·have LK2:=Hd (LK.out.2 (by omega))
          go_wp2_with (fail);go_roundw
          case rel=>exact⟨c+1,next,step,_,_,rfl,rfl,by go_num,by omega,by have:=hN.out;omega,LK2,G4⟩
          case measure=>simp[intOf];omega
      ·obtain rfl:c=k:=by have:=hN.out;omega
       have nz:∀ j,j<=n->S5 j=true->hs j≠0:=fun j hj hs=>by
        rcases List.mem_append.1 ((S2.out j hj).1 hs) with h | h
        ·exact GG.out.seen j h
        ·obtain rfl:=List.mem_singleton.1 h
         exact hz'.out
       have un:∀ j,j<=n->j∉L++[a]->S5 j=false:=fun j hj h=>by
        cases e:S5 j with
        | false=>rfl
        | true=>exact absurd ((S2.out j hj).1 e) h
       have K0:1<=next/\next<=n/\next∉L++[a]/\step=least2 next/\∀ j,1<=j->j<=n->j∉L++[a]->step<=least2 j:=by
        rcases LR.out.best with⟨_,_,b3⟩ | ⟨b1,b2,b3,b4,b5⟩
        ·exfalso
         obtain⟨c0,d1,d2,d3⟩:=HF.out;exact nz c0 d2 (b3 c0 d1 (by omega)) d3
        ·have e:=hN.out
         refine⟨b1,by omega,fun hm=>?_,b4,fun j j1 j2 j3=>b5 j j1 (by omega) (un j j2 j3)⟩;rw[(S2.out next (by omega)).2 hm] at b3
         cases b3
       have K1:∀ j,1<=j->j<=n->j∉L++[a]->(Va rows (hs a) j-u (hs a)-v j<least j/\least2 j=Va rows (hs a) j-u (hs a)-v j/\frm2 j=a)\/(least j<=Va rows (hs a) j-u (hs a)-v j/\least2 j=least j/\frm2 j=frm j):=fun j j1 j2 j3=>by
        rw[hrow.out];exact LR.out.done j j1 (by have:=hN.out;omega) (un j j2 j3)
       have K1':∀ j,j∈L++[a]->frm2 j=frm j:=fun j hj=>(LR.out.keep j (.inr (.inr ((S2.out j (GG.out.le j hj)).2 hj)))).2
       have NB:∀ j,1<=j->j<=n->S5 j=false->0<=least2 j/\least2 j<=4294967294:=fun j j1 j2 j3=>by
        have hj:j∉L++[a]:=fun hm=>by
         rw[(S2.out j j2).2 hm] at j3
         cases j3
        exact ZeL GG.out HO.out hRn.out hz'.out num.out BD.out.1 BD.out.2 j1 j2 hj (K1 j j1 j2 hj)
       have sb:0<=step/\step<=4294967294:=by
        rw[K0.2.2.2.1];exact NB next K0.1 K0.2.1 (un next K0.2.1 K0.2.2.1)
       have s0:S5 0=true:=by
        refine(S2.out 0 (by omega)).2 ?_;have:=GG.out.first;exact List.mem_of_mem_head? this
       replace K0:=Hd K0;replace K1:=Hd K1;replace K1':=Hd K1';replace NB:=Hd NB;replace nz:=Hd nz;replace un:=Hd un;replace s0:=Hd s0;clear LR;go_wp2_with (fail);go_loopw [103] (fun i wr=>∃ (j:Nat) (u3 v3 least3:Nat->Int),i=.int .i64 j/\j<=c/\Hid (TurnR S5 hs step u v least2 u3 v3 least3 j)/\Hid (GrowS w wr gu gv gh gf gl gs c hs u3 v3 least3 frm2 S5)) (fun i _=>c-(intOf i).toNat)
       case atStart=>exact⟨0,u,v,least2,rfl,by omega,TurnR.start,G3⟩
       case round =>
        clear G3;obtain⟨wr2,rfl⟩:∃ wr2:World,wr2=wr:=⟨_,rfl⟩;obtain⟨j,u3,v3,least3,rfl,hj,TR,G3⟩:=hrel
        by_cases hjc:j<c
        ·have q2:(j:Int)<(c:Int):=by omega
         have wj:IntKind.i64.wrap ((j:Int)+1)=((j+1:Nat):Int):=IntWalk.i64_in _ (by omega);have ks:=G3.out.s.cell hjc;obtain⟨sj,hsj⟩:∃ sj,Hid (S5 j=sj):=⟨_,rfl⟩;rw[hsj.out] at ks;have jn:j<=n:=by have:=hN.out;omega
         cases sj with
         | true =>
          obtain⟨rw,hrw⟩:∃ rw,Hid (hs j=rw):=⟨_,rfl⟩;have rw1:1<=rw/\rw<=n:=by
           have h1:=HO.out.le j jn;have h2:=nz.out j jn hsj.out;have h3:=hRn.out;rw[hrw.out] at h1 h2;omega
          obtain⟨z,hzz⟩:∃ z,Hid (IntKind.i64.wrap (v3 j-step)=z):=⟨_,rfl⟩;have INJ:∀ s,s<j->S5 s=true->hs s≠hs j:=fun s h1 h2 h3=>by
           have:=HO.out.inj s j (by omega) jn h3 (nz.out s (by omega) h2);omega
          have V1:1<=j->v3 j=v j:=fun h=>by rw[TR.out.v j h,if_neg (by omega)]
          obtain⟨T1,_,T2⟩:=TR.out.seen (v2:=fun i=>if i=j then z else v3 i) hsj.out INJ (fun i hi=>by
           by_cases e:i=j
           ·subst e
            rw[if_pos rfl,if_pos rfl,<-hzz.out];have h1:=BD.out.2 i hi jn;have h2:=V1 hi;exact IntWalk.i64_in _ (by omega)
           ·rw[if_neg e,if_neg e])
          rw[hrw.out] at T1 T2;have bu:=BD.out.1 rw rw1.1 rw1.2;obtain⟨ur,hur⟩:∃ ur,Hid (u3 rw=ur):=⟨_,rfl⟩;have wu:IntKind.i64.wrap (ur+step)=ur+step:=IntWalk.i64_in _ (by rw[<-hur.out,T1];omega);have q3:(rw:Int)<(c:Int):=by omega
          have q4:rw<c:=by omega
          have kh:=G3.out.h.cell hjc;simp only[hrw.out] at kh;have ku:=G3.out.u.cell q4;rw[hur.out] at ku T2;have fu:=G3.out.u.free rw;have p1:wr2.cell? ⟨gp,1,none⟩=some (.slice (some ⟨gu,0,none⟩) c c):=(PM.out _ G3.out.m).cell 1;have p3:wr2.cell? ⟨gp,3,none⟩=some (.slice (some ⟨gh,0,none⟩) c c):=(PM.out _ G3.out.m).cell 3;have G4:=Hd (G3.out.setU AP.out rw (ur+step));replace T2:=Hd T2;clear G3 TR T1 INJ V1 bu;go_wp2_with (fail);refine wp_region_any (by kernel_rfl) ?_
          change wpAny _ _ _ _ _ _ _ (World.drew _)
          refine Za (i:=0) (op:=Op.move (Operand.tmp 0)) (t:=129) (d:=some 110) (v:=?_) rfl (by decide +kernel) (by decide +kernel) (by decide +kernel) (fun _ _ _ h=>h) ?_ ?_
          case refine_2=>(intro _;unfold Zd;go_simp;try with_reducible rfl)
          try simp only[lay]
          refine Za (i:=1) (op:=Op.nilCheck (Operand.tmp 110)) (t:=0) (d:=some 111) (v:=?_) rfl (by decide +kernel) (by decide +kernel) (by decide +kernel) (fun _ _ _ h=>h) ?_ ?_
          case refine_2=>(intro _;unfold Zd;go_simp;try with_reducible rfl)
          try simp only[lay]
          refine Za (i:=2) (op:=Op.fieldAddr 131 (Operand.tmp 111) 1) (t:=0) (d:=some 112) (v:=?_) rfl (by decide +kernel) (by decide +kernel) (by decide +kernel) (fun _ _ _ h=>h) ?_ ?_
          case refine_2=>(intro _;unfold Zd;go_simp;try with_reducible rfl)
          try simp only[lay]
          refine Za (i:=4) (op:=Op.move (Operand.tmp 0)) (t:=129) (d:=some 114) (v:=?_) rfl (by decide +kernel) (by decide +kernel) (by decide +kernel) (fun _ _ _ h=>h) ?_ ?_
          case refine_2=>(intro _;unfold Zd;go_simp;try with_reducible rfl)
          try simp only[lay]
          refine Za (i:=5) (op:=Op.nilCheck (Operand.tmp 114)) (t:=0) (d:=some 115) (v:=?_) rfl (by decide +kernel) (by decide +kernel) (by decide +kernel) (fun _ _ _ h=>h) ?_ ?_
          case refine_2=>(intro _;unfold Zd;go_simp;try with_reducible rfl)
          try simp only[lay]
          refine Za (i:=6) (op:=Op.fieldAddr 131 (Operand.tmp 115) 3) (t:=0) (d:=some 116) (v:=?_) rfl (by decide +kernel) (by decide +kernel) (by decide +kernel) (fun _ _ _ h=>h) ?_ ?_
          case refine_2=>(intro _;unfold Zd;go_simp;try with_reducible rfl)
          try simp only[lay]
          refine Za (i:=8) (op:=Op.move (Operand.tmp 15)) (t:=3) (d:=some 118) (v:=?_) rfl (by decide +kernel) (by decide +kernel) (by decide +kernel) (fun _ _ _ h=>h) ?_ ?_
          case refine_2=>(intro _;unfold Zd;go_simp;try with_reducible rfl)
          try simp only[lay]
          refine Za (i:=13) (op:=Op.move (Operand.tmp 11)) (t:=3) (d:=some 123) (v:=?_) rfl (by decide +kernel) (by decide +kernel) (by decide +kernel) (fun _ _ _ h=>h) ?_ ?_
          case refine_2=>(intro _;unfold Zd;go_simp;try with_reducible rfl)
          try simp only[lay]
          refine Yx (n:=2) [(3,some 113),(7,some 117),(9,some 119),(10,some 120),(11,some 121),(12,some 122),(14,some 124)] (fun | 3=>.slice (some ⟨gu,0,none⟩) c c | 7=>.slice (some ⟨gh,0,none⟩) c c | 9=>.pointer (some ⟨gh,j,none⟩) | 10=>.int .i64 rw | 11=>.pointer (some ⟨gu,rw,none⟩) | 12=>.int .i64 ur | 14=>.int .i64 (ur+step) | _=>undef) #[true,true,true,true,true,true,true,true,true,true,true,true,true,true,true,false,false] (by decide +kernel) ?_ ?_
          ·intro pS hpm uS hD K hK
           simp only[List.mem_cons,List.not_mem_nil,or_false] at hpm;rcases hpm with rfl | rfl | rfl | rfl | rfl | rfl | rfl
           ·exact Zo (T:=22) (x:=Operand.tmp 112) (t:=22) (d:=some 113) rfl (.pointer (some ⟨gp,1,none⟩)) (by kernel_rfl) (.slice (some ⟨gu,0,none⟩) c c) (by go_simp) hK
           ·exact Zo (T:=22) (x:=Operand.tmp 116) (t:=22) (d:=some 117) rfl (.pointer (some ⟨gp,3,none⟩)) (by kernel_rfl) (.slice (some ⟨gh,0,none⟩) c c) (by go_simp) hK
           ·exact ZU (T:=22) (x:=Operand.tmp 117) (y:=Operand.tmp 118) (t:=0) (d:=some 119) rfl (.slice (some ⟨gh,0,none⟩) c c) (.int .i64 j) (Eq.trans (b:=uS 7) (by kernel_rfl) (hD 7 (Zm (by kernel_rfl)))) (by kernel_rfl) (.pointer (some ⟨gh,j,none⟩)) (by go_simp) hK
           ·exact Zo (T:=3) (x:=Operand.tmp 119) (t:=3) (d:=some 120) rfl (.pointer (some ⟨gh,j,none⟩)) (Eq.trans (b:=uS 9) (by kernel_rfl) (hD 9 (Zm (by kernel_rfl)))) (.int .i64 rw) (by go_simp) hK
           ·exact ZU (T:=22) (x:=Operand.tmp 113) (y:=Operand.tmp 120) (t:=0) (d:=some 121) rfl (.slice (some ⟨gu,0,none⟩) c c) (.int .i64 rw) (Eq.trans (b:=uS 3) (by kernel_rfl) (hD 3 (Zm (by kernel_rfl)))) (Eq.trans (b:=uS 10) (by kernel_rfl) (hD 10 (Zm (by kernel_rfl)))) (.pointer (some ⟨gu,rw,none⟩)) (by go_simp) hK
           ·exact Zo (T:=3) (x:=Operand.tmp 121) (t:=3) (d:=some 122) rfl (.pointer (some ⟨gu,rw,none⟩)) (Eq.trans (b:=uS 11) (by kernel_rfl) (hD 11 (Zm (by kernel_rfl)))) (.int .i64 ur) (by go_simp) hK
           ·(have e12:uS 12=.int .i64 ur:=hD 12 (Zm (by kernel_rfl));exact ZB (op:=Op.binOp BinOp.add 3 (Operand.tmp 122) (Operand.tmp 123) 3) (t:=3) (d:=some 124) rfl (.int .i64 (ur+step)) (by simp only[Zj,Act.put,List.setIfInBounds_toArray,List.set_cons_zero,List.set_cons_succ];unfold Zd;go_simp;try simp only[e12];try go_simp) hK)
          simp only[Zj,Act.put,List.setIfInBounds_toArray,List.set_cons_zero,List.set_cons_succ];refine Za (i:=15) (op:=Op.indexAddr 22 (Operand.tmp 113) (Operand.tmp 120)) (t:=0) (d:=some 125) (v:=?_) rfl (by decide +kernel) (by decide +kernel) (by decide +kernel) (fun _ _ _ h=>h) ?_ ?_
          case refine_2=>(intro _;unfold Zd;go_simp;try with_reducible rfl)
          try simp only[lay]
          refine Zh 16 (by decide +kernel) (Yo rfl (.pointer (some ⟨gu,rw,none⟩)) (.int .i64 (ur+step)) (by kernel_rfl) (by kernel_rfl) (by go_simp;rfl) ?_);refine wpAny_done (by kernel_rfl) ?_ _;clear kh ku fu p1 p3 ks;generalize wr2.setCell ⟨gu,rw,none⟩ (.int .i64 (ur+step))=w8 at *;have G5:=Hd (G4.out.ext ((Ext.rf _).drew));have p2:w8.drew.cell? ⟨gp,2,none⟩=some (.slice (some ⟨gv,0,none⟩) c c):=(PM.out _ G5.out.m).cell 2;have kv:=G5.out.v.cell hjc;have fv:=G5.out.v.free j;have G6:=Hd (G5.out.setV AP.out j z);have zz:=hzz.out;clear G4;go_simp;go_wp2_with (fail);go_roundw
          case rel=>exact⟨j+1,_,_,least3,by go_num,by omega,T2,G6⟩
          case measure=>simp[intOf];omega
         | false =>
          have j1:1<=j:=by
           rcases Nat.eq_zero_or_pos j with rfl | h
           ·have:=s0.out
            rw[hsj.out] at this
            cases this
           ·exact h
          obtain⟨T1,T2⟩:=TR.out.unseen hsj.out;have nb:=NB.out j j1 jn hsj.out;have kl:=G3.out.l.cell hjc;have fl:=G3.out.l.free j;have wl:IntKind.i64.wrap (least3 j-step)=least3 j-step:=IntWalk.i64_in _ (by rw[T1];omega);have G4:=Hd (G3.out.setL AP.out j (least3 j-step));replace T2:=Hd T2;replace T1:=Hd T1;clear G3 TR nb;go_wp2_with (fail);go_roundw
          case rel=>exact⟨j+1,u3,v3,_,by go_num,by omega,T2,G4⟩
          case measure=>simp[intOf];omega
        ·obtain rfl:j=c:=by omega
         have RD:=GG.out.round (frm':=frm2) (least':=least2) (u':=u3) (v':=v3) (least2:=least3) HO.out hRn.out (fun i c i1 i2 c1 c2=>by
          have h1:=num.out i c i1 i2 c1 c2;have h2:=BD.out.1 i i1 i2;have h3:=BD.out.2 c c1 c2;show _<(1152921504606846976:Int);omega) hz'.out K1.out K1'.out K0.out
          (fun i=>by
           rw[TR.out.u]
           by_cases e:∃ s,s∈L++[a]/\hs s=i
           ·obtain⟨s,e1,e2⟩:=e
            have e3:=GG.out.le s e1;rw[if_pos (show ∃ s,s<j/\S5 s=true/\hs s=i from⟨s,by have:=hN.out;omega,(S2.out s e3).2 e1,e2⟩),if_pos (show ∃ s,s∈L++[a]/\hs s=i from⟨s,e1,e2⟩)]
           ·rw[if_neg e,if_neg (show ¬∃ s,s<j/\S5 s=true/\hs s=i from fun⟨s,e1,e2,e3⟩=>e ⟨s,(S2.out s (by have:=hN.out;omega)).1 e2,e3⟩)])
          (fun i i1 i2=>by
           rw[TR.out.v i i1]
           by_cases e:i∈L++[a]
           ·rw[if_pos e,if_pos (show i<j/\S5 i=true from⟨by have:=hN.out;omega,(S2.out i i2).2 e⟩)]
           ·rw[if_neg e,if_neg (show ¬(i<j/\S5 i=true) from fun⟨_,e2⟩=>e ((S2.out i i2).1 e2))])
          (fun i i1 i2 i3=>by rw[TR.out.l,if_pos ⟨by have:=hN.out;omega,un.out i i2 i3⟩])
         have G5:=Hd RD.1;clear RD GG TR;go_wp2_with (fail);go_roundw
         case rel=>exact⟨next,L++[a],u3,v3,least3,frm2,S5,rfl,K0.out.2.1,G5,G3,S2⟩
         case measure=>exact ML.out _ G3.out.s
theorem HI.full {n:Nat}{cst:Nat->Nat->Int}{u v:Nat->Int}{has:Nat->Nat}(h:HI n cst n u v has){c:Nat}(c1:1<=c)(c2:c<=n) : 1<=has c/\has c<=n:=by
 refine⟨?_,h.le c c1 c2⟩;rcases Nat.eq_zero_or_pos (has c) with e | e
 ·exfalso
  have ex:∀ i,∃ d,i<n->1<=d/\d<=n/\has d=i+1:=fun i=>by
   by_cases hi:i<n
   ·obtain⟨d,h1,h2,h3⟩:=h.all (i+1) (by omega) (by omega)
    exact⟨d,fun _=>⟨h1,h2,h3⟩⟩
   ·exact⟨0,fun h=>absurd h hi⟩
  have hf:=fun i=>Classical.choose_spec (ex i)
  generalize (fun i=>Classical.choose (ex i))=f at *;have hf':∃ f:Nat->Nat,∀ i,i<n->1<=f i/\f i<=n/\has (f i)=i+1:=⟨fun i=>Classical.choose (ex i),fun i hi=>Classical.choose_spec (ex i) hi⟩;obtain⟨f,hf⟩:=hf';have hl:=W8 (l:=(c-1)::(List.range n).map fun i=>f i-1) (n:=n) ?_ ?_
  ·simp at hl
   omega
  ·refine List.nodup_cons.2 ⟨?_,List.pairwise_map.2 (List.Pairwise.imp_of_mem ?_ List.nodup_range)⟩
   ·intro hm
    obtain⟨i,hi,e2⟩:=List.mem_map.1 hm;obtain⟨h1,h2,h3⟩:=hf i (List.mem_range.1 hi);have:f i=c:=by omega
    rw[this] at h3;omega
   ·intro a b ha hb hab e2
    obtain⟨h1,h2,h3⟩:=hf a (List.mem_range.1 ha);obtain⟨k1,k2,k3⟩:=hf b (List.mem_range.1 hb);have:f a=f b:=by omega
    rw[this] at h3;omega
  ·intro x hx
   rcases List.mem_cons.1 hx with rfl | hx
   ·omega
   ·obtain⟨i,hi,rfl⟩:=List.mem_map.1 hx
    have:=hf i (List.mem_range.1 hi);omega
 ·exact e
theorem ZbK (i:InstP)(us:List Value)(w:World)(H:RInst w us i)(hc:Zl i=0)(hk:i.kind=2) :
  Calls Tryz.prog 80 #[.agg (List.toArray us),.int .i64 2] w fun e w'=>e=.returned (.int .i64 0)/\Ext w w':=by
 have sq:=Zt hc (by omega);have CH:=fun(W:World) (x:Ext w W)=>ZA i us W (H.ext x) (by rw[sq.w];simp) (by rw[sq.v];simp)
 rw[hc] at CH;obtain⟨kind,nn,cap,xw,xv,co⟩:=i;obtain⟨A,a,B,b,D,d,rfl,-,-,-⟩:=H;simp only at *;subst hk;have B1:Hid (Blk (w.alloc (.cells #[.int .i64 2,.int .i64 nn,.int .i64 cap,.slice A xw.length a,.slice B xv.length b,.slice D co.length d] 25)) w.heap.size 25 #[.int .i64 2,.int .i64 nn,.int .i64 cap,.slice A xw.length a,.slice B xv.length b,.slice D co.length d]):=.new rfl;replace CH:=Hd CH;clear hc sq;go_enter Tryz.func80,Tryz.ntmps80;go_wp2_with (fail);refine(CH.out _ (by(repeat (first | assumption | exact Ext.rf _ | apply Ext.drew | apply Ext.drewN | apply Ext.alloc)))).mono ?_;rintro e w1 ⟨rfl,x1⟩;have X1:=Hd (Ext.tr (a:=w) (by(repeat (first | assumption | exact Ext.rf _ | apply Ext.drew | apply Ext.drewN | apply Ext.alloc))) x1);have b1:=Hd (B1.out.ext x1);have t0:=b1.out.c0;have t1:=b1.out.c1;clear x1 B1;go_wp2_with (fail);go_ret;exact⟨rfl,X1.out.tr (by(repeat (first | assumption | exact Ext.rf _ | apply Ext.drew | apply Ext.drewN | apply Ext.alloc)))⟩
theorem Zc9 (i:InstP)(us:List Value)(P:Option Addr)(c:Nat)(l:List Nat)(w:World)(H:RInst w us i)(hc:Zl i=0)(hk:i.kind=2)(hP:RdI w P (Ze l))(hl:l.Perm (List.range i.cost.length)) :
  Calls Tryz.prog 83 #[.agg (List.toArray us),.slice P i.cost.length c] w fun e w'=>e=.returned (.tuple #[.slice P i.cost.length c,.int .i64 (Zr i.cost (Ze l)),.int .i64 0])/\Ext w w':=by
 have VC:=fun(W:World) (x:Ext w W)=>Zbx i us P c l W (H.ext x) hc hk (hP.ext x) hl
 obtain⟨kind,nn,cap,xw,xv,co⟩:=i;obtain⟨A,a,B,b,D,d,rfl,-,-,-⟩:=H;simp only at *;generalize Zr co (Ze l)=cc at *;replace VC:=Hd VC;clear hc hk hP hl;go_enter Tryz.func83,Tryz.ntmps83;go_wp2_with (fail);refine(VC.out _ (by(repeat (first | assumption | exact Ext.rf _ | apply Ext.drew | apply Ext.drewN | apply Ext.alloc)))).mono ?_;rintro e w1 ⟨rfl,x1⟩;have X1:=Hd (Ext.tr (a:=w) (by(repeat (first | assumption | exact Ext.rf _ | apply Ext.drew | apply Ext.drewN | apply Ext.alloc))) x1);clear x1;go_wp2_with (fail);go_ret3;exact⟨rfl,X1.out.tr (by(repeat (first | assumption | exact Ext.rf _ | apply Ext.drew | apply Ext.drewN | apply Ext.alloc)))⟩
def Least (rows:List (List Int))(n:Nat)(c:Int) : Prop:=(∃ x:List Nat,x.Perm (List.range n)/\Zr rows (Ze x)=c)/\∀ q:List Nat,q.Perm (List.range n)->c<=Zr rows (Ze q)
theorem Least.one {rows:List (List Int)}{n:Nat}{c d:Int}(h:Least rows n c)(k:Least rows n d) : c=d:=by
 obtain⟨x,h1,h2⟩:=h.1;obtain⟨y,k1,k2⟩:=k.1;have a:=h.2 y k1;have b:=k.2 x h1;omega
theorem QJ {x:List Nat}{n:Nat}(h:x.Perm (List.range n)) : x.length=n:=by rw[h.length_eq,List.length_range]
theorem ZeM {x:List Nat}(h:x.Nodup) : (x.map fun c=>x.idxOf c)=List.range x.length:=by
 refine List.ext_getElem (by simp) fun i h1 h2=>?_
 simp only[List.getElem_map,List.getElem_range];exact h.idxOf_getElem i (by simpa using h1)
theorem Jo {rows rowsT:List (List Int)}{n:Nat}(h1:rows.length=n)(h2:rowsT.length=n)(h:∀ a b,a<n->b<n->Zb rowsT b a=Zb rows a b){x:List Nat}(hx:x.Perm (List.range n)) :
  ∃ y:List Nat,y.Perm (List.range n)/\Zr rowsT (Ze y)=Zr rows (Ze x):=by
 have lx:=QJ hx;have nd:x.Nodup:=hx.symm.nodup List.nodup_range;have hy:((List.range n).map fun c=>x.idxOf c).Perm (List.range n):=by
  have:=(hx.map fun c=>x.idxOf c).symm
  rwa [ZeM nd,lx] at this
 refine⟨(List.range n).map fun c=>x.idxOf c,hy,?_⟩;rw[YA (by rw[h2];simp),YA (by rw[h1,lx]),List.length_map,List.length_range,lx];have e1:((List.range n).map fun k=>Zb rowsT k (((List.range n).map fun c=>x.idxOf c).getD k 0))=(List.range n).map fun c=>Zb rows (x.idxOf c) c:=by
  refine List.map_congr_left fun c hc=>?_
  have hc:=List.mem_range.1 hc;have hm:c∈x:=hx.mem_iff.2 (List.mem_range.2 hc);have e:((List.range n).map fun c=>x.idxOf c)[c]?=some (x.idxOf c):=by rw[List.getElem?_map,List.getElem?_range hc];rfl
  rw[List.getD,e,Option.getD_some];exact h _ _ (by rw[<-lx];exact List.idxOf_lt_length_of_mem hm) hc
 rw[e1];have e2:=Yz ((hx.map fun c=>Zb rows (x.idxOf c) c));rw[<-e2]
 congr 1
 refine List.ext_getElem (by simp[lx]) fun i k1 k2=>?_
 have hi:i<x.length:=by simpa using k1
 simp only[List.getElem_map,List.getElem_range];rw[nd.idxOf_getElem i hi,List.getD,List.getElem?_eq_getElem hi,Option.getD_some]
theorem Least.turn {rows rowsT:List (List Int)}{n:Nat}{c:Int}(h1:rows.length=n)(h2:rowsT.length=n)(h:∀ a b,a<n->b<n->Zb rowsT b a=Zb rows a b)(hl:Least rows n c) : Least rowsT n c:=by
 refine⟨?_,fun q hq=>?_⟩
 ·obtain⟨x,k1,k2⟩:=hl.1
  obtain⟨y,m1,m2⟩:=Jo h1 h2 h k1;exact⟨y,m1,m2.trans k2⟩
 ·obtain⟨y,m1,m2⟩:=Jo h2 h1 (fun a b ha hb=>(h b a hb ha).symm) hq
  rw[<-m2];exact hl.2 y m1
theorem Uh {α:Type}(f g:α->Int) : ∀ l:List α,Zi (l.map fun k=>f k+g k)=Zi (l.map f)+Zi (l.map g)
 | []=>rfl
 | x::l=>by
  have:=Uh f g l;simp only[List.map_cons,Zi];omega
theorem Jp {rows rowsM:List (List Int)}{n:Nat}{up:Nat->Int}(h1:rows.length=n)(h2:rowsM.length=n)(h:∀ a b,a<n->b<n->Zb rowsM a b=Zb rows a b+up a){x:List Nat}(hx:x.Perm (List.range n)) :
  Zr rowsM (Ze x)=Zr rows (Ze x)+Zi ((List.range n).map up):=by
 have lx:=QJ hx;rw[YA (by rw[h2,lx]),YA (by rw[h1,lx]),lx,<-Uh]
 congr 1
 refine List.map_congr_left fun k hk=>?_
 have hk:=List.mem_range.1 hk;refine h _ _ hk ?_;have:x.getD k 0∈x:=by
  rw[List.getD,List.getElem?_eq_getElem (by omega),Option.getD_some];exact List.getElem_mem _
 exact List.mem_range.1 (hx.mem_iff.1 this)
theorem Least.more {rows rowsM:List (List Int)}{n:Nat}{c:Int}{up:Nat->Int}(h1:rows.length=n)(h2:rowsM.length=n)(h:∀ a b,a<n->b<n->Zb rowsM a b=Zb rows a b+up a)(hl:Least rows n c) : Least rowsM n (c+Zi ((List.range n).map up)):=by
 refine⟨?_,fun q hq=>?_⟩
 ·obtain⟨x,k1,k2⟩:=hl.1
  exact⟨x,k1,by rw[Jp h1 h2 h k1,k2]⟩
 ·rw[Jp h1 h2 h hq]
  have:=hl.2 q hq;omega
end Go.Proofs.YtmojhhlcocjoaaaGreatDoor
