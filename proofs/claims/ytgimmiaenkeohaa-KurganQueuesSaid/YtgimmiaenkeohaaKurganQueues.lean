/- KurganQueues: slots that are taken from a pool, put into a heap, and taken out again by one worker come in the order of their bounds, as from a mound that they were put into alike; then all slots can be given back. No condition. -/
import Derived.Test.YtgimmiaenkeohaaKurganQueuesP6
set_option maxRecDepth 100000
set_option maxHeartbeats 16000000
set_option linter.all false
namespace Go.Proofs.Ytgimmiaenkeohaa.kurganQueues
section
open Go.RowKit Go.ChangeShapes Go.WideShapes Go.ChangeAt
theorem QP (A:Option Addr)(c:Nat)(xs:List Int)(B:Option Addr)(d:Nat)(ys:List Int)(w:World)(hx:RdI w A xs)(ix:Ints xs)(lx:xs.length<=c)(lc:c<=maxLen)(hy:RdI w B ys)(iy:Ints ys)(ly:ys.length<=d)(ld:d<=maxLen) :
  Calls Try.prog 3 #[.slice A xs.length c,.slice B ys.length d] w fun e w'=>e=.returned (.bool true)/\Ext w w':=by
 have ld':=ld;unfold maxLen at lc ld';obtain⟨n,hn⟩:∃ n,n=1+min xs.length 30:=⟨_,rfl⟩;have hn1:1<=n:=by omega
 have hn31:n<=31:=by omega
 have emin:(if (30:Int)<(xs.length:Int) then(30:Int) else(xs.length:Int))=(n:Int)-1:=by split<;>omega
 have emin2:(if (xs.length:Int)<30 then(xs.length:Int) else(30:Int))=(n:Int)-1:=by split<;>omega
 have wr1:IntKind.i64.wrap (1+((n:Int)-1))=(n:Int):=by rw[show 1+((n:Int)-1)=(n:Int) by omega];exact IntWalk.i64_in _ (by omega)
 have wr2:IntKind.i64.wrap ((n:Int)+1+(63+(n:Int)))=((n+1+(63+n):Nat):Int):=by rw[show (n:Int)+1+(63+(n:Int))=((n+1+(63+n):Nat):Int) by omega];exact IntWalk.i64_in _ (by omega)
 have wr3:IntKind.i64.wrap ((n:Int)-1)=(n:Int)-1:=IntWalk.i64_in _ (by omega);have hnx:n<=xs.length+1:=by omega
 have C1:=Hd (fun(W:World)=>XG n W hn1 (by omega));have C2:=Hd (fun(W:World)=>XH n W hn1 (by omega));have C3:=Hd (fun(W:World)=>V7 (n+1+(63+n)) W (by omega));replace hn:=Hd hn;generalize hbig:((n+1+(63+n):Nat):Int)=big at *;replace hbig:=Hd hbig;go_enter Try.func3,Try.ntmps3;go_wp2_with (fail);refine(C1.out _).mono ?_;rintro e w1 ⟨rfl,x1⟩;have X1:=Hd (Ext.tr (a:=w) XI x1);clear x1 C1;go_wp2_with (fail);refine(C2.out _).mono ?_;rintro e w2 ⟨rfl,x2⟩;have X2:=Hd (X1.out.tr (Ext.tr (a:=w1) XI x2));clear x2 C2 X1;go_wp2_with (fail);refine(C3.out _).mono ?_;rintro e w3 ⟨gm,rfl,gc,hM,z1,z2,x3⟩;have zz:w.heap.size<=gm/\w.heap.size<=gc:=by have:=X2.out.size;omega
 have X3:=Hd (X2.out.tr (Ext.tr (a:=w2) XI x3));clear x3 C3 X2 z1 z2 emin emin2 wr1 wr2;have C4:=Hd (fun(W:World) (X:Ext w3 W)=>Uw w.heap.size gm gc n _ W (hM.ext X) hn1 (by omega) (by rw[List.length_replicate];omega) (by rw[List.length_replicate];omega));clear hM;go_wp2_with (fail);refine(C4.out _ XI).mono ?_;rintro e w4 ⟨gp,gn,go,M1,rfl,P4,M4,l4,N4,z4,d4⟩;have zp:w.heap.size<=gp/\w.heap.size<=gn/\w.heap.size<=go:=by have:=X3.out.size;omega
 have X4:=Hd (X3.out.mod d4 (fun k hk e=>by rcases e with e | e<;>omega));have M4:=Hd M4;have P4:=Hd P4;have N4:=Hd N4;rw[List.length_replicate] at l4;clear d4 C4 X3 z4;have C5:=fun(W:World) (X:Ext w4 W)=>Uz w.heap.size gm gc gp gn go (n+1) M1 ⟨0,n,ZG n,[⟨none,0,[]⟩]⟩ W (M4.out.ext X) (P4.out.ext X) hn1 (by show n<=4096;omega) (by show n+1+(63+n)<=_;omega) (by omega)
 simp only[show ((n+1:Nat):Int)=(n:Int)+1 by omega] at C5;replace C5:=Hd C5;clear M4 P4;go_wp2_with (fail);refine(C5.out _ XI).mono ?_;rintro e w5 ⟨gh,M2,rfl,H5,P5,M5,l5,N5,z5,d5⟩;have g:GB w.heap.size gm gc gp gn go gh:=⟨zz,zp,by have:=X4.out.size;omega⟩;have X5:=Hd (X4.out.mod d5 (fun k hk e=>by rcases e with e | e<;>omega));have S5:=Hd (UA hn1 hn31 (by rw[l5,l4]) M5 P5 H5 N4.out N5);clear H5 P5 M5 l5 N5 z5 d5 C5 N4 l4 X4 zz zp;go_wp2_with (fail);refine(QI _).mono ?_;rintro e w6 ⟨gq,rfl,R6,x6⟩;have X6:=Hd (X5.out.tr (Ext.tr (a:=w5) XI x6));have S6:=Hd (S5.out.ext (Ext.tr (a:=w5) XI x6));have R6:=Hd (R6.more (base':=w.heap.size) X5.out.size);clear x6 S5 X5;go_wp2_with (fail);refine(Vj _).mono ?_;rintro e w7 ⟨rfl,x7⟩;have y7:Ext w6 w7:=Ext.tr (a:=w6) XI x7;have X7:=Hd (X6.out.tr y7);have S7:=Hd (S6.out.ext y7);have R7:=Hd (R6.out.ext y7);clear x7 y7 X6 S6 R6;go_wp2_with (fail);go_loopw [15,16] (fun v15 v16 wr=>∃ (k sz:Nat) (bd:Nat->Int) (F O:List Nat) (L:List (List Nat)),v15=.int .i64 sz/\v16=.int .i64 k/\k+1<=n/\sz<=k/\Hid (SM w.heap.size wr gm gc gp gn go gh n bd [] F O L)/\Hid (MoundRep wr w.heap.size gq (Zo bd L) sz)/\Hid (KeptQ (Zo bd L) sz 32 k)/\Hid (Ext w wr)) (fun _ v _=>n-(intOf v).toNat)
 case atStart=>exact⟨0,0,fun _=>0,List.range n,[],List.replicate 64 [],rfl,rfl,by omega,by omega,S7,by rw[WU];exact R7,by rw[WU];exact KeptQ.start 32,X7⟩
 case round =>
  clear S7 R7 X7;obtain⟨k,sz,bd,F,O,L,rfl,rfl,hk,hsk,S,R,K,X⟩:=hrel
  by_cases hlt:k+1<n
  ·have e1:(k:Int)<(n:Int)-1:=by omega
   have hkx:k<xs.length:=by omega
   obtain⟨b,off,x,rfl,hb,hcell,hx',hdr⟩:=hx.at hkx;clear hdr;have i0:(0:Int)<=(k:Int):=by omega
   have i1:(k:Int)<(xs.length:Int):=by omega
   obtain⟨lo,hlo⟩:∃ lo,lo=min k ys.length:=⟨_,rfl⟩;have hyd:=hy.drop (c:=d) (lo:=lo) (by omega) ly;have hlen:(ys.drop lo).length=ys.length-lo:=List.length_drop;obtain⟨ii,hi,hz0,hz1,hz2⟩:=info_parts Y4;have hmin:(if ys.length<k then(ys.length:Int) else(k:Int))=(lo:Int):=by
    split<;>omega
   have hsl:=V6 Try.underlying22 hi hz1 B ys.length d lo (lo:Int) rfl (by omega) ly;have hid:=iy.drop lo;have hcap:(ys.drop lo).length<=d-lo:=by omega
   have hcap2:d-lo<=maxLen:=by omega
   rw[<-hlen] at hsl;clear hlo;generalize (if d=lo then B else B.map (·.add (lo*1)))=B' at *;generalize d-lo=d' at *;generalize ys.drop lo=ds at *;clear hlen hi hz0 hz1 hz2;replace hyd:=Hd hyd;replace hid:=Hd hid;have hfl:L.flatten.length<n:=by
    have h1:=K.out.size;have h2:=congrArg List.length (ZZ bd L);rw[List.length_map] at h2;omega
   have hl64:(Zo bd L).length=64:=K.out.len;replace hl64:=Hd hl64;have T1:=Hd (fun(W:World) (x:Ext wr W)=>Qb W (S.out.ext x));go_wp2_with (fail);refine(T1.out _ XI).mono ?_;rintro e w1 ⟨ga,rfl,A1,za,x1⟩;have y1:Ext wr w1:=Ext.tr (a:=wr) XI x1;have hga:w.heap.size<=ga:=by have:=X.out.size;first | omega | (simp at za;omega)
   have S1:=Hd (S.out.ext y1);have R1:=Hd (R.out.ext y1);have X1:=Hd (X.out.tr y1);clear x1 y1 T1 za S R X;have T2:=Hd (fun(W:World) (x:Ext w1 W)=>U6 g hn31 (S1.out.ext x) hfl ga hga (Blk.ext A1 x));clear A1 hfl;go_wp2_with (fail);refine(T2.out _ XI).mono ?_;rintro e w2 ⟨rfl,s,a,F',O',S2,A2,ha3,has,m2⟩;have m2:ModT w.heap.size TP w1 w2:=(ModT.of_ext XI).tr m2;have R2:=Hd (R1.out.modT m2 (by decide) (by decide) (by decide));have X2:=Hd (X1.out.modT m2 (Nat.le_refl _));have S2:=Hd S2;have A2:=Hd A2;clear m2 T2 S1 R1 X1;have SL2:=fun(W:World) (q:Ext w2 W)=>YP ga gp a W (Blk.ext A2.out q) ha3
   rw[has] at SL2;replace SL2:=Hd SL2;have KE:=Hd (fun(W:World) (q:Ext w2 W)=>U8 g hn31 (S2.out.ext q) x);have hL:=Hd S2.out.held.2.2;have k1:=Zf X2.out hb hcell;have zb:b<w2.heap.size:=by have:=X2.out.size;omega
   go_upto_region 15 with(fail);refine wp_region_any (by kernel_rfl) ?_
   change wpAny _ _ _ _ _ _ _ (World.drew _)
   refine Za (i:=0) (op:=Op.move (Operand.tmp 9)) (t:=29) (d:=some 84) (v:=_) rfl (by decide +kernel) (fun _ _ _ h=>h) (by intro _;unfold Zb;go_simp;try with_reducible rfl) ?_
   try simp only[lay]
   refine Za (i:=1) (op:=Op.move (Operand.tmp 17)) (t:=39) (d:=some 85) (v:=_) rfl (by decide +kernel) (fun _ _ _ h=>h) (by intro _;unfold Zb;go_simp;try with_reducible rfl) ?_
   try simp only[lay]
   refine Za (i:=3) (op:=Op.move (Operand.tmp 0)) (t:=22) (d:=some 87) (v:=_) rfl (by decide +kernel) (fun _ _ _ h=>h) (by intro _;unfold Zb;go_simp;try with_reducible rfl) ?_
   try simp only[lay]
   refine Za (i:=4) (op:=Op.move (Operand.tmp 16)) (t:=3) (d:=some 88) (v:=_) rfl (by decide +kernel) (fun _ _ _ h=>h) (by intro _;unfold Zb;go_simp;try with_reducible rfl) ?_
   try simp only[lay]
   refine Za (i:=5) (op:=Op.indexAddr 22 (Operand.tmp 87) (Operand.tmp 88)) (t:=0) (d:=some 89) (v:=_) rfl (by decide +kernel) (fun _ _ _ h=>h) (by intro _;unfold Zb;go_simp;try with_reducible rfl) ?_
   try simp only[lay]
   refine Zi (n:=1) [(2,some 86),(6,some 90),(7,some 91)] (Ext w2) (VF (fun | 2=>some (.int .i64 (s:Int)) | 6=>some (.int .i64 x) | 7=>some (.agg #[.slice none 0 0,.int .i64 x]) | _=>none) (fun i v W=>True)) Ext #[true,true,true,true,true,true,true,true,false] (by decide +kernel) (VF.stab ?_) ?_ ?_ (by first | exact(Ext.rf _).drew | exact Ext.rf _)
   ·intro j v W W' _ _ _;trivial
   ·intro pS hpm uS wS hRW hD K hK
    simp only[List.mem_cons,List.not_mem_nil,or_false] at hpm;rcases hpm with rfl | rfl | rfl
    ·( exact Zh (f:=14) (xs:=#[Operand.tmp 85]) (ts:=#[39]) (t:=3) (d:=some 86) rfl #[.pointer (some ⟨ga,0,none⟩)] (by go_simp) (by kernel_rfl) _ (SL2.out _ hRW) (by rintro e w9 ⟨rfl,xx⟩;exact⟨_,rfl,hK _ _ (VF.mk rfl) (hRW.tr xx) xx⟩))
    ·( have rX:=Zf hRW zb k1;exact Ze (T:=3) (x:=Operand.tmp 89) (t:=3) (d:=some 90) rfl (.pointer (some ⟨b,off+k,none⟩)) (by kernel_rfl) (.int .i64 x) (by go_simp) (hK _ _ (VF.mk rfl) hRW (Ext.rf _)))
    ·(have e6:uS 6=.int .i64 x:=(hD 6 (Zg (by kernel_rfl))).k rfl;exact Zm (op:=Op.build 45 #[(1,Operand.tmp 90)]) (t:=45) (d:=some 91) rfl (.agg #[.slice none 0 0,.int .i64 x]) (by simp only[Zc,Act.put,List.setIfInBounds_toArray,List.set_cons_zero,List.set_cons_succ];unfold Zb;(try go_simp);(try simp only[e6]);(try go_simp);(try rfl);(try (exact IntWalk.i64_in _ (by omega)))) (hK _ _ (VF.mk rfl) hRW (Ext.rf _)))
   intro u w3 hR3 hV;have h2:=(hV (2,some 86) (by simp)).k rfl;have h6:=(hV (6,some 90) (by simp)).k rfl;have h7:=(hV (7,some 91) (by simp)).k rfl;simp only[Zc,h2,h6,h7];clear hV h2 h6 h7
   try simp only[lay]
   refine Zd 8 (by decide +kernel) (Zh (f:=13) (xs:=#[Operand.tmp 84,Operand.tmp 86,Operand.tmp 91]) (ts:=#[29,3,45]) (t:=0) (d:=some 92) rfl #[.pointer (some ⟨gp,0,none⟩),.int .i64 (s:Int),.agg #[.slice none 0 0,.int .i64 x]] (by go_simp) (by kernel_rfl) _ (KE.out _ hR3) ?_);rintro e w4 ⟨rfl,S4,m4⟩;have m4:ModT w.heap.size [45] w2 w4:=(ModT.of_ext hR3).tr m4;obtain⟨bd4,hbd⟩:∃ f:Nat->Int,f=fun t=>if t=s then x else bd t:=⟨_,rfl⟩
   rw[<-hbd] at S4;have hbs:bd4 s=x:=by rw[hbd];simp
   have hls:Zo bd4 L=Zo bd L:=by rw[hbd];exact VW x hL.out
   have R4:=Hd (R2.out.modT m4 (by decide) (by decide) (by decide));rw[<-hls] at R4 K hl64;have X4:=Hd (X2.out.modT m4 (Nat.le_refl _));have A4:=Hd (Blk.modT A2.out m4 (by decide));have S4:=Hd S4;replace hbs:=Hd hbs;clear m4 KE SL2 hR3 S2 A2 R2 X2 hL hls hbd k1 zb;refine⟨_,rfl,?_⟩
   try simp only[lay]
   refine wpAny_done (by kernel_rfl) ?_ _;go_simp;have SL4:=fun(W:World) (q:Ext w4 W)=>YP ga gp a W (Blk.ext A4.out q) ha3
   rw[has] at SL4;replace SL4:=Hd SL4;have PU:Hid (∀ W,Ext w4 W->Calls Try.prog 15 #[.pointer (some ⟨gh,0,none⟩),.int .i64 (s:Int),.slice B' ds.length d'] W fun e w'=>∃ (gu:Nat) (A':Option Addr) (c':Nat),e=.returned (.pointer (some ⟨gu,0,none⟩))/\Zk w' gu gh (Ym 0 (s:Int) true ⟨A',c',ZE ds⟩ 0)/\OwI w' w4.heap.size A' c' (ZE ds)/\w4.heap.size<=gu/\Ext w4 w'):=Hd (fun W q=>(Qc W s (S4.out.ext q) hn31 ds B' d' (hyd.out.ext (X4.out.tr q)) hid.out hcap hcap2).mono fun e w' h=>by
    obtain⟨gu,A',c',h1,h2,h3,h4,h5⟩:=h;have:=q.size;exact⟨gu,A',c',h1,h2,h3.more this,by omega,q.tr h5⟩)
   go_wp2_with (fail);refine(SL4.out _ XI).mono ?_;rintro e w5 ⟨rfl,x5⟩;have x5:=Hd (Ext.tr (a:=w4) XI x5);go_wp2_with (fail);refine(PU.out _ (x5.out.tr XI)).mono ?_;rintro e w6 ⟨gu,A6,c6,rfl,HA,OA,zu,x6⟩;have HE:=Hd (fun(W:World) (q:Ext w6 W)=>U9 g hn31 X4.out.size S4.out (x6.tr q) gu zu A6 c6 ds (Blk.ext HA q) (OA.ext q));clear x5 PU HA OA zu x6 SL4;go_wp2_with (fail);refine(HE.out _ XI).mono ?_;rintro e w7 ⟨rfl,hcase,m7⟩;have R7:=Hd (R4.out.modT m7 (by decide) (by decide) (by decide));have X7:=Hd (X4.out.modT m7 (Nat.le_refl _));have A7:=Hd (Blk.modT A4.out m7 (by decide));clear m7 HE R4 X4 A4 S4;have SL7:=fun(W:World) (q:Ext w7 W)=>YP ga gp a W (Blk.ext A7.out q) ha3
   rw[has] at SL7;replace SL7:=Hd SL7;have wk:IntKind.i64.wrap ((k:Int)+1)=(k:Int)+1:=IntWalk.i64_in _ (by omega);have ws:IntKind.i64.wrap ((sz:Int)+1)=(sz:Int)+1:=IntWalk.i64_in _ (by omega);clear hmin hsl;rcases hcase with⟨u,HU,hft,S7⟩ | ⟨u,leaf,HU,hft,hdr,S7⟩
   ·have FI:=fun(W:World) (q:Ext w7 W)=>Wc gu gh u W (Blk.ext HU q)
    rw[hft] at FI;replace FI:=Hd FI;replace S7:=Hd S7;have GV:=Hd (fun(W:World) (q:Ext w7 W)=>Vu W s (S7.out.ext q) hn31);clear HU hft;go_wp2_with (fail);refine(FI.out _ XI).mono ?_;rintro e w8 ⟨rfl,x8⟩;have y8:=Hd (Ext.tr (a:=w7) XI x8);clear x8 FI;go_wp2_with (fail);refine(SL7.out _ (y8.out.tr XI)).mono ?_;rintro e w9 ⟨rfl,x9⟩;have y9:=Hd (y8.out.tr (Ext.tr (a:=w8) XI x9));clear x9 SL7 y8;go_wp2_with (fail);refine(GV.out _ (y9.out.tr XI)).mono ?_;rintro e wa ⟨gv,rfl,Aa,za,xa⟩;have ya:=Hd (y9.out.tr (Ext.tr (a:=w9) XI xa));have hgv:w.heap.size<=gv:=by have:=X7.out.size;have:=y9.out.size;first | omega | (simp at za;omega)
    have PG:=Hd (fun(W:World) (q:Ext wa W)=>Vs g hn31 (by have:=X7.out.size;have:=ya.out.size;have:=q.size;omega) (S7.out.ext (ya.out.tr q)) gv hgv (Blk.ext Aa q));clear xa GV y9 za Aa;go_wp2_with (fail);refine(PG.out _ XI).mono ?_;rintro e wb ⟨rfl,F2,O2,Sb,mb⟩;have mb:ModT w.heap.size TP w7 wb:=(ModT.of_ext (ya.out.tr XI)).tr mb;have Rb:=Hd (R7.out.modT mb (by decide) (by decide) (by decide));have Xb:=Hd (X7.out.modT mb (Nat.le_refl _));have Sb:=Hd Sb;clear mb PG R7 X7 A7 S7 ya;go_wp2_with (fail);go_roundw
    case rel=>exact⟨k+1,sz,bd4,F2,O2,L,rfl,by go_num,by omega,by omega,Hd (Sb.out.ext XI),Hd (Rb.out.ext XI),Hd K.out.more,Hd (Xb.out.tr XI)⟩
    case measure=>simp[intOf];omega
   ·have FI:=fun(W:World) (q:Ext w7 W)=>Wc gu gh u W (Blk.ext HU q)
    rw[hft] at FI;replace FI:=Hd FI;rw[hbs.out] at hdr S7;have hlf:Zz (Zo bd4 L) x ds=leaf:=U5 hl64.out hdr;have hl32:=XF hdr;have hz:Zz (Zo bd4 L) (x,(s:Int)).1 ds≠0:=by show Zz (Zo bd4 L) x ds≠0;rw[hlf];omega
    have KP:=K.out.put (by omega) hz;have IY:=fun(W:World) (q:Ext w7 W)=>Vb gq w.heap.size (Zo bd4 L) sz (x,(s:Int)) B' d' ds 32 W (R7.out.ext q) hl64.out (by omega) (by omega) (hyd.out.ext (X7.out.tr q)) hid.out hcap hcap2 hz (by omega) (fun l hl=>Nat.le_trans (K.out.lens l hl) (by omega))
    have hset:(Zo bd4 L).set (Zu (Zo bd4 L) x leaf) ((x,(s:Int))::(Zo bd4 L).getD (Zu (Zo bd4 L) x leaf) [])=Zo bd4 (L.set (Zu (Zo bd4 L) x leaf) (s::L.getD (Zu (Zo bd4 L) x leaf) [])):=by rw[Vt,hbs.out]
    simp only[hlf,hset] at KP IY;replace IY:=Hd IY;replace KP:=Hd KP;replace S7:=Hd S7;generalize L.set (Zu (Zo bd4 L) x leaf) (s::L.getD (Zu (Zo bd4 L) x leaf) [])=L2 at *;clear HU hft hset hz hlf hdr hl32;have k7:=Zf X7.out hb hcell;have zb:b<w7.heap.size:=by have:=X7.out.size;omega
    go_wp2_with (fail);refine(FI.out _ XI).mono ?_;rintro e w8 ⟨rfl,x8⟩;have y8:=Hd (Ext.tr (a:=w7) XI x8);have k8:=Zf y8.out zb k7;have zb8:b<w8.heap.size:=by have:=y8.out.size;omega
    clear x8 FI;go_upto_region 22 with(fail);refine wp_region_any (by kernel_rfl) ?_
    change wpAny _ _ _ _ _ _ _ (World.drew _)
    refine Za (i:=0) (op:=Op.move (Operand.tmp 13)) (t:=35) (d:=some 115) (v:=_) rfl (by decide +kernel) (fun _ _ _ h=>h) (by intro _;unfold Zb;go_simp;try with_reducible rfl) ?_
    try simp only[lay]
    refine Za (i:=1) (op:=Op.move (Operand.tmp 0)) (t:=22) (d:=some 116) (v:=_) rfl (by decide +kernel) (fun _ _ _ h=>h) (by intro _;unfold Zb;go_simp;try with_reducible rfl) ?_
    try simp only[lay]
    refine Za (i:=2) (op:=Op.move (Operand.tmp 16)) (t:=3) (d:=some 117) (v:=_) rfl (by decide +kernel) (fun _ _ _ h=>h) (by intro _;unfold Zb;go_simp;try with_reducible rfl) ?_
    try simp only[lay]
    refine Za (i:=3) (op:=Op.indexAddr 22 (Operand.tmp 116) (Operand.tmp 117)) (t:=0) (d:=some 118) (v:=_) rfl (by decide +kernel) (fun _ _ _ h=>h) (by intro _;unfold Zb;go_simp;try with_reducible rfl) ?_
    try simp only[lay]
    refine Za (i:=5) (op:=Op.move (Operand.tmp 17)) (t:=39) (d:=some 120) (v:=_) rfl (by decide +kernel) (fun _ _ _ h=>h) (by intro _;unfold Zb;go_simp;try with_reducible rfl) ?_
    try simp only[lay]
    refine Za (i:=8) (op:=Op.move (Operand.tmp 18)) (t:=22) (d:=some 123) (v:=_) rfl (by decide +kernel) (fun _ _ _ h=>h) (by intro _;unfold Zb;go_simp;try with_reducible rfl) ?_
    try simp only[lay]
    refine Zi (n:=3) [(4,some 119),(6,some 121)] (Ext w8) (VF (fun | 4=>some (.int .i64 x) | 6=>some (.int .i64 (s:Int)) | _=>none) (fun i v W=>True)) Ext #[true,true,true,true,true,true,true,false,true,false,false] (by decide +kernel) (VF.stab ?_) ?_ ?_ (by first | exact(Ext.rf _).drew | exact Ext.rf _)
    ·intro j v W W' _ _ _;trivial
    ·intro pS hpm uS wS hRW hD K hK
     simp only[List.mem_cons,List.not_mem_nil,or_false] at hpm;rcases hpm with rfl | rfl
     ·( have rX:=Zf hRW zb8 k8;exact Ze (T:=3) (x:=Operand.tmp 118) (t:=3) (d:=some 119) rfl (.pointer (some ⟨b,off+k,none⟩)) (by kernel_rfl) (.int .i64 x) (by go_simp) (hK _ _ (VF.mk rfl) hRW (Ext.rf _)))
     ·( exact Zh (f:=14) (xs:=#[Operand.tmp 120]) (ts:=#[39]) (t:=3) (d:=some 121) rfl #[.pointer (some ⟨ga,0,none⟩)] (by go_simp) (by kernel_rfl) _ (SL7.out _ (y8.out.tr hRW)) (by rintro e w9 ⟨rfl,xx⟩;exact⟨_,rfl,hK _ _ (VF.mk rfl) (hRW.tr xx) xx⟩))
    intro u w9 hR9 hV;have h4:=(hV (4,some 119) (by simp)).k rfl;have h6:=(hV (6,some 121) (by simp)).k rfl;simp only[Zc,h4,h6];clear hV h4 h6
    try simp only[lay]
    refine Za (i:=7) (op:=Op.build 52 #[(0,Operand.tmp 119),(1,Operand.tmp 121)]) (t:=52) (d:=some 122) (v:=_) rfl (by decide +kernel) (fun _ _ _ h=>h) (by intro _;unfold Zb;go_simp;try with_reducible rfl) ?_
    try simp only[lay]
    refine Zd 9 (by decide +kernel) (Zh (f:=19) (xs:=#[Operand.tmp 115,Operand.tmp 122,Operand.tmp 123]) (ts:=#[35,52,22]) (t:=4) (d:=some 124) rfl #[.pointer (some ⟨gq,0,none⟩),.agg #[.int .i64 x,.int .i64 (s:Int)],.slice B' ds.length d'] (by go_simp) (by kernel_rfl) _ (IY.out _ (y8.out.tr hR9)) ?_);rintro e wa ⟨rfl,Ra,ma⟩;have ma:ModT w.heap.size [72,88] w7 wa:=(ModT.of_ext (y8.out.tr hR9)).tr ma;have Sa:=Hd (S7.out.modT ma (by decide) (by decide) (by decide) (by decide) (by decide) (by decide));have Xa:=Hd (X7.out.modT ma (Nat.le_refl _));have Ra:=Hd Ra;clear ma IY SL7 hR9 y8 k7 k8 zb zb8 R7 X7 A7 S7;refine⟨_,rfl,?_⟩
    try simp only[lay]
    refine Za (i:=10) (op:=Op.unOp UnOp.not 4 (Operand.tmp 124)) (t:=4) (d:=some 125) (v:=_) rfl (by decide +kernel) (fun _ _ _ h=>h) (by intro _;unfold Zb;go_simp;try with_reducible rfl) ?_
    try simp only[lay]
    refine wpAny_done (by kernel_rfl) ?_ _;go_simp;go_wp2_with (fail);go_roundw
    case rel=>exact⟨k+1,sz+1,bd4,F',O',L2,by go_num,by go_num,by omega,by omega,Hd (Sa.out.ext XI),Hd (Ra.out.ext XI),KP,Hd (Xa.out.tr XI)⟩
    case measure=>simp[intOf];omega
  ·have hkn:k+1=n:=by omega
   have e1:¬((k:Int)<(n:Int)-1):=by omega
   have e2:(n:Int)-1<=(k:Int):=by omega
   obtain⟨wo,rfl⟩:=Wq wr;go_wp2_with (fail);go_loopw [15] (fun v wr=>∃ (z:Nat) (F O:List Nat) (L:List (List Nat)),v=.int .i64 z/\z<=31/\Hid (SM w.heap.size wr gm gc gp gn go gh n bd [] F O L)/\Hid (MoundRep wr w.heap.size gq (Zo bd L) z)/\Hid (KeptQ (Zo bd L) z 32 k)/\Hid (Ext w wr)) (fun v _=>(intOf v).toNat)
   case atStart=>exact⟨sz,F,O,L,rfl,by omega,S,R,K,X⟩
   case round =>
    clear S R K X;obtain⟨z,F,O,L,rfl,hz31,S,R,K,X⟩:=hrel
    by_cases hz:0<z
    ·have e3:(z:Int)>0:=by omega
     have wz:IntKind.i64.wrap ((z:Int)-1)=(z:Int)-1:=IntWalk.i64_in _ (by omega);have hl64:(Zo bd L).length=2*32:=K.out.len;obtain⟨s,l,hl1⟩:∃ s l,L.getD 1 []=s::l:=by
      have h1:=K.out.size
      cases hA:Yt (Zo bd L) with
      | nil=>rw[hA] at h1;simp at h1;omega
      | cons q r =>
       obtain⟨p,m,hp,_⟩:=K.out.ord.least (q:=q) (by rw[hA];exact List.mem_cons_self);rw[ZD] at hp
       cases hg:L.getD 1 [] with
       | nil=>rw[hg] at hp;cases hp
       | cons s l=>exact⟨s,l,rfl⟩
     have hp1:(Zo bd L).getD 1 []=(bd s,(s:Int))::itL bd l:=by rw[ZD,hl1];rfl
     have PO:Hid (∀ W,Ext wr W->Calls Try.prog 20 #[.pointer (some ⟨gh,0,none⟩)] W fun e w'=>∃ gu:Nat,e=.returned (.pointer (some ⟨gu,0,none⟩))/\Zk w' gu gh (Ym 4 (-1) false ⟨none,0,[]⟩ 1)/\wr.heap.size<=gu/\Ext wr w'):=Hd (fun W q=>(Qq W (S.out.ext q)).mono fun e w' h=>⟨_,h.1,h.2.1,q.size,q.tr h.2.2⟩);go_wp2_with (fail);refine(PO.out _ XI).mono ?_;rintro e w1 ⟨gu,rfl,HA,zu,x1⟩;have HE:=Hd (fun(W:World) (q:Ext w1 W)=>Qp g hn31 S.out hl1 (x1.tr q) gu zu (Blk.ext HA q));clear PO HA zu x1;go_wp2_with (fail);refine(HE.out _ XI).mono ?_;rintro e w2 ⟨rfl,⟨u,L2,HU,hu1,hu2,hu3,S2,hL2⟩,m2⟩;have R2:=Hd (R.out.modT m2 (by decide) (by decide) (by decide));have X2:=Hd (X.out.modT m2 (Nat.le_refl _));have S2:=Hd S2;have HU:=Hd HU;have KP:=K.out.pop (by omega) hp1;have OP:=fun(W:World) (q:Ext w2 W)=>U4 gq w.heap.size 32 (Zo bd L) z (bd s,(s:Int)) (itL bd l) W (R2.out.ext q) hl64 (by omega) (by omega) hp1 (by omega)
     rw[show 2*32=64 from rfl,<-hL2] at KP;simp only[show 2*32=64 from rfl,<-hL2] at OP;replace OP:=Hd OP;replace KP:=Hd KP;clear m2 HE S R K X hL2 hp1 hl1 hl64;go_wp2_with (fail);refine(OP.out _ XI).mono ?_;rintro e w3 ⟨rfl,R3,m3⟩;have m3:ModT w.heap.size [72,88] w2 w3:=(ModT.of_ext XI).tr m3;have S3:=Hd (S2.out.modT m3 (by decide) (by decide) (by decide) (by decide) (by decide) (by decide));have U3:=Hd (Blk.modT HU.out m3 (by decide));have X3:=Hd (X2.out.modT m3 (Nat.le_refl _));have R3:=Hd R3;clear m3 OP S2 HU X2 R2;go_upto_region 30 with(fail);have y4:Ext w3 (w3.alloc (.cells #[.int .i64 (bd s),.int .i64 (s:Int)] 52)):=(Ext.rf _).alloc _;have c4:(w3.alloc (.cells #[.int .i64 (bd s),.int .i64 (s:Int)] 52)).cell? ⟨w3.heap.size,0,none⟩=some (.int .i64 (bd s)):=Blk.cell (Blk.new rfl) 0;have z4:w3.heap.size<(w3.alloc (.cells #[.int .i64 (bd s),.int .i64 (s:Int)] 52)).heap.size:=by simp
     replace y4:=Hd y4;generalize w3.alloc (.cells #[.int .i64 (bd s),.int .i64 (s:Int)] 52)=w4 at *;generalize w3.heap.size=gi at *;have SL:=fun(W:World) (q:Ext w4 W)=>VQ gu gh u W (Blk.ext U3.out (y4.out.tr q)) hu1 hu2
     rw[hu3] at SL;replace SL:=Hd SL;have BO:=Hd (fun(W:World) (q:Ext w4 W)=>UB W s (S3.out.ext (y4.out.tr q)) hn31);have GV:=Hd (fun(W:World) (q:Ext w4 W)=>Vu W s (S3.out.ext (y4.out.tr q)) hn31);generalize hbs:bd s=bs at *;replace hbs:=Hd hbs;clear U3;refine wp_region_any (by kernel_rfl) ?_
     change wpAny _ _ _ _ _ _ _ (World.drew _)
     refine Za (i:=0) (op:=Op.move (Operand.tmp 23)) (t:=4) (d:=some 141) (v:=_) rfl (by decide +kernel) (fun _ _ _ h=>h) (by intro _;unfold Zb;go_simp;try with_reducible rfl) ?_
     try simp only[lay]
     refine Za (i:=1) (op:=Op.unOp UnOp.not 4 (Operand.tmp 141)) (t:=4) (d:=some 142) (v:=_) rfl (by decide +kernel) (fun _ _ _ h=>h) (by intro _;unfold Zb;go_simp;try with_reducible rfl) ?_
     try simp only[lay]
     refine Za (i:=2) (op:=Op.move (Operand.tmp 142)) (t:=4) (d:=some 143) (v:=_) rfl (by decide +kernel) (fun _ _ _ h=>h) (by intro _;unfold Zb;go_simp;try with_reducible rfl) ?_
     try simp only[lay]
     refine Zy (i:=3) (op:=Op.move (Operand.tmp 21)) (t:=46) (d:=some 144) (g:=(2,false)) (v:=_) rfl (by decide +kernel) (fun _ _ _ h=>h) (by kernel_rfl) (by intro _;unfold Zb;go_simp;try with_reducible rfl) ?_
     try simp only[lay]
     refine Zd 4 (by decide +kernel) (Yh (f:=22) (xs:=#[Operand.tmp 144]) (ts:=#[46]) (t:=3) (d:=some 145) rfl (by kernel_rfl) #[.pointer (some ⟨gu,0,none⟩)] (by go_simp) (by kernel_rfl) _ (SL.out _ (Ext.rf _).drew) ?_);rintro e w5 ⟨rfl,x5⟩;have y5:Hid (Ext w4 w5):=Hd (Ext.tr (Ext.rf w4).drew x5);have c5:=Zf y5.out z4 c4;have z5:gi<w5.heap.size:=by have:=y5.out.size;omega
     clear x5;refine⟨_,rfl,?_⟩
     try simp only[lay]
     have e5:decide ((s:Int)<0)=false:=decide_eq_false (by omega);refine YF (i:=5) (op:=Op.binOp BinOp.lss 3 (Operand.tmp 145) (Operand.const (Value.int IntKind.i64 0)) 3) (t:=4) (d:=some 146) (g:=(2,false)) (v:=.bool false) rfl (by decide +kernel) (by decide +kernel) (by decide +kernel) (fun _ _ _ h=>h) (by kernel_rfl) ?_ ?_
     ·(intro _;unfold Zb;go_simp;skip)
     try simp only[lay]
     refine Za (i:=6) (op:=Op.pick (Operand.tmp 143) (Operand.const (Value.bool true)) (Operand.tmp 146)) (t:=4) (d:=some 147) (v:=_) rfl (by decide +kernel) (fun _ _ _ h=>h) (by intro _;unfold Zb;go_simp;try with_reducible rfl) ?_
     try simp only[lay]
     refine Za (i:=7) (op:=Op.move (Operand.tmp 147)) (t:=4) (d:=some 148) (v:=_) rfl (by decide +kernel) (fun _ _ _ h=>h) (by intro _;unfold Zb;go_simp;try with_reducible rfl) ?_
     try simp only[lay]
     refine Zy (i:=8) (op:=Op.move (Operand.tmp 9)) (t:=29) (d:=some 149) (g:=(7,false)) (v:=_) rfl (by decide +kernel) (fun _ _ _ h=>h) (by kernel_rfl) (by intro _;unfold Zb;go_simp;try with_reducible rfl) ?_
     try simp only[lay]
     refine Zy (i:=9) (op:=Op.move (Operand.tmp 21)) (t:=46) (d:=some 150) (g:=(7,false)) (v:=_) rfl (by decide +kernel) (fun _ _ _ h=>h) (by kernel_rfl) (by intro _;unfold Zb;go_simp;try with_reducible rfl) ?_
     try simp only[lay]
     refine Zy (i:=12) (op:=Op.fieldAddr 52 (Operand.tmp 22) 0) (t:=0) (d:=some 153) (g:=(7,false)) (v:=_) rfl (by decide +kernel) (fun _ _ _ h=>h) (by kernel_rfl) (by intro _;unfold Zb;go_simp;try with_reducible rfl) ?_
     try simp only[lay]
     refine Zi (n:=2) [(10,some 151),(11,some 152),(13,some 154)] (Ext w5) (VF (fun | 10=>some (.int .i64 (s:Int)) | 11=>some (.int .i64 bs) | 13=>some (.int .i64 bs) | _=>none) (fun i v W=>True)) Ext #[true,true,true,true,true,true,true,true,true,true,true,true,true,true,false,false] (by decide +kernel) (VF.stab ?_) ?_ ?_ (by first | exact(Ext.rf _).drew | exact Ext.rf _)
     ·intro j v W W' _ _ _;trivial
     ·intro pS hpm uS wS hRW hD K hK
      simp only[List.mem_cons,List.not_mem_nil,or_false] at hpm;rcases hpm with rfl | rfl | rfl
      ·( exact Yh (f:=22) (xs:=#[Operand.tmp 150]) (ts:=#[46]) (t:=3) (d:=some 151) rfl (by kernel_rfl) #[.pointer (some ⟨gu,0,none⟩)] (by go_simp) (by kernel_rfl) _ (SL.out _ (y5.out.tr hRW)) (by rintro e w9 ⟨rfl,xx⟩;exact⟨_,rfl,hK _ _ (VF.mk rfl) (hRW.tr xx) xx⟩))
      ·(have e10:uS 10=.int .i64 (s:Int):=(hD 10 (Zg (by kernel_rfl))).k rfl;exact Yh (f:=23) (xs:=#[Operand.tmp 149,Operand.tmp 151]) (ts:=#[29,3]) (t:=3) (d:=some 152) rfl (by kernel_rfl) #[.pointer (some ⟨gp,0,none⟩),.int .i64 (s:Int)] (by go_simp) (Eq.trans (b:=#[.pointer (some ⟨gp,0,none⟩),uS 10]) (by kernel_rfl) (by rw[e10])) _ (BO.out _ (y5.out.tr hRW)) (by rintro e w9 ⟨rfl,xx⟩;exact⟨_,rfl,hK _ _ (VF.mk rfl) (hRW.tr xx) xx⟩))
      ·( have rX:=Zf hRW z5 c5;exact WW (T:=3) (x:=Operand.tmp 153) (t:=3) (d:=some 154) rfl (by kernel_rfl) (.pointer (some ⟨gi,0,none⟩)) (by kernel_rfl) (.int .i64 bs) (by go_simp) (hK _ _ (VF.mk rfl) hRW (Ext.rf _)))
     intro u w6 hR6 hV;have h10:=(hV (10,some 151) (by simp)).k rfl;have h11:=(hV (11,some 152) (by simp)).k rfl;have h13:=(hV (13,some 154) (by simp)).k rfl;simp only[Zc,h10,h11,h13];clear hV h10 h11 h13
     try simp only[lay]
     refine YF (i:=14) (op:=Op.binOp BinOp.neq 3 (Operand.tmp 152) (Operand.tmp 154) 3) (t:=4) (d:=some 155) (g:=(7,false)) (v:=.bool false) rfl (by decide +kernel) (by decide +kernel) (by decide +kernel) (fun _ _ _ h=>h) (by kernel_rfl) ?_ ?_
     ·(intro _;unfold Zb;go_simp;skip)
     try simp only[lay]
     refine Za (i:=15) (op:=Op.pick (Operand.tmp 148) (Operand.const (Value.bool true)) (Operand.tmp 155)) (t:=4) (d:=some 156) (v:=_) rfl (by decide +kernel) (fun _ _ _ h=>h) (by intro _;unfold Zb;go_simp;try with_reducible rfl) ?_
     try simp only[lay]
     refine wpAny_done (by kernel_rfl) ?_ _;go_simp;have y6:=Hd (y5.out.tr hR6);clear hR6 y5 c5 z5 c4 z4 BO;go_wp2_with (fail);refine(SL.out _ (y6.out.tr XI)).mono ?_;rintro e w7 ⟨rfl,x7⟩;have y7:=Hd (y6.out.tr (Ext.tr (a:=w6) XI x7));clear x7 SL y6;go_wp2_with (fail);refine(GV.out _ (y7.out.tr XI)).mono ?_;rintro e wa ⟨gv,rfl,Aa,za,xa⟩;have ya:=Hd (y4.out.tr (y7.out.tr (Ext.tr (a:=w7) XI xa)));have hgv:w.heap.size<=gv:=by have:=X3.out.size;have:=y4.out.size;have:=y7.out.size;first | omega | (simp at za;omega)
     have PG:=Hd (fun(W:World) (q:Ext wa W)=>Vs g hn31 (by have:=X3.out.size;have:=ya.out.size;have:=q.size;omega) (S3.out.ext (ya.out.tr q)) gv hgv (Blk.ext Aa q));clear xa GV y7 za Aa y4;go_wp2_with (fail);refine(PG.out _ XI).mono ?_;rintro e wb ⟨rfl,F2,O2,Sb,mb⟩;have mb:ModT w.heap.size TP w3 wb:=(ModT.of_ext (ya.out.tr XI)).tr mb;have Rb:=Hd (R3.out.modT mb (by decide) (by decide) (by decide));have Xb:=Hd (X3.out.modT mb (Nat.le_refl _));have Sb:=Hd Sb;clear mb PG R3 X3 S3 ya;go_wp2_with (fail);go_roundw
     case rel=>exact⟨z-1,F2,O2,L2,by first | (rw[show ((z-1:Nat):Int)=(z:Int)-1 by omega];done) | (rw[show ((z-1:Nat):Int)=(z:Int)-1 by omega];simp[wz]),by omega,Hd (Sb.out.ext XI),Hd (by rw[show ((z-1:Nat):Int)=(z:Int)-1 by omega];exact Rb.out.ext XI),Hd (by rw[show ((z-1:Nat):Int)=(z:Int)-1 by omega];exact KP.out),Hd (Xb.out.tr XI)⟩
     case measure=>simp[intOf];omega
    ·obtain rfl:z=0:=by omega
     have hLn:L.flatten=[]:=by
      have h1:=K.out.size;have h2:=ZZ bd L;have h3:Yt (Zo bd L)=[]:=List.eq_nil_of_length_eq_zero (by omega);rw[<-h2,h3]
      rfl
     have hc:=S.out.count hLn;have SH:=Hd (fun(W:World) (q:Ext wr W)=>VZ W (S.out.ext q) hn31 (by omega));have OW:=Hd (fun(W:World) (q:Ext wr W)=>Qr W (S.out.ext q) (by omega));have wq:IntKind.i64.wrap ((F.length:Int)+(O.length:Int))=(n:Int):=(IntWalk.i64_in _ (by omega)).trans (by omega);clear hLn hc R K S;generalize F.length=fl at *;generalize O.length=ol at *;go_wp2_with (fail);refine(SH.out _ XI).mono ?_;rintro e w1 ⟨A1,c1,rfl,x1⟩;have y1:=Hd (Ext.tr (a:=wr) XI x1);clear x1 SH;go_wp2_with (fail);refine(OW.out _ (y1.out.tr XI)).mono ?_;rintro e w2 ⟨A2,c2,rfl,x2⟩;have y2:=Hd (y1.out.tr (Ext.tr (a:=w1) XI x2));clear x2 OW y1;go_wp2_with (fail);go_ret;exact⟨by simp,X.out.tr (y2.out.tr XI)⟩
theorem lifted (os:Os)(started:os.Started)(H:Type)(enc:TypeId×Value->H) :
  ReturnsInHanded {} Try.checked os 3 .any (Rows.kurganQueuesSpec.pre6 enc Try.prog Try.f3 Rows.kurganQueuesRow.domain false) (Rows.kurganQueuesSpec.post enc Try.prog Try.f3 false true false false):=by
 refine returnsInHanded_of_change (C:=Try.checked) own started (by kernel_rfl) Try.func3
  (ChangeSpec.witness6 (enc:=enc) (C:=Try.checked) false ⟨#[],#[.slice none 0 0,.slice none 0 0],[]⟩ 8 (by kernel_rfl) (by kernel_rfl) (by kernel_rfl) (by kernel_rfl)) ?_
 intro W base args ds gs before hval0 hW _ _;have hval:∀ (j:Nat) t v,Try.f3.params[j]?=some t->args[j]?=some v->Value.okWide Try.prog W .any base t v:=hval0;have hW':=hW;obtain⟨p,q,hA0,hV,rfl,hfz,hnd⟩:=hW;have hA:DataW.TrodAll enc Try.prog W 0 (fun _=>true) true Try.f3.params.toList args.toList ds p:=hA0;rw[Try.params3] at hA hval;obtain⟨v0,vs0,d0,ds0,p0,q0,hargs,rfl,rfl,h0,r0⟩:=trodAll_cons hA;obtain⟨v1,vs1,d1,ds1,p1,q1,rfl,rfl,rfl,h1,r1⟩:=trodAll_cons r0;obtain⟨rfl,rfl,rfl⟩:=trodAll_nil r1;obtain rfl:args=#[v0,v1]:=by cases args;simp_all
 obtain⟨rfl,rfl⟩:=trodVars_none hV;obtain⟨A0,x0,c0,rfl,hx0,ix0,lx0,lc0⟩:=Wn h0 (hval 0 _ v0 rfl rfl);obtain⟨A1,x1,c1,rfl,hx1,ix1,lx1,lc1⟩:=Wn h1 (hval 1 _ v1 rfl rfl);refine(QP A0 c0 x0 A1 c1 x1 W hx0 ix0 lx0 lc0 hx1 ix1 lx1 lc1).mono fun e W' ⟨he,hg⟩=>?_
 subst he;exact⟨_,rfl,V1 hW' rfl rfl rfl rfl rfl (Wm (by kernel_rfl)) hg⟩
theorem proved : Rows.KurganQueuesSaid :=
 OpenClaim.holds_of_wide 3 Try.f3 rfl rfl rfl rfl rfl rfl rfl ⟨rfl,rfl,rfl,rfl,rfl⟩ rfl rfl rfl rfl rfl (by kernel_rfl) Try.func3 (by kernel_rfl)
  (of_decide_eq_true (by kernel_rfl)) (by unfold Func.isWrapper;first | (rw[if_pos (by decide +kernel)];kernel_rfl) | (rw[if_neg (by decide +kernel)];exact⟨rfl,rfl⟩))
  (fun os started H enc _=>lifted os started H enc)
end
end Go.Proofs.Ytgimmiaenkeohaa.kurganQueues
