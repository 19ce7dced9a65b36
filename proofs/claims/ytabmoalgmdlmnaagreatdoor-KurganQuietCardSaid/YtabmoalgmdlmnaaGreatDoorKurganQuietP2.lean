/- parts, packed by a program -/
import Derived.Test.YtabmoalgmdlmnaaGreatDoorKurganQuietP1
import Derived.Lib.ItoaLen
import Derived.ChangeMaps5
import Derived.LaidMore
import Derived.Lay
import Derived.SevenTiedAt
import Derived.Stop.Joined
import Derived.Stop.LaidErr
import Derived.Lib.LaidTab
import Derived.Test.YtabmoalgmdlmnaaGreatDoorRows
import Derived.Test.YtabmoalgmdlmnaaGreatDoorCards
import Derived.Test.YtabmoalgmdlmnaaGreatDoorTie
import Derived.Test.YtabmoalgmdlmnaaGreatDoorChecked
set_option maxRecDepth 100000
set_option maxHeartbeats 16000000
set_option linter.all false
namespace Go.Proofs.YtabmoalgmdlmnaaGreatDoor
open Go.RowKit Go.ChangeShapes Go.WideShapes Go.ChangeAt Go.Deep
def ZA (word:Txt)(l:List Int) : Txt:=l.foldl (fun v n=>v++[32]++Lib.itoa n) word
def Yo (word:Txt)(l:List Int) : Txt:=ZA word l++[10]
theorem YO (word:Txt)(l:List Int)(n:Int) : ZA word (l++[n])=ZA word l++[32]++Lib.itoa n:=by simp[ZA]
theorem Yp : ∀ (l:List Int) (word:Txt),Ints l->(ZA word l).length<=word.length+22*l.length
 | [],word,_=>by simp[ZA]
 | n::l,word,h=>by
  have h1:=Yp l (word++[32]++Lib.itoa n) fun x hx=>h x (List.mem_cons_of_mem _ hx)
  have h2:=h n List.mem_cons_self;have h3:=Lib.itoa_length_le n h2.1 h2.2;have e:ZA word (n::l)=ZA (word++[32]++Lib.itoa n) l:=rfl;rw[e];simp only[List.length_append,List.length_cons,List.length_nil] at h1 ⊢;omega
theorem XG {l:List Int}{k:Nat}{x:Int}(h:l[k]?=some x) : l.take (k+1)=l.take k++[x]:=by rw[List.take_add_one,h];rfl
theorem YA (word:Txt)(A:Option Addr)(c:Nat)(l:List Int)(w:World)(hA:RdI w A l)(il:Ints l)(ll:l.length<=100)(lw:word.length<=1000)(hT:Ten w) :
  Calls Tryz.prog 11 #[.string ⟨word.toArray⟩,.slice A l.length c] w fun e w'=>e=.returned (.string ⟨(Yo word l).toArray⟩)/\Ext w w':=by
 have NL:=fun(q:List Int) (h:Ints q)=>Yp q word h
 replace NL:=Hd NL;have WR:=Hd (fun(n:Int) (h:-9223372036854775808<=n/\n<=9223372036854775807) (W:World) (x:Ext w W)=>Yn n h.1 h.2 W (hT.ext x));have IL:=Hd il;go_enter Tryz.func11,Tryz.ntmps11;go_wp2_with (fail);go_loopw [0,6,9] (fun v _ u wr=>∃ (k:Nat) (L:Txt),v=.string ⟨L.toArray⟩/\u=.int .i64 (k:Int)/\k<=l.length/\Hid (L=ZA word (l.take k))/\Hid (Ext w wr)) (fun _ _ u _=>l.length-(intOf u).toNat)
 case atStart=>exact⟨0,word,rfl,rfl,by omega,Hd (by simp[ZA]),XI⟩
 case round =>
  obtain⟨wo,rfl⟩:=Wq wr;obtain⟨k,L,rfl,rfl,hk,hL,X⟩:=hrel;have hlen:=NL.out (l.take k) (fun x hx=>IL.out x (List.mem_of_mem_take hx));rw[<-hL.out,List.length_take] at hlen;have hl9:L.length<=4000:=by
   have:=Nat.min_le_left k l.length;omega
  by_cases hlt:k<l.length
  ·obtain⟨b,off,x,rfl,hb,hc,hx,hd⟩:=(hA.ext X.out).at hlt
   have hi:=IL.out x (List.mem_of_getElem? hx.out);have hsn:=XG hx.out;have W1:=Hd (WR.out x hi);have li:=Lib.itoa_length_le x hi.1 hi.2;obtain⟨D,hD⟩:∃ D,Lib.itoa x=D:=⟨_,rfl⟩;rw[hD] at W1 li;have hL2:Hid (L++([32]++D)=ZA word (l.take (k+1))):=Hd (by rw[hsn,YO,<-hL.out,hD,List.append_assoc]);have e1:(⟨#[32]⟩:ByteArray)++⟨D.toArray⟩=⟨([32]++D).toArray⟩:=Zv [32] D;have e2:(⟨L.toArray⟩:ByteArray)++⟨([32]++D).toArray⟩=⟨(L++([32]++D)).toArray⟩:=Zv _ _;have l1:¬9223372036854775807<1+D.length:=by omega
   have l2:¬9223372036854775807<L.length+(1+D.length):=by omega
   have l3:¬9223372036854775807<L.length+(D.length+1):=by omega
   obtain⟨L2,hL3⟩:∃ L2,L++([32]++D)=L2:=⟨_,rfl⟩;replace e1:=Hd e1;replace e2:=Hd e2;replace hx:=Hd hx;clear hsn hd hD hlen;go_wp2_with (fail);refine(W1.out _ (X.out.tr XI)).mono ?_;rintro e w1 ⟨rfl,x1⟩;have X1:=Hd (X.out.tr (Ext.tr XI x1));clear x1 hc;go_wp2_with (fail);go_roundw
   case rel=>exact⟨k+1,L++([32]++D),by rw[<-e2.out,<-e1.out],by go_num,by omega,hL2,X1.out.tr XI⟩
   case measure=>simp[intOf];omega
  ·obtain rfl:k=l.length:=by omega
   have e1:(⟨L.toArray⟩:ByteArray)++⟨#[10]⟩=⟨(L++[10]).toArray⟩:=Zv L [10];have l1:¬9223372036854775807<L.length+1:=by omega
   have hF:Hid (Yo word l=L++[10]):=Hd (by unfold Yo;rw[hL.out,List.take_length]);replace e1:=Hd e1;clear hlen;go_wp2_with (fail);go_ret;rw[hF.out];exact⟨by rw[<-e1.out];rfl,X.out.tr XI⟩
def Yi (s:Txt)(a:Int)(er:Int) : Txt:=Yo ([69,82,82,79,82,32]++Lib.itoa er++[32,97,116]) [(Zt s a).1,(Zt s a).2]
theorem ZO (s:ByteArray)(a:Int) : ∀ (f p:Nat) (l c:Int),1<=l->1<=c->1<=(Zp s a f p l c).1/\1<=(Zp s a f p l c).2/\(Zp s a f p l c).1<=l+f/\(Zp s a f p l c).2<=c+f+1
 | 0,_,l,c,h1,h2=>by unfold Zp;exact⟨h1,h2,by omega,by omega⟩
 | f+1,p,l,c,h1,h2=>by
  unfold Zp;split
  ·exact⟨h1,h2,by simp;omega,by simp;omega⟩
  split
  ·have:=ZO s a f (p+(Utf8.decode s p).2) (l+1) 1 (by omega) (by omega)
   omega
  ·have:=ZO s a f (p+(Utf8.decode s p).2) l (c+1) h1 (by omega)
   omega
theorem ZZ (s:Txt)(a er:Int)(w:World)(hs:s.length<=60000)(h0:0<=er)(h1:er<=100)(hT:Ten w) :
  Calls Tryz.prog 9 #[.string ⟨#[69,82,82,79,82]⟩,.int .i64 er,.string ⟨s.toArray⟩,.int .i64 a] w fun e w'=>e=.returned (.string ⟨(Yi s a er).toArray⟩)/\Ext w w':=by
 have PL:=Hd (fun(W:World)=>YZ s a W (by omega));have pr:=ZO ⟨s.toArray⟩ a (s.length+1) 0 1 1 (by omega) (by omega);have WR:=Hd (fun(W:World) (x:Ext w W)=>Yn er (by omega) (by omega) W (hT.ext x));have li:=Lib.itoa_length_le er (by omega) (by omega);have LN:=Hd (fun(W:World) (x:Ext w W) (A:Option Addr) (c:Nat) (l:List Int) (word:Txt) (hA:RdI W A l) (il:Ints l) (ll:l.length<=100) (lw:word.length<=1000)=>YA word A c l W hA il ll lw (hT.ext x));have RF:Hid (Yi s a er=Yo ([69,82,82,79,82,32]++Lib.itoa er++[32,97,116]) [(Zt s a).1,(Zt s a).2]):=Hd rfl;have hp:Zt s a=Zp ⟨s.toArray⟩ a (s.length+1) 0 1 1:=rfl;rw[<-hp] at pr;generalize Yi s a er=RT at *;generalize Zt s a=pp at *;obtain⟨p1,p2⟩:=pp;simp only at pr RF PL;obtain⟨q1,q2,q3,q4⟩:=pr;have il:Ints [p1,p2]:=fun x hx=>by simp at hx;rcases hx with rfl | rfl<;>constructor<;>omega
 generalize Lib.itoa er=D at *;have e1:(⟨#[69,82,82,79,82,32]⟩:ByteArray)++⟨D.toArray⟩=⟨([69,82,82,79,82,32]++D).toArray⟩:=Zv [69,82,82,79,82,32] D;have e2:(⟨([69,82,82,79,82,32]++D).toArray⟩:ByteArray)++⟨#[32,97,116]⟩=⟨([69,82,82,79,82,32]++D++[32,97,116]).toArray⟩:=Zv _ [32,97,116];have l2:¬9223372036854775807<6+D.length:=by omega
 have l3:¬9223372036854775807<D.length+6:=by omega
 have l4:¬9223372036854775807<6+D.length+3:=by omega
 have l5:¬9223372036854775807<D.length+6+3:=by omega
 have LN2:=Hd (fun(W:World) (x:Ext w W) (A:Option Addr) (hA:RdI W A [p1,p2])=>LN.out W x A 2 [p1,p2] ([69,82,82,79,82,32]++D++[32,97,116]) hA il (by simp) (by simp;omega));rw[<-RF.out] at LN2;rw[<-e2,<-e1] at LN2;replace il:=Hd il;clear e1 e2 hp LN RF hT;go_enter Tryz.func9,Tryz.ntmps9;go_wp2_with (fail);refine(PL.out _).mono ?_;rintro e w1 ⟨rfl,x1⟩;have X1:=Hd (Ext.tr (a:=w) XI x1);clear x1 PL;go_wp2_with (fail);refine(WR.out _ (X1.out.tr XI)).mono ?_;rintro e w2 ⟨rfl,x2⟩;have X2:=Hd (X1.out.tr (Ext.tr XI x2));clear x2 WR;go_wp2_with (fail);refine(LN2.out _ (X2.out.tr XI) (some ⟨w2.heap.size,0,none⟩) ?_).mono ?_
 ·exact .blk (.new (by simp)) rfl
 rintro e w3 ⟨rfl,x3⟩;have X3:=Hd (X2.out.tr (Ext.tr XI x3));clear x3 LN2;go_wp2_with (fail);go_ret;exact⟨rfl,X3.out.tr XI⟩
abbrev wrB : ByteArray:=⟨#[87,82,79,78,71]⟩
structure RdW (w:World)(gr b off n c:Nat)(a:Int) : Prop where
 r:Blk w gr 64 #[.slice (some ⟨b,off,none⟩) n c,.int .i64 a]
 n1:1<=n
 z:b<w.heap.size
 c0:w.cell? ⟨b,off,none⟩=some (.int .i64 1)
 c1:w.cell? ⟨b,off+1,none⟩=some (.string wrB)
 c2:w.cell? ⟨b,off+2,none⟩=some (.int .i64 0)
 c3:w.cell? ⟨b,off+3,none⟩=some (.int .i64 0)
theorem RdW.ext {w w':World}{gr b off n c:Nat}{a:Int}(h:RdW w gr b off n c a)(x:Ext w w') : RdW w' gr b off n c a :=
 ⟨h.r.ext x,h.n1,Nat.lt_of_lt_of_le h.z x.size,Zl x h.z h.c0,Zl x h.z h.c1,Zl x h.z h.c2,Zl x h.z h.c3⟩
theorem XB (gr b off n c:Nat)(a:Int)(w:World)(H:RdW w gr b off n c a) :
  Calls Tryz.prog 114 #[.pointer (some ⟨gr,0,none⟩)] w fun e w'=>e=.returned (.agg #[.int .i64 1,.string wrB,.int .i64 0,.int .i64 0])/\Ext w w':=by
 have X:Ext w (w.alloc (.cells #[.int .i64 0,.string ⟨#[]⟩,.int .i64 0,.int .i64 0] 129)):=(Ext.rf w).alloc _;have B:Blk (w.alloc (.cells #[.int .i64 0,.string ⟨#[]⟩,.int .i64 0,.int .i64 0] 129)) w.heap.size 129 #[.int .i64 0,.string ⟨#[]⟩,.int .i64 0,.int .i64 0]:=.new rfl;have H1:=H.ext X;obtain⟨hr,n1,z,c0,c1,c2,c3⟩:=H1;have r0:=hr.cell 0;have k0:=B.cell 0;have k1:=B.cell 1;have k2:=B.cell 2;have k3:=B.cell 3;have f0:=B.free 0;have f1:=B.free 1;have f2:=B.free 2;have f3:=B.free 3;have hn:(0:Int)<(n:Int):=by omega
 clear hr H;replace X:=Hd X;replace B:=Hd B;go_enter Tryz.func114,Tryz.ntmps114;go_wp2_with (fail);exact bodyPost_ret (v:=.agg #[.int .i64 1,.string wrB,.int .i64 0,.int .i64 0]) (by simp[results,Tryz.results114,go_sem, *]) rfl ⟨rfl,XI⟩
theorem RdW.set {w:World}{gr b off n c:Nat}{a:Int}(h:RdW w gr b off n c a)(hbe:b≠gr)(v:Int) : RdW (w.setCell ⟨gr,1,none⟩ (.int .i64 v)) gr b off n c v:=by
 have hc:∀ o u,w.cell? ⟨b,o,none⟩=some u->(w.setCell ⟨gr,1,none⟩ (.int .i64 v)).cell? ⟨b,o,none⟩=some u:=fun o u hu=>by
  exact(World.cell?_setCell_other w _ _ _ (by intro e;injection e with e1;exact hbe e1.symm)).trans hu
 exact⟨h.r.set 1 _,h.n1,by simpa using h.z,hc _ _ h.c0,hc _ _ h.c1,hc _ _ h.c2,hc _ _ h.c3⟩
theorem Yg (k:Int)(w:World) : Calls Tryz.prog 48 #[.int .i64 k] w fun e w'=>e=.returned (.string (if k=1 then⟨#[75,78,65,80,83,65,67,75]⟩ else if k=2 then⟨#[65,83,83,73,71,78,77,69,78,84]⟩ else if k=3 then⟨#[84,83,80]⟩ else⟨#[]⟩))/\Ext w w':=by
 by_cases h1:k=1
 ·subst h1
  go_enter Tryz.func48,Tryz.ntmps48;go_wp2_with (fail);go_ret;exact⟨rfl,XI⟩
 by_cases h2:k=2
 ·subst h2
  go_enter Tryz.func48,Tryz.ntmps48;go_wp2_with (fail);go_ret;exact⟨rfl,XI⟩
 by_cases h3:k=3
 ·subst h3
  go_enter Tryz.func48,Tryz.ntmps48;go_wp2_with (fail);go_ret;exact⟨rfl,XI⟩
 ·rw[if_neg h1,if_neg h2,if_neg h3]
  have e1:(k==1)=false:=by simpa using h1
  have e2:(k==2)=false:=by simpa using h2
  have e3:(k==3)=false:=by simpa using h3
  clear h1 h2 h3;go_enter Tryz.func48,Tryz.ntmps48;go_wp2_with (fail);go_ret;exact⟨rfl,XI⟩
def YS (w:World)(nb:Nat) : Prop:=Blk w nb 9 #[.string ⟨#[75,78,65,80,83,65,67,75]⟩,.string ⟨#[65,83,83,73,71,78,77,69,78,84]⟩,.string ⟨#[84,83,80]⟩]
theorem XC (base gr b off n c:Nat)(a:Int)(nb:Nat)(w:World)(H:RdW w gr b off n c a)(hb:base<=gr)(hb2:base<=w.heap.size)(HN:YS w nb)(hne:nb≠gr)(hbe:b≠gr) :
  Calls Tryz.prog 47 #[.pointer (some ⟨gr,0,none⟩),.slice (some ⟨nb,0,none⟩) 3 3] w fun e w'=>e=.returned (.tuple #[.int .i64 0,.int .i64 3])/\RdW w' gr b off n c 0/\ModT base [64] w w':=by
 have NX:=Hd (fun(W:World) (x:Ext w W)=>XB gr b off n c a W (H.ext x));have HH:=Hd H;have HNN:=Hd (show Blk w nb 9 #[.string ⟨#[75,78,65,80,83,65,67,75]⟩,.string ⟨#[65,83,83,73,71,78,77,69,78,84]⟩,.string ⟨#[84,83,80]⟩] from HN);have hbw:base<=w.heap.size:=hb2;clear H HN hb2;go_enter Tryz.func47,Tryz.ntmps47;go_wp2_with (fail);refine(NX.out _ XI).mono ?_;rintro e w1 ⟨rfl,x1⟩;have X1:=Hd (Ext.tr (a:=w) XI x1);clear x1 NX;have r0:=(HH.out.ext X1.out).r;have q1:=r0.cell 1;have g1:=r0.free 1;have zr:=r0.lt;have zne:w1.heap.size≠gr:=by omega
 have zne2:gr≠w1.heap.size:=fun h=>zne h.symm
 clear r0;have M2:=Hd ((((ModT.of_ext X1.out:ModT base [64] w w1)).tr (ModT.set w1 (HH.out.ext X1.out).r (by simp) hb 1 (.int .i64 0))).tr (ModT.of_ext ((Ext.rf (w1.setCell ⟨gr,1,none⟩ (.int .i64 0))).alloc (.cells #[.int .i64 1,.string wrB,.int .i64 0,.int .i64 0] 129))));have H2:=Hd (((HH.out.ext X1.out).set hbe 0).ext ((Ext.rf _).alloc (.cells #[.int .i64 1,.string wrB,.int .i64 0,.int .i64 0] 129)));have N2:=Hd ((((HNN.out.ext X1.out).far (p:=⟨gr,1,none⟩) hne (.int .i64 0))).ext ((Ext.rf _).alloc (.cells #[.int .i64 1,.string wrB,.int .i64 0,.int .i64 0] 129)));have B6:Hid (Blk ((w1.setCell ⟨gr,1,none⟩ (.int .i64 0)).alloc (.cells #[.int .i64 1,.string wrB,.int .i64 0,.int .i64 0] 129)) w1.heap.size 129 #[.int .i64 1,.string wrB,.int .i64 0,.int .i64 0]):=Hd (.new (by simp));go_upto_region 3 with(fail);generalize ((w1.setCell ⟨gr,1,none⟩ (.int .i64 0)).alloc (.cells #[.int .i64 1,.string wrB,.int .i64 0,.int .i64 0] 129))=w2 at *;obtain⟨tb,htb⟩:∃ tb,tb=w1.heap.size:=⟨_,rfl⟩;rw[<-htb] at B6 ⊢;clear htb zne zne2 q1 g1 zr;have k0:=B6.out.cell 0;go_wp2_with (fail);go_loopw [7,8,21] (fun _ _ u wr=>∃ k:Nat,u=.int .i64 (k:Int)/\k<=3/\Hid (Ext w2 wr)) (fun _ _ u _=>3-(intOf u).toNat)
 case atStart=>exact⟨0,rfl,by omega,XI⟩
 case round =>
  obtain⟨wo,rfl⟩:=Wq wr;obtain⟨k,rfl,hk,Y⟩:=hrel;clear k0;have b6:=B6.out.ext Y.out;have n6:=N2.out.ext Y.out;have k0:=b6.cell 0;have k1:=b6.cell 1;have z0:=n6.cell 0;have z1:=n6.cell 1;have z2:=n6.cell 2;clear b6 n6
  by_cases hlt:k<3
  ·have hk3:k=0\/k=1\/k=2:=by omega
   clear hk hlt;rcases hk3 with rfl | rfl | rfl
   ·go_wp2_with (fail)
    go_roundw
    case rel=>exact⟨1,by go_num,by omega,Y.out.tr XI⟩
    case measure=>simp[intOf]
   ·go_wp2_with (fail)
    go_roundw
    case rel=>exact⟨2,by go_num,by omega,Y.out.tr XI⟩
    case measure=>simp[intOf]
   ·go_wp2_with (fail)
    go_roundw
    case rel=>exact⟨3,by go_num,by omega,Y.out.tr XI⟩
    case measure=>simp[intOf]
  ·obtain rfl:k=3:=by omega
   go_wp2_with (fail);go_ret2;exact⟨rfl,(H2.out.ext Y.out).ext XI,(M2.out.tr (ModT.of_ext Y.out)).tr (ModT.of_ext XI)⟩
theorem Y3 (base gr b off n c:Nat)(a:Int)(gi:Nat)(w:World)(H:RdW w gr b off n c a)(hb:base<=gr)(hb2:base<=w.heap.size)(hbe:b≠gr) :
  Calls Tryz.prog 20 #[.pointer (some ⟨gr,0,none⟩),.pointer (some ⟨gi,0,none⟩)] w fun e w'=>e=.returned (.int .i64 3)/\RdW w' gr b off n c 0/\ModT base [64] w w':=by
 have WO:=Hd (fun(W:World) (x:Ext w W) (nb:Nat) (HN:YS W nb) (hn:w.heap.size<=nb)=>XC base gr b off n c a nb W (H.ext x) hb (by have:=x.size;omega) HN (by have:=H.r.lt;omega) hbe);clear H;go_enter Tryz.func20,Tryz.ntmps20;go_wp2_with (fail);refine(Yg 1 _).mono ?_;rintro e w1 ⟨rfl,x1⟩;have X1:=Hd (Ext.tr (a:=w) XI x1);clear x1;go_wp2_with (fail);refine(Yg 2 _).mono ?_;rintro e w2 ⟨rfl,x2⟩;have X2:=Hd (X1.out.tr (Ext.tr XI x2));clear x2;go_wp2_with (fail);refine(Yg 3 _).mono ?_;rintro e w3 ⟨rfl,x3⟩;have X3:=Hd (X2.out.tr (Ext.tr XI x3));have z3:=X3.out.size;clear x3;go_wp2_with (fail);refine(WO.out _ (X3.out.tr XI) w3.heap.size (show Blk _ _ _ _ from .new (by simp)) z3).mono ?_;rintro e w4 ⟨rfl,r4,m4⟩;have R4:=Hd r4;have M4:=Hd ((ModT.of_ext (X3.out.tr XI)).tr m4);clear r4 m4 WO;go_wp2_with (fail);go_ret;exact⟨rfl,R4.out.ext XI,M4.out.tr (ModT.of_ext XI)⟩
theorem ScanPost.yes {tk:List Tok}{n:Nat}{w w':World}{e:Ending}(h:ScanPost (tk,n,0) w e w') : Ext w w'/\∃ A c,e=.returned (.tuple #[.slice A tk.length c,.int .i64 0,.int .i64 0])/\OwV w' w.heap.size 129 4 A tk.length c (ZL tk):=⟨h.1,by have:=h.2;rwa [if_pos rfl] at this⟩
theorem ScanPost.no {tk:List Tok}{n:Nat}{er:Int}{w w':World}{e:Ending}(h:ScanPost (tk,n,er) w e w')(he:er≠0) : Ext w w'/\e=.returned (.tuple #[.slice none 0 0,.int .i64 (n:Int),.int .i64 er]):=⟨h.1,by have:=h.2;rwa [if_neg he] at this⟩
def Zh (s:Txt) : Int×Int:=if (Zn s).2.2=0 then(0,3) else((Zn s).2.1,(Zn s).2.2)
theorem YT (s:Txt)(w:World)(hs:s.length<=60000)(hU:UT w)(hW:(Zn s).2.2=0->(Zn s).1.head?=some ⟨1,Zg,0,0⟩) :
  Calls Tryz.prog 8 #[.string ⟨s.toArray⟩] w fun e w'=>e=.returned (.tuple #[.agg #[.int .i64 0,.int .i64 0,.int .i64 0,.slice none 0 0,.slice none 0 0,.slice none 0 0],.int .i64 (Zh s).1,.int .i64 (Zh s).2])/\Ext w w':=by
 have SC:=Hd (fun(W:World) (x:Ext w W)=>Xh s W (by omega) (hU.ext x));unfold Zh;have BZ:Hid (Blk (w.alloc (.cells #[.int .i64 0,.int .i64 0,.int .i64 0,.slice none 0 0,.slice none 0 0,.slice none 0 0] 30)) w.heap.size 30 #[.int .i64 0,.int .i64 0,.int .i64 0,.slice none 0 0,.slice none 0 0,.slice none 0 0]):=Hd (.new rfl);have FIN:Hid (∀ (W V:World),Blk W w.heap.size 30 #[.int .i64 0,.int .i64 0,.int .i64 0,.slice none 0 0,.slice none 0 0,.slice none 0 0]->Ext w W->Ext ((((((W.setCell ⟨w.heap.size,0,none⟩ (.int .i64 0)).setCell ⟨w.heap.size,1,none⟩ (.int .i64 0)).setCell ⟨w.heap.size,2,none⟩ (.int .i64 0)).setCell ⟨w.heap.size,3,none⟩ (.slice none 0 0)).setCell ⟨w.heap.size,4,none⟩ (.slice none 0 0)).setCell ⟨w.heap.size,5,none⟩ (.slice none 0 0)) V->Ext w V):=Hd fun W V _ x y =>
  (((((((x.setNew (p:=⟨w.heap.size,0,none⟩) (Nat.le_refl _) (.int .i64 0)).setNew (p:=⟨w.heap.size,1,none⟩) (Nat.le_refl _) (.int .i64 0)).setNew (p:=⟨w.heap.size,2,none⟩) (Nat.le_refl _) (.int .i64 0)).setNew (p:=⟨w.heap.size,3,none⟩) (Nat.le_refl _) (.slice none 0 0)).setNew (p:=⟨w.heap.size,4,none⟩) (Nat.le_refl _) (.slice none 0 0)).setNew (p:=⟨w.heap.size,5,none⟩) (Nat.le_refl _) (.slice none 0 0))).tr y
 generalize Zn s=RV at *;obtain⟨tk,at_,er⟩:=RV;simp only at hW ⊢
 by_cases he:er=0
 ·subst he
  have hh:=hW rfl;obtain⟨t0,ts,rfl⟩:∃ t ts,tk=t::ts:=by cases tk with
   | nil=>simp at hh
   | cons t ts=>exact⟨t,ts,rfl⟩
  obtain rfl:t0=⟨1,Zg,0,0⟩:=by simpa using hh
  rw[if_pos rfl];clear hW hh hU;have PB:=Hd (fun(gr b off n c gi:Nat) (W:World) (H:RdW W gr b off n c 0) (hg:w.heap.size<=gr) (X:Ext w W) (hbe:b≠gr)=>Y3 w.heap.size gr b off n c 0 gi W H hg X.size hbe);obtain⟨n,hn⟩:∃ n,(⟨1,Zg,0,0⟩::ts:List Tok).length=n:=⟨_,rfl⟩;have hn1:1<=n:=by rw[<-hn];simp
  obtain⟨FT,hFT⟩:∃ FT,ZL (⟨1,Zg,0,0⟩::ts)=FT:=⟨_,rfl⟩;have hF:Hid (FT[0]?=some (.int .i64 1)/\FT[1]?=some (.string wrB)/\FT[2]?=some (.int .i64 0)/\FT[3]?=some (.int .i64 0)):=by
   subst hFT;exact Hd ⟨rfl,rfl,rfl,rfl⟩
  replace SC:=fun(W:World) (x:Ext w W)=>(SC.out W x).mono fun e w' h=>h.yes
  simp only[hn,hFT] at SC;replace SC:=Hd SC;clear hn hFT;go_enter Tryz.func8,Tryz.ntmps8;go_wp2_with (fail);refine(SC.out _ XI).mono ?_;rintro e w1 ⟨x1,A,c,rfl,o1⟩;have X1:=Hd (Ext.tr (a:=w) XI x1);have Y1:=Hd x1;have zY:=Hd (Nat.lt_of_lt_of_le BZ.out.lt x1.size);obtain⟨b,off,rfl,zb,hc⟩:=o1.read.form (by have h:=hF.out.1;intro e;rw[e] at h;simp at h);have d0:=hc 0 _ hF.out.1;have d1:=hc 1 _ hF.out.2.1;have d2:=hc 2 _ hF.out.2.2.1;have d3:=hc 3 _ hF.out.2.2.2;rw[Nat.add_zero] at d0;clear x1 o1 hc SC hF;have HR:∀ W,Ext (w1.alloc (.cells #[.slice (some ⟨b,off,none⟩) n c,.int .i64 0] 64)) W->RdW W w1.heap.size b off n c 0:=fun W x =>
   RdW.ext ⟨.new rfl,hn1,by simp;omega,Zl ((Ext.rf w1).alloc _) zb d0,Zl ((Ext.rf w1).alloc _) zb d1,Zl ((Ext.rf w1).alloc _) zb d2,Zl ((Ext.rf w1).alloc _) zb d3⟩ x
  replace HR:=Hd HR;have hbe:b≠w1.heap.size:=by omega
  have z1:=X1.out.size;clear d0 d1 d2 d3 zb;go_wp2_with (fail);refine(PB.out w1.heap.size b off n c (w1.heap.size+1) _ (HR.out _ XI) z1 (X1.out.tr XI) hbe).mono ?_;rintro e w2 ⟨rfl,r2,m2⟩;have X2:=Hd ((X1.out.tr XI).modT m2 (Nat.le_refl _));have MM:ModT w.heap.size [64] w1 w2:=(ModT.of_ext XI).tr m2;have B2:=Hd ((BZ.out.ext Y1.out).modT MM (by decide));have R2:=Hd r2;clear m2 MM r2 PB HR;have q1:=R2.out.r.cell 1;have k0:=B2.out.cell 0;have k1:=B2.out.cell 1;have k2:=B2.out.cell 2;have k3:=B2.out.cell 3;have k4:=B2.out.cell 4;have k5:=B2.out.cell 5;have f0:=B2.out.free 0;have f1:=B2.out.free 1;have f2:=B2.out.free 2;have f3:=B2.out.free 3;have f4:=B2.out.free 4;have f5:=B2.out.free 5;have zB:=B2.out.lt;have hne1:w.heap.size≠w1.heap.size:=by have:=zY.out;omega
  have hne2:w1.heap.size≠w.heap.size:=by have:=zY.out;omega
  go_upto_region 8 with(fail);go_region_held3 (fun w'=>w'.cell? ⟨w1.heap.size,1,none⟩=some (.int .i64 0)) (first | go_keep | (focus (go_simp;done))) (fail)
  all_goals
   go_wp2_with (fail);exact bodyPost_ret (v:=.tuple #[.agg #[.int .i64 0,.int .i64 0,.int .i64 0,.slice none 0 0,.slice none 0 0,.slice none 0 0],.int .i64 0,.int .i64 3]) (by simp[results,Tryz.results8,go_sem, *]) rfl ⟨rfl,FIN.out _ _ B2.out X2.out XI⟩
 ·rw[if_neg he]
  have e1:(er != 0)=true:=by simpa using he
  clear hW hU;replace SC:=fun(W:World) (x:Ext w W)=>(SC.out W x).mono fun e w' h=>h.no he
  replace SC:=Hd SC;clear he;go_enter Tryz.func8,Tryz.ntmps8;go_wp2_with (fail);refine(SC.out _ XI).mono ?_;rintro e w1 ⟨x1,rfl⟩;have X1:=Hd (Ext.tr (a:=w) XI x1);have B2:=Hd (BZ.out.ext x1);clear x1 SC;have k0:=B2.out.cell 0;have k1:=B2.out.cell 1;have k2:=B2.out.cell 2;have k3:=B2.out.cell 3;have k4:=B2.out.cell 4;have k5:=B2.out.cell 5;have f0:=B2.out.free 0;have f1:=B2.out.free 1;have f2:=B2.out.free 2;have f3:=B2.out.free 3;have f4:=B2.out.free 4;have f5:=B2.out.free 5;go_wp2_with (fail);exact bodyPost_ret (v:=.tuple #[.agg #[.int .i64 0,.int .i64 0,.int .i64 0,.slice none 0 0,.slice none 0 0,.slice none 0 0],.int .i64 (at_:Int),.int .i64 er]) (by simp[results,Tryz.results8,go_sem, *]) rfl ⟨rfl,FIN.out _ _ B2.out X1.out XI⟩
theorem Y4 (d:Txt) : 0<=(Zw d).2.2/\(Zw d).2.2<=5:=by
 unfold Zw
 (repeat' split)<;>simp
theorem Xv (s:Txt)(a:Nat) : 0<=(Zj s a).2.1/\(Zj s a).2.1<=5:=by
 have h:=Y4 (Zq (s.drop a));have h2:(Zf s a).2.2=(Zw (Zq (s.drop a))).2.2:=rfl;unfold Zj
 (repeat' split)<;>simp only<;>(try split)<;>omega
theorem Yq (s:Txt) : ∀ (f a:Nat) (l:List Tok),0<=(Zx s f a l).2.2/\(Zx s f a l).2.2<=5
 | 0,a,l=>by unfold Zx;simp
 | f+1,a,l=>by
  unfold Zx;split
  ·simp
  split
  ·exact Xv s a
  ·exact Yq s f _ _
theorem Xk (s:Txt) : 0<=(Zn s).2.2/\(Zn s).2.2<=5:=by
 unfold Zn;split
 ·simp
 ·exact Yq s _ _ _
theorem Yh (s:Txt) : 1<=(Zh s).2/\(Zh s).2<=5:=by
 have h:=Xk s;unfold Zh;split
 ·simp
 ·simp only;omega
theorem Yr : ∀ (l:List Int) (word:Txt),∃ t,ZA word l=word++t
 | [],word=>⟨[],by simp[ZA]⟩
 | n::l,word=>by
  obtain⟨t,ht⟩:=Yr l (word++[32]++Lib.itoa n);exact⟨[32]++Lib.itoa n++t,by rw[show ZA word (n::l)=ZA (word++[32]++Lib.itoa n) l from rfl,ht];simp[List.append_assoc]⟩
theorem Xl (s:Txt)(a er:Int) : ∃ t,Yi s a er=[69,82,82,79,82,32]++t/\1<=t.length:=by
 unfold Yi Yo;obtain⟨t,ht⟩:=Yr [(Zt s a).1,(Zt s a).2] ([69,82,82,79,82,32]++Lib.itoa er++[32,97,116]);refine⟨Lib.itoa er++[32,97,116]++t++[10],by rw[ht];simp[List.append_assoc],by simp;omega⟩
section
variable (s sc:Txt) (w:World) (hs:s.length<=60000) (hT:Ten w/\UT w) (hW:(Zn s).2.2=0->(Zn s).1.head?=some ⟨1,Zg,0,0⟩)
include hs hT hW
theorem Xw : Calls Tryz.prog 5 #[.string ⟨s.toArray⟩,.string ⟨sc.toArray⟩] w fun e w'=>e=.returned (.string ⟨(Yi s (Zh s).1 (Zh s).2).toArray⟩)/\Ext w w':=by
 have PA:=Hd (fun(W:World) (x:Ext w W)=>YT s W hs (hT.2.ext x) hW);have pe:=Yh s;have RF:=Hd (fun(W:World) (x:Ext w W)=>ZZ s (Zh s).1 (Zh s).2 W hs (by omega) (by omega) (hT.1.ext x));have e1:((Zh s).2 != 0)=true:=by simp only[bne_iff_ne];omega
 generalize (Zh s).1=pa at *;generalize (Zh s).2=pb at *;generalize Yi s pa pb=RT at *;clear pe hT hW;go_enter Tryz.func5,Tryz.ntmps5;go_wp2_with (fail);refine(PA.out _ XI).mono ?_;rintro e w1 ⟨rfl,x1⟩;have X1:=Hd (Ext.tr (a:=w) XI x1);clear x1 PA;go_wp2_with (fail);refine(RF.out _ (X1.out.tr XI)).mono ?_;rintro e w2 ⟨rfl,x2⟩;have X2:=Hd (X1.out.tr (Ext.tr XI x2));clear x2 RF;go_wp2_with (fail);go_ret;exact⟨rfl,X2.out.tr XI⟩
theorem Xm : Calls Tryz.prog 6 #[.string ⟨s.toArray⟩,.string ⟨sc.toArray⟩] w fun e w'=>e=.returned (.string ⟨(Yi s (Zh s).1 (Zh s).2).toArray⟩)/\Ext w w':=by
 have PA:=Hd (fun(W:World) (x:Ext w W)=>YT s W hs (hT.2.ext x) hW);have pe:=Yh s;have RF:=Hd (fun(W:World) (x:Ext w W)=>ZZ s (Zh s).1 (Zh s).2 W hs (by omega) (by omega) (hT.1.ext x));have e1:((Zh s).2 != 0)=true:=by simp only[bne_iff_ne];omega
 generalize (Zh s).1=pa at *;generalize (Zh s).2=pb at *;generalize Yi s pa pb=RT at *;clear pe hT hW;go_enter Tryz.func6,Tryz.ntmps6;go_wp2_with (fail);refine(PA.out _ XI).mono ?_;rintro e w1 ⟨rfl,x1⟩;have X1:=Hd (Ext.tr (a:=w) XI x1);clear x1 PA;go_wp2_with (fail);refine(RF.out _ (X1.out.tr XI)).mono ?_;rintro e w2 ⟨rfl,x2⟩;have X2:=Hd (X1.out.tr (Ext.tr XI x2));clear x2 RF;go_wp2_with (fail);go_ret;exact⟨rfl,X2.out.tr XI⟩
end
end Go.Proofs.YtabmoalgmdlmnaaGreatDoor
namespace Go.Proofs.YtabmoalgmdlmnaaGreatDoor
open Go.RowKit Go.ChangeShapes Go.WideShapes Go.ChangeAt Go.Deep
theorem Y5 (a b:Int)(ha:0<=a)(ha':a<=2147483647)(hb:0<=b)(hb':b<=2147483647)(w:World) : Calls Tryz.prog 7 #[.int .i64 a,.int .i64 b] w fun e w'=>e=.returned (.tuple #[.int .i64 (a+b),.bool true])/\Ext w w':=by
 have wr:∀ z:Int,0<=z->z<=4294967294->IntKind.u64.wrap z=z:=fun z h1 h2=>by
  simp only[IntKind.wrap,IntKind.signed,IntKind.bits];simp;omega
 have u1:=wr a ha (by omega);have u2:=wr b hb (by omega);have u3:=wr (a+b) (by omega) (by omega);have u4:IntKind.i64.wrap (a+b)=a+b:=IntWalk.i64_in _ (by omega);have e1:¬a<0:=by omega
 have e2:¬b<0:=by omega
 have e3:¬a+b<0:=by omega
 clear wr;go_enter Tryz.func7,Tryz.ntmps7;go_wp2;go_ret2;exact⟨rfl,XI⟩
theorem ZP (w:World) : Calls Tryz.prog 4 #[] w fun e w'=>e=.returned (.bool true)/\Ext w w':=by
 go_enter Tryz.func4,Tryz.ntmps4;go_wp2_with (fail);refine(Y5 2 3 (by omega) (by omega) (by omega) (by omega) _).mono ?_;rintro e w1 ⟨rfl,x1⟩;go_wp2_with (fail);go_ret;exact⟨rfl,Ext.tr (a:=w) XI x1⟩
open Go.RowKit Go.ChangeShapes Go.WideShapes Go.ChangeAt Go.Deep Go.ChangeMaps
section
variable {H:Type} {enc:TypeId×Value->H} {W:World}
theorem YB {base:Nat}{v:Value}{d:DataW H}{p:List MemPlace}(hd:DataW.Trod enc Tryz.prog W 0 (fun _=>true) true 9 v d p)(hv:Value.okWide Tryz.prog W .any base 9 v) :
  ∃ s:List UInt8,v=.string ⟨s.toArray⟩/\s.length<=maxLen:=by
 obtain⟨s,rfl,-,-,h⟩:=open_string Tryz.underlying9 hv hd;exact⟨s.data.toList,rfl,by rw[Array.length_toList];exact h⟩
end
end Go.Proofs.YtabmoalgmdlmnaaGreatDoor
namespace Go.Proofs.YtabmoalgmdlmnaaGreatDoor
open Go.RowKit Go.ChangeShapes Go.WideShapes Go.ChangeAt
def Ys : List (String×DataW Unit):=[("math/bits.deBruijn32tab",Rows.laid_math_bits_deBruijn32tab),("math/bits.deBruijn64tab",Rows.laid_math_bits_deBruijn64tab),("internal/strconv.uint64pow10",Rows.laid_internal_strconv_uint64pow10),("unicode/utf8.acceptRanges",Rows.laid_unicode_utf8_acceptRanges),("unicode/utf8.first",Rows.laid_unicode_utf8_first)]
theorem Xn : (Rows.laid_internal_strconv_uint64pow10:DataW Unit)=Lib.tabData .u64 Lib.pow10Tab:=by kernel_rfl
theorem YC {W:World}(h:laidMetH Tryz.prog Ys W) : Ten W:=by
 rw[MakeChecks.laidMetH_plain _ _ _ (by kernel_rfl)] at h;unfold Ys at h;have h1:=laidMet.tail h;have h2:=laidMet.tail h1;rw[Xn] at h2;exact Lib.tabIs_of_head (g:=1) (t:=330) (e:=49) (n:=20) (by kernel_rfl) (by kernel_rfl) Tryz.underlying330 Tryz.underlying49 (by kernel_rfl) (by kernel_rfl) h2
open Go.RowKit Go.ChangeShapes Go.WideShapes Go.ChangeAt Go.Lib Go.Shelf
theorem Xx : U8Extra Tryz.prog Z7 where
 n3:=by kernel_rfl
 n4:=by kernel_rfl
 y3:=by kernel_rfl
 y4:=by kernel_rfl
 c5:=by kernel_rfl
 c119:=by kernel_rfl
 c138:=by kernel_rfl
theorem YP : (Rows.laid_unicode_utf8_first:DataW Unit)=firstData:=by kernel_rfl
theorem YD : (Rows.laid_unicode_utf8_acceptRanges:DataW Unit)=acceptData:=by kernel_rfl
theorem YQ {W:World}(h:laidMetH Tryz.prog Ys W) : UT W:=by
 rw[MakeChecks.laidMetH_plain _ _ _ (by kernel_rfl)] at h;have h3:=Lib.laidMet.reads h (n := "unicode/utf8.first") (d:=Rows.laid_unicode_utf8_first) (by simp[Ys]);have h4:=Lib.laidMet.reads h (n := "unicode/utf8.acceptRanges") (d:=Rows.laid_unicode_utf8_acceptRanges) (by simp[Ys]);rw[YP] at h3;rw[YD] at h4;exact utf8Tabs_of_reads { Xa with } Xx h3 h4
end Go.Proofs.YtabmoalgmdlmnaaGreatDoor
namespace Go.Proofs.YtabmoalgmdlmnaaGreatDoor.kurganQuiet
open Go.RowKit Go.ChangeShapes Go.WideShapes Go.ChangeAt Go.Deep
theorem Xo (s sc:Txt)(w:World)(hT:Ten w/\UT w)(ls:s.length<=maxLen)(lsc:sc.length<=maxLen) :
  Calls Tryz.prog 3 #[.string ⟨s.toArray⟩,.string ⟨sc.toArray⟩] w fun e w'=>e=.returned (.bool true)/\Ext w w':=by
 unfold maxLen at ls lsc;have z1:=Zi s;have z2:=Zi sc
 by_cases hb:s.length<=300/\sc.length<=300
 ·obtain⟨h1,h2⟩:=hb
  have g1:¬(s.length:Int)>300:=by omega
  have g2:¬(sc.length:Int)>300:=by omega
  have hl:(Zg++32::s).length<=60000:=by simp;omega
  have SV:=Hd (fun(W:World) (x:Ext w W)=>Xw (Zg++32::s) sc W hl ⟨hT.1.ext x,hT.2.ext x⟩ (Z5 s));have VE:=Hd (fun(W:World) (x:Ext w W)=>Xm (Zg++32::s) sc W hl ⟨hT.1.ext x,hT.2.ext x⟩ (Z5 s));obtain⟨t,ht,lt⟩:=Xl (Zg++32::s) (Zh (Zg++32::s)).1 (Zh (Zg++32::s)).2;have ec:(⟨#[87,82,79,78,71,32]⟩:ByteArray)++⟨s.toArray⟩=⟨(Zg++32::s).toArray⟩:=Zv [87,82,79,78,71,32] s;generalize Yi (Zg++32::s) (Zh (Zg++32::s)).1 (Zh (Zg++32::s)).2=RT at *;rw[<-ec] at SV VE;have lr:RT.length=6+t.length:=by rw[ht];simp;omega
  have hx6:(⟨RT.toArray⟩:ByteArray).extract 0 6=⟨#[69,82,82,79,82,32]⟩:=by
   have:=ZX RT 6;rw[this,ht]
   rfl
  have zr:=Zi RT;have g3:(RT.length:Int)>6:=by omega
  have g4:(6:Int)<=(RT.length:Int):=by omega
  have l1:¬9223372036854775807<6+s.length:=by omega
  have l2:¬9223372036854775807<s.length+6:=by omega
  replace ec:=Hd ec;clear ht lt lr hT hl h1 h2;go_enter Tryz.func3,Tryz.ntmps3;go_wp2_with (fail);refine(ZP _).mono ?_;rintro e w1 ⟨rfl,x1⟩;have X1:=Hd (Ext.tr (a:=w) XI x1);clear x1;go_wp2_with (fail);refine(SV.out _ (X1.out.tr XI)).mono ?_;rintro e w2 ⟨rfl,x2⟩;have X2:=Hd (X1.out.tr (Ext.tr XI x2));clear x2 SV;go_wp2_with (fail);refine(VE.out _ (X2.out.tr XI)).mono ?_;rintro e w3 ⟨rfl,x3⟩;have X3:=Hd (X2.out.tr (Ext.tr XI x3));clear x3 VE;go_wp2_with (fail);go_ret;exact⟨by simp,X3.out.tr XI⟩
 ·have hh:(s.length:Int)>300\/((¬(s.length:Int)>300)/\(sc.length:Int)>300):=by omega
  clear hb hT;rcases hh with g1 | ⟨g1,g2⟩
  all_goals
   go_enter Tryz.func3,Tryz.ntmps3;go_wp2_with (fail);refine(ZP _).mono ?_;rintro e w1 ⟨rfl,x1⟩;have X1:=Hd (Ext.tr (a:=w) XI x1);clear x1;go_wp2_with (fail);refine(ZP _).mono ?_;rintro e w2 ⟨rfl,x2⟩;have X2:=Hd (X1.out.tr (Ext.tr XI x2));clear x2;go_wp2_with (fail);go_ret;exact⟨rfl,X2.out.tr XI⟩
theorem XH (s sc:Txt)(w:World)(hT:Ten w/\UT w)(ls:s.length<=maxLen)(lsc:sc.length<=maxLen) :
  Calls Tryz.prog 3 #[.string ⟨s.toArray⟩,.string ⟨sc.toArray⟩] w fun e w'=>e=.returned (.bool true)/\Ext w w':=Xo s sc w hT ls lsc
theorem lifted (os:Os)(started:os.Started)(H:Type)(enc:TypeId×Value->H) :
  ReturnsInHanded {} Tryz.checked os 3 .any (fun w args=>(Rows.kurganQuietSpec.pre enc Tryz.prog Tryz.f3 Rows.kurganQuietRow.domain false w args/\laidMetH Tryz.prog Ys w)/\sizedMet enc Tryz.prog Tryz.f3 (OpenSpec.ofChange Rows.kurganQuietSpec) false w args) (Rows.kurganQuietSpec.post enc Tryz.prog Tryz.f3 false true false false):=by
 refine returnsInHanded_of_change_and (C:=Tryz.checked) (X:=fun w _=>laidMetH Tryz.prog Ys w) (fun _ _ _ hh h=>h.of_heap hh) own started (by kernel_rfl) Tryz.func3
  (ChangeSpec.witness_shaped (enc:=enc) (C:=Tryz.checked) (os:=os) (X:=fun w _=>laidMetH Tryz.prog Ys w) false (World.laidAll Tryz.prog os Ys) #[.string ⟨#[]⟩,.string ⟨#[]⟩] 8 (World.laidAll_os _ _ _)
   (World.shaped_of_ZipB (by kernel_rfl) (by kernel_rfl)) (by kernel_rfl) (by kernel_rfl) (by kernel_rfl)
   (by rw[MakeChecks.laidMetH_plain _ _ _ (by kernel_rfl)];exact laidMet_laidAll _ (by kernel_rfl) (by kernel_rfl))) ?_
 intro W base args ds gs before hval0 hW _ _ hL _;have hval:∀ (j:Nat) t v,Tryz.f3.params[j]?=some t->args[j]?=some v->Value.okWide Tryz.prog W .any base t v:=hval0;have hW':=hW;obtain⟨p,q,hA0,hV,rfl,hfz,hnd⟩:=hW;have hA:DataW.TrodAll enc Tryz.prog W 0 (fun _=>true) true Tryz.f3.params.toList args.toList ds p:=hA0;rw[Tryz.params3] at hA hval;obtain⟨v0,vs0,d0,ds0,p0,q0,hargs,rfl,rfl,h0,r0⟩:=trodAll_cons hA;obtain⟨v1,vs1,d1,ds1,p1,q1,rfl,rfl,rfl,h1,r1⟩:=trodAll_cons r0;obtain⟨rfl,rfl,rfl⟩:=trodAll_nil r1;obtain rfl:args=#[v0,v1]:=by cases args;simp_all
 obtain⟨rfl,rfl⟩:=trodVars_none hV;obtain⟨x0,rfl,lx0⟩:=YB h0 (hval 0 _ v0 rfl rfl);obtain⟨x1,rfl,lx1⟩:=YB h1 (hval 1 _ v1 rfl rfl);refine(XH x0 x1 W ⟨YC hL,YQ hL⟩ lx0 lx1).mono fun e W' ⟨he,hg⟩=>?_
 subst he;exact⟨_,rfl,Y6 hW' rfl rfl rfl rfl rfl (Yt (by kernel_rfl)) hg⟩
end Go.Proofs.YtabmoalgmdlmnaaGreatDoor.kurganQuiet
