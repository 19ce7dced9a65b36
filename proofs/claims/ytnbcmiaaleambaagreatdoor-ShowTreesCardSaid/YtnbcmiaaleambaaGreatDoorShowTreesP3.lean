/- parts, packed by a program -/
import Derived.Test.YtnbcmiaaleambaaGreatDoorShowTreesP2
import Derived.Sort.BigQuietIn
set_option maxRecDepth 100000
set_option maxHeartbeats 16000000
set_option linter.all false
namespace Go.Proofs.YtnbcmiaaleambaaGreatDoor
open Go.ChangeAt Go.ChangeShapes Go.Deep Go.RowKit Go.Shelf Go.WideShapes
section
def Zf0 (i:InstP)(w:World)(e:Ending)(w':World) : Prop :=
 ∃ g,e=.returned (.tuple #[.pointer (some ⟨g,0,none⟩),.int .i64 0])/\KernB w' w.heap.size g i.cap (ZR i.value i.weight) (Zu (ZR i.value i.weight) i.weight) (Zu (ZR i.value i.weight) i.value) (Xr (Zu (ZR i.value i.weight) i.value) 0)/\Ext w w'
theorem Zjf (i:InstP)(vs:List Value)(w:World)(H:RInst w vs i)(hc:Zk i=0)(hk:i.kind=1) :
  Calls Tryz.prog 20 #[.agg (List.toArray vs)] w (Zf0 i w):=by
 have ok:=Yj hc hk;have C:=fun(W:World) (x:Ext w W)=>Yy i vs W (H.ext x) (by have:=ok.w;have:=ok.n2;omega) (by have:=ok.v;have:=ok.n2;omega)
 simp only[hc] at C;obtain⟨kind,nn,cap,xw,xv,co⟩:=i;obtain⟨n1,n2,okw,okv,okc,sw,sv,oke⟩:=ok;simp only at *;obtain⟨A,a,B,b,D,d,rfl,⟨rA,iA,lA,mA⟩,⟨rB,iB,lB,mB⟩,-⟩:=H;simp only at *;subst hk oke;obtain⟨n,rfl⟩:∃ n:Nat,nn=(n:Int):=⟨nn.toNat,by omega⟩;have lw:Hid (xw.length=n):=by(have h:xw.length=n:=by omega);exact h
 have lv:Hid (xv.length=n):=by(have h:xv.length=n:=by omega);exact h
 clear okw okv hc;obtain⟨bd1,bd2⟩:1<=n/\n<=64:=by omega
 have R:=fun(W:World) (x:Ext w W)=>ZgG B A b a xv xw W (rB.ext x) (rA.ext x) (by rw[lv.out,lw.out]) (by rw[lv.out];omega) sv sw
 have RL:Hid ((ZR xv xw).length=n):=Hd (by rw[Xw,lv.out]);have RM:Hid (∀ k q,(ZR xv xw)[k]?=some q->q<n):=fun k q h=>by have:=VD h;rw[lv.out] at this;exact this
 have HI:Hid (∃ l,l=ZR xv xw):=⟨_,rfl⟩;obtain⟨l,hl⟩:=HI.out;rw[<-hl] at RL RM;simp only[<-hl] at R;replace hl:=Hd hl;replace C:=Hd C;replace R:=Hd R;replace rA:=Hd rA;replace rB:=Hd rB;replace iA:=Hd iA;replace iB:=Hd iB;replace mA:=Hd mA;replace mB:=Hd mB;replace sw:=Hd sw;replace sv:=Hd sv;have B1:Hid (Blk (w.alloc (.cells #[.int .i64 1,.int .i64 n,.int .i64 cap,.slice A xw.length a,.slice B xv.length b,.slice D 0 d] 25)) w.heap.size 25 #[.int .i64 1,.int .i64 n,.int .i64 cap,.slice A xw.length a,.slice B xv.length b,.slice D 0 d]):=.new rfl;clear HI;go_enter Tryz.func20,Tryz.ntmps20;go_wp2_with (fail);refine(C.out _ XI).mono ?_;rintro e w2 ⟨rfl,x2⟩;have X2:=Hd (Ext.tr (a:=w) XI x2);have B2:=Hd (B1.out.ext x2);have c0:=B2.out.c0;have c3:=B2.out.c3;have c4:=B2.out.c4;clear x2;go_wp2_with (fail);refine(R.out _ X2.out).mono ?_;rintro e w3 ⟨PA,pc,rfl,rP,lP,mP,x3,bP⟩;have X3:=Hd (X2.out.tr x3);have B3:=Hd (B2.out.ext x3);replace rP:=Hd rP;have bP':Hid (∀ k,bl PA=some k->w.heap.size<=k):=fun k hk=>Nat.le_trans X2.out.size (bP k hk)
 clear c0 c3 c4 x3 bP;go_wp2_with (fail);have k1:=B3.out.c1;have k2:=B3.out.c2;have zb:=B3.out.lt;refine wp_region_any (by kernel_rfl) ?_
 change wpAny _ _ _ _ _ _ _ (World.drew _)
 refine Zc (i:=0) (op:=Op.fieldAddr 25 (Operand.tmp 1) 2) (t:=0) (d:=some 30) (v:=_) rfl (by decide +kernel) (fun _ _ _ h=>h) (by intro _;unfold Ze;go_simp;try with_reducible rfl) ?_
 try simp only[lay]
 refine Zc (i:=2) (op:=Op.move (Operand.tmp 5)) (t:=22) (d:=some 32) (v:=_) rfl (by decide +kernel) (fun _ _ _ h=>h) (by intro _;unfold Ze;go_simp;try with_reducible rfl) ?_
 try simp only[lay]
 refine Zc (i:=3) (op:=Op.fieldAddr 25 (Operand.tmp 1) 1) (t:=0) (d:=some 33) (v:=_) rfl (by decide +kernel) (fun _ _ _ h=>h) (by intro _;unfold Ze;go_simp;try with_reducible rfl) ?_
 try simp only[lay]
 refine ZM (n:=3) [(1,some 31),(4,some 34),(5,some 35),(6,some 36)] (Ext w3)
  (VF (fun | 1=>some (.int .i64 cap) | 4=>some (.int .i64 n) | 5=>some (.int .i64 ((n:Int)+1)) | _=>none)
   (fun j v W=>j=6->∃ h,v=.slice (some ⟨h,0,none⟩) (n+1) (n+1)/\OwI W w3.heap.size (some ⟨h,0,none⟩) (n+1) (List.replicate (n+1) 0)))
  Ext #[true,true,true,true,true,true,true,false,false,false] (by kernel_rfl) (VF.stab ?_) ?_ ?_ ((Ext.rf _).drew)
 ·intro j v W W' _ g6 hx h
  obtain⟨h,q1,q2⟩:=g6 h;exact⟨h,q1,q2.ext hx⟩
 ·intro pq hpm u W hRW hD K hK
  have r1:=Zd hRW zb k1;have r2:=Zd hRW zb k2;have z2:=hRW.size;simp only[List.mem_cons,List.not_mem_nil,or_false] at hpm;rcases hpm with rfl | rfl | rfl | rfl
  ·exact Zv (T:=3) rfl (.pointer (some ⟨w.heap.size,2,none⟩)) (by kernel_rfl) (.int .i64 cap) (by go_simp) (hK _ _ (VF.mk rfl) hRW (Ext.rf _))
  ·exact Zv (T:=3) rfl (.pointer (some ⟨w.heap.size,1,none⟩)) (by kernel_rfl) (.int .i64 n) (by go_simp) (hK _ _ (VF.mk rfl) hRW (Ext.rf _))
  ·have h4:=(hD 4 (Zp (by kernel_rfl))).k rfl
   exact Z5 rfl (.int .i64 ((n:Int)+1)) (by simp only[Zn,h4];unfold Ze;go_simp;exact IntWalk.i64_in _ (by omega)) (hK _ _ (VF.mk rfl) hRW (Ext.rf _))
  ·have h5:=(hD 5 (Zp (by kernel_rfl))).k rfl
   refine ZgH rfl w3.heap.size (n+1) ((n:Int)+1) (Eq.trans (b:=u 5) (by kernel_rfl) h5) (Eq.trans (b:=u 5) (by kernel_rfl) h5) (by omega) (by omega) z2 (fun w' o6 g6=>hK _ _ (VF.mg rfl fun _=>⟨_,rfl,o6⟩) (hRW.grownNone g6) ((Ext.rf _).grownNone g6))
 ·intro u w4 hRW hV
  have h1:=(hV (1,some 31) (by simp)).k rfl;have h4:=(hV (4,some 34) (by simp)).k rfl;have h5:=(hV (5,some 35) (by simp)).k rfl;obtain⟨hb,h6,o6⟩:=(hV (6,some 36) (by simp)).g rfl rfl;simp only[Zn,h1,h4,h5,h6];clear hV h1 h4 h5 h6 k1 k2
  try simp only[lay]
  refine Zc (i:=7) (op:=Op.build 100 #[(0,Operand.tmp 31),(1,Operand.tmp 32),(4,Operand.tmp 36)]) (t:=100) (d:=some 37) (v:=_) rfl (by decide +kernel) (fun _ _ _ h=>h) (by intro _;unfold Ze;go_simp;try with_reducible rfl) ?_
  try simp only[lay]
  refine Zl 8 (by kernel_rfl) (Z5 (op:=.box 100 (.tmp 37)) rfl (.pointer (some ⟨w4.heap.size,0,none⟩)) (w':=w4.alloc (.cells #[.int .i64 cap,.slice PA l.length pc,.slice none 0 0,.slice none 0 0,.slice (some ⟨hb,0,none⟩) (n+1) (n+1)] 100)) (by unfold Ze;go_simp) ?_)
  try simp only[lay]
  refine Zc (i:=9) (op:=Op.assign (Operand.tmp 38)) (t:=61) (d:=some 7) (v:=_) rfl (by decide +kernel) (fun _ _ _ h=>h) (by intro _;unfold Ze;go_simp;try with_reducible rfl) ?_
  try simp only[lay]
  refine wpAny_done (by kernel_rfl) ?_ _;have X4:=Hd ((Ext.tr X3.out hRW).alloc (.cells #[.int .i64 cap,.slice PA l.length pc,.slice none 0 0,.slice none 0 0,.slice (some ⟨hb,0,none⟩) (n+1) (n+1)] 100));have Y4:=Hd (hRW.alloc (.cells #[.int .i64 cap,.slice PA l.length pc,.slice none 0 0,.slice none 0 0,.slice (some ⟨hb,0,none⟩) (n+1) (n+1)] 100));have F4:Hid (Fill (w4.alloc (.cells #[.int .i64 cap,.slice PA l.length pc,.slice none 0 0,.slice none 0 0,.slice (some ⟨hb,0,none⟩) (n+1) (n+1)] 100)) w3.heap.size w4.heap.size cap PA l.length pc [] [] (List.replicate (n+1) 0)):=by
   refine⟨none,0,none,0,some ⟨hb,0,none⟩,n+1,?_,hRW.size,OwI.nil _ _,OwI.nil _ _,o6.ext ((Ext.rf _).alloc _),Dis.none _,Dis.none _,Dis.none _⟩;simp only[List.length_replicate,List.length_nil];exact .new rfl
  clear o6;generalize hw4:w4.alloc (.cells #[.int .i64 cap,.slice PA l.length pc,.slice none 0 0,.slice none 0 0,.slice (some ⟨hb,0,none⟩) (n+1) (n+1)] 100)=w5 at *;clear hw4 hRW;generalize w4.heap.size=g at *;clear w4;go_simp;go_wp2_with (fail);have lP9:=rP.out;have hbs:Hid (∀ (u:World) (z:Int),(Instr.buildSlice 22 1 #[(0,.int .i64 z)]).run Tryz.prog u=.ok (.slice (some ⟨u.heap.size,0,none⟩) 1 1) (u.alloc (.cells #[.int .i64 z] 3))):=fun u z=>by go_simp
  have F4':Hid (Fill w5 w3.heap.size g cap PA l.length pc (Zu (l.take 0) xw) (Zu (l.take 0) xv) (List.replicate (n+1) 0)):=F4.out;clear F4 lP9;go_loopw [41] (fun i wr=>∃ j:Nat,i=.int .i64 j/\j<=n/\Hid (Fill wr w3.heap.size g cap PA l.length pc (Zu (l.take j) xw) (Zu (l.take j) xv) (List.replicate (n+1) 0))/\Ext w3 wr) (fun i _=>n-(intOf i).toNat)
  case atStart=>exact⟨0,rfl,by omega,F4',Y4.out⟩
  case round =>
   obtain⟨wo,rfl⟩:=Wq wr;obtain⟨j,rfl,hj,HF,Y⟩:=hrel;have Bi:=Hd (B3.out.ext Y)
   by_cases hlt:j<n
   ·obtain⟨pb,po,qi,rfl,_,cq,eq1,_⟩:=(rP.out.ext Y).at (k:=j) (by rw[ZT,RL.out];exact hlt)
    have hj':j<l.length:=by rw[RL.out];exact hlt
    obtain⟨q,hq0⟩:∃ q,Hid (l[j]?=some q):=⟨l[j],List.getElem?_eq_getElem hj'⟩;obtain rfl:qi=(q:Int):=by
     have h1:=ZaN hq0.out;rw[eq1.out] at h1;exact Option.some.inj h1
    have hqn:q<n:=RM.out j q hq0.out;have hqw:q<xw.length:=by rw[lw.out];exact hqn
    have hqv:q<xv.length:=by rw[lv.out];exact hqn
    obtain⟨ab,ao,x,rfl,zs2',cs2',ex,_⟩:=(rA.out.ext X3.out).at hqw;obtain⟨bb,bo,y,rfl,zs3',cs3',ey,_⟩:=(rB.out.ext X3.out).at hqv;have EW:Hid (Zu (l.take (j+1)) xw=Zu (l.take j) xw++[x]):=QS hq0.out ex.out;have EV:Hid (Zu (l.take (j+1)) xv=Zu (l.take j) xv++[y]):=QS hq0.out ey.out;have lW:(Zu (l.take j) xw).length<=64:=by rw[YS];simp;omega
    have lV:(Zu (l.take j) xv).length<=64:=by rw[YS];simp;omega
    generalize Zu (l.take j) xw=WL at *;generalize Zu (l.take j) xv=VL at *;have zi:=Bi.out.lt;go_wp2_with (fail);obtain⟨WA,wc,VA,vc,HA,hc,Bg,hgb,OW,OV,OH,dd1,dd2,dd3⟩:=HF.out;have zg:=Bg.lt;have zs2:=Nat.lt_of_lt_of_le zs2' Y.size;have cs2:=Zd Y zs2' cs2';replace Bg:=Hd Bg;replace OW:=Hd OW;replace OV:=Hd OV;replace OH:=Hd OH;refine wp_region_any (by kernel_rfl) ?_
    change wpAny _ _ _ _ _ _ _ (World.drew _)
    refine Zc (i:=0) (op:=Op.move (Operand.tmp 7)) (t:=61) (d:=some 45) (v:=_) rfl (by decide +kernel) (fun _ _ _ h=>h) (by intro _;unfold Ze;go_simp;try with_reducible rfl) ?_
    try simp only[lay]
    refine Zc (i:=1) (op:=Op.move (Operand.tmp 7)) (t:=61) (d:=some 46) (v:=_) rfl (by decide +kernel) (fun _ _ _ h=>h) (by intro _;unfold Ze;go_simp;try with_reducible rfl) ?_
    try simp only[lay]
    refine Zc (i:=2) (op:=Op.nilCheck (Operand.tmp 46)) (t:=0) (d:=some 47) (v:=_) rfl (by decide +kernel) (fun _ _ _ h=>h) (by intro _;unfold Ze;go_simp;try with_reducible rfl) ?_
    try simp only[lay]
    refine Zc (i:=3) (op:=Op.fieldAddr 100 (Operand.tmp 47) 2) (t:=0) (d:=some 48) (v:=_) rfl (by decide +kernel) (fun _ _ _ h=>h) (by intro _;unfold Ze;go_simp;try with_reducible rfl) ?_
    try simp only[lay]
    refine Zc (i:=5) (op:=Op.fieldAddr 25 (Operand.tmp 1) 3) (t:=0) (d:=some 50) (v:=_) rfl (by decide +kernel) (fun _ _ _ h=>h) (by intro _;unfold Ze;go_simp;try with_reducible rfl) ?_
    try simp only[lay]
    refine Zc (i:=7) (op:=Op.move (Operand.tmp 9)) (t:=3) (d:=some 52) (v:=_) rfl (by decide +kernel) (fun _ _ _ h=>h) (by intro _;unfold Ze;go_simp;try with_reducible rfl) ?_
    try simp only[lay]
    refine ZM (n:=4) [(4,some 49),(6,some 51),(8,some 53),(9,some 54),(10,some 55)] (Ext wo)
     (VF (fun | 4=>some (.slice WA WL.length wc) | 6=>some (.slice (some ⟨ab,ao,none⟩) xw.length a) | 8=>some (.pointer (some ⟨ab,ao+q,none⟩)) | 9=>some (.int .i64 x) | _=>none)
      (fun j v W=>j=10->∃ h,v=.slice (some ⟨h,0,none⟩) 1 1/\Blk W h 3 #[.int .i64 x]))
     Ext #[true,true,true,true,true,true,true,true,true,true,true,false,false,false,false] (by kernel_rfl) (VF.stab ?_) ?_ ?_ ((Ext.rf _).drew)
    ·intro j v W W' _ g6 hx h
     obtain⟨h,q1,q2⟩:=g6 h;exact⟨h,q1,q2.ext hx⟩
    ·intro pq hpm u W hRW hD K hK
     have r1:=Zd hRW zg (Bg.out.cell 2);have r2:=Zd hRW zi (Bi.out.cell 3);have r3:=Zd hRW zs2 cs2;simp only[List.mem_cons,List.not_mem_nil,or_false] at hpm;rcases hpm with rfl | rfl | rfl | rfl | rfl
     ·exact Zv (T:=22) rfl (.pointer (some ⟨g,2,none⟩)) (by kernel_rfl) (.slice WA WL.length wc) (by go_simp) (hK _ _ (VF.mk rfl) hRW (Ext.rf _))
     ·exact Zv (T:=22) rfl (.pointer (some ⟨w.heap.size,3,none⟩)) (by kernel_rfl) (.slice (some ⟨ab,ao,none⟩) xw.length a) (by go_simp) (hK _ _ (VF.mk rfl) hRW (Ext.rf _))
     ·have h6:=(hD 6 (Zp (by kernel_rfl))).k rfl
      exact XY (T:=22) rfl (.slice (some ⟨ab,ao,none⟩) xw.length a) (.int .i64 q) (Eq.trans (b:=u 6) (by kernel_rfl) h6) (by kernel_rfl) (.pointer (some ⟨ab,ao+q,none⟩)) (by go_simp) (hK _ _ (VF.mk rfl) hRW (Ext.rf _))
     ·have h8:=(hD 8 (Zp (by kernel_rfl))).k rfl
      exact Zv (T:=3) rfl (.pointer (some ⟨ab,ao+q,none⟩)) (Eq.trans (b:=u 8) (by kernel_rfl) h8) (.int .i64 x) (by go_simp) (hK _ _ (VF.mk rfl) hRW (Ext.rf _))
     ·have h9:=(hD 9 (Zp (by kernel_rfl))).k rfl
      exact Vw rfl _ (Eq.trans (b:=u 9) (by kernel_rfl) h9) _ (hbs.out _ _) (hK _ _ (VF.mg rfl fun _=>⟨_,rfl,.new rfl⟩) (hRW.alloc _) ((Ext.rf _).alloc _))
    ·intro u w6 hRW hV
     have h4:=(hV (4,some 49) (by simp)).k rfl;have h6:=(hV (6,some 51) (by simp)).k rfl;have h8:=(hV (8,some 53) (by simp)).k rfl;have h9:=(hV (9,some 54) (by simp)).k rfl;obtain⟨hq,h10,b10⟩:=(hV (10,some 55) (by simp)).g rfl rfl;simp only[Zn,h4,h6,h8,h9,h10];obtain⟨A7,c7,w7,hrun,o7,g7,alt7⟩:=Wa w6 w3.heap.size 22 WA WL.length wc WL [x] (some ⟨hq,0,none⟩) 1 rfl (OW.out.ext hRW) (.blk b10 rfl) (by simp;omega) (Nat.le_trans Y.size hRW.size);obtain⟨b7,F7⟩:=ZjO (Bg.out.ext hRW) hgb (OW.out.ext hRW) (OV.out.ext hRW) (OH.out.ext hRW) dd1 dd2 dd3 g7 o7 alt7;have x7:Ext w3 w7:=(Y.tr hRW).grow g7 (fun k hk=>(OW.out.lt k hk).1);have cg7:=b7.c2;have fg7:=b7.free 2;have Y7:Ext w3 (w7.setCell ⟨g,2,none⟩ (.slice A7 (WL.length+1) c7)):=x7.setNew (p:=⟨g,2,none⟩) hgb _;replace F7:=Hd F7;rw[show (WL++[x]).length=WL.length+1 from by simp] at hrun;clear h4 h6 h8 h9 h10 hV b10 o7 g7 alt7 b7;refine Zl 11 (by kernel_rfl) (WQ rfl (.slice WA WL.length wc) (.slice (some ⟨hq,0,none⟩) 1 1) (by kernel_rfl) (by kernel_rfl) _ hrun ?_)
     try simp only[lay]
     refine Zc (i:=12) (op:=Op.nilCheck (Operand.tmp 45)) (t:=0) (d:=some 57) (v:=_) rfl (by decide +kernel) (fun _ _ _ h=>h) (by intro _;unfold Ze;go_simp;try with_reducible rfl) ?_
     try simp only[lay]
     refine Zc (i:=13) (op:=Op.fieldAddr 100 (Operand.tmp 57) 2) (t:=0) (d:=some 58) (v:=_) rfl (by decide +kernel) (fun _ _ _ h=>h) (by intro _;unfold Ze;go_simp;try with_reducible rfl) ?_
     try simp only[lay]
     refine Zl 14 (by kernel_rfl) (Xq rfl (.pointer (some ⟨g,2,none⟩)) (.slice A7 (WL.length+1) c7) (by kernel_rfl) (by kernel_rfl) (by go_simp;rfl) ?_);refine wpAny_done (by kernel_rfl) ?_ _;clear hrun hRW cg7 fg7 x7;generalize w7.setCell ⟨g,2,none⟩ (.slice A7 (WL.length+1) c7)=w8 at *;clear w7;go_simp;clear Bg OW OV OH dd1 dd2 dd3 HF zg cs2 zs2 Bi zi;have Bi:=Hd (B3.out.ext Y7);have zi:=Bi.out.lt;go_wp2_with (fail);obtain⟨WA2,wc2,VA2,vc2,HA2,hc2,Bg,hgb,OW,OV,OH,dd1,dd2,dd3⟩:=F7.out;have zg:=Bg.lt;have zs3:=Nat.lt_of_lt_of_le zs3' Y7.size;have cs3:=Zd Y7 zs3' cs3';replace Bg:=Hd Bg;replace OW:=Hd OW;replace OV:=Hd OV;replace OH:=Hd OH;clear F7;refine wp_region_any (by kernel_rfl) ?_
     change wpAny _ _ _ _ _ _ _ (World.drew _)
     refine Zc (i:=0) (op:=Op.move (Operand.tmp 7)) (t:=61) (d:=some 59) (v:=_) rfl (by decide +kernel) (fun _ _ _ h=>h) (by intro _;unfold Ze;go_simp;try with_reducible rfl) ?_
     try simp only[lay]
     refine Zc (i:=1) (op:=Op.move (Operand.tmp 7)) (t:=61) (d:=some 60) (v:=_) rfl (by decide +kernel) (fun _ _ _ h=>h) (by intro _;unfold Ze;go_simp;try with_reducible rfl) ?_
     try simp only[lay]
     refine Zc (i:=2) (op:=Op.nilCheck (Operand.tmp 60)) (t:=0) (d:=some 61) (v:=_) rfl (by decide +kernel) (fun _ _ _ h=>h) (by intro _;unfold Ze;go_simp;try with_reducible rfl) ?_
     try simp only[lay]
     refine Zc (i:=3) (op:=Op.fieldAddr 100 (Operand.tmp 61) 3) (t:=0) (d:=some 62) (v:=_) rfl (by decide +kernel) (fun _ _ _ h=>h) (by intro _;unfold Ze;go_simp;try with_reducible rfl) ?_
     try simp only[lay]
     refine Zc (i:=5) (op:=Op.fieldAddr 25 (Operand.tmp 1) 4) (t:=0) (d:=some 64) (v:=_) rfl (by decide +kernel) (fun _ _ _ h=>h) (by intro _;unfold Ze;go_simp;try with_reducible rfl) ?_
     try simp only[lay]
     refine Zc (i:=7) (op:=Op.move (Operand.tmp 9)) (t:=3) (d:=some 66) (v:=_) rfl (by decide +kernel) (fun _ _ _ h=>h) (by intro _;unfold Ze;go_simp;try with_reducible rfl) ?_
     try simp only[lay]
     refine ZM (n:=4) [(4,some 63),(6,some 65),(8,some 67),(9,some 68),(10,some 69)] (Ext w8)
      (VF (fun | 4=>some (.slice VA2 VL.length vc2) | 6=>some (.slice (some ⟨bb,bo,none⟩) xv.length b) | 8=>some (.pointer (some ⟨bb,bo+q,none⟩)) | 9=>some (.int .i64 y) | _=>none)
       (fun j v W=>j=10->∃ h,v=.slice (some ⟨h,0,none⟩) 1 1/\Blk W h 3 #[.int .i64 y]))
      Ext #[true,true,true,true,true,true,true,true,true,true,true,false,false,false,false] (by kernel_rfl) (VF.stab ?_) ?_ ?_ ((Ext.rf _).drew)
     ·intro j v W W' _ g6 hx h
      obtain⟨h,q1,q2⟩:=g6 h;exact⟨h,q1,q2.ext hx⟩
     ·intro pq hpm u W hRW hD K hK
      have r1:=Zd hRW zg (Bg.out.cell 3);have r2:=Zd hRW zi (Bi.out.cell 4);have r3:=Zd hRW zs3 cs3;simp only[List.mem_cons,List.not_mem_nil,or_false] at hpm;rcases hpm with rfl | rfl | rfl | rfl | rfl
      ·exact Zv (T:=22) rfl (.pointer (some ⟨g,3,none⟩)) (by kernel_rfl) (.slice VA2 VL.length vc2) (by go_simp) (hK _ _ (VF.mk rfl) hRW (Ext.rf _))
      ·exact Zv (T:=22) rfl (.pointer (some ⟨w.heap.size,4,none⟩)) (by kernel_rfl) (.slice (some ⟨bb,bo,none⟩) xv.length b) (by go_simp) (hK _ _ (VF.mk rfl) hRW (Ext.rf _))
      ·have h6:=(hD 6 (Zp (by kernel_rfl))).k rfl
       exact XY (T:=22) rfl (.slice (some ⟨bb,bo,none⟩) xv.length b) (.int .i64 q) (Eq.trans (b:=u 6) (by kernel_rfl) h6) (by kernel_rfl) (.pointer (some ⟨bb,bo+q,none⟩)) (by go_simp) (hK _ _ (VF.mk rfl) hRW (Ext.rf _))
      ·have h8:=(hD 8 (Zp (by kernel_rfl))).k rfl
       exact Zv (T:=3) rfl (.pointer (some ⟨bb,bo+q,none⟩)) (Eq.trans (b:=u 8) (by kernel_rfl) h8) (.int .i64 y) (by go_simp) (hK _ _ (VF.mk rfl) hRW (Ext.rf _))
      ·have h9:=(hD 9 (Zp (by kernel_rfl))).k rfl
       exact Vw rfl _ (Eq.trans (b:=u 9) (by kernel_rfl) h9) _ (hbs.out _ _) (hK _ _ (VF.mg rfl fun _=>⟨_,rfl,.new rfl⟩) (hRW.alloc _) ((Ext.rf _).alloc _))
     ·intro u w6 hRW hV
      have h4:=(hV (4,some 63) (by simp)).k rfl;have h6:=(hV (6,some 65) (by simp)).k rfl;have h8:=(hV (8,some 67) (by simp)).k rfl;have h9:=(hV (9,some 68) (by simp)).k rfl;obtain⟨hq,h10,b10⟩:=(hV (10,some 69) (by simp)).g rfl rfl;simp only[Zn,h4,h6,h8,h9,h10];obtain⟨A7,c7,w7,hrun,o7,g7,alt7⟩:=Wa w6 w3.heap.size 22 VA2 VL.length vc2 VL [y] (some ⟨hq,0,none⟩) 1 rfl (OV.out.ext hRW) (.blk b10 rfl) (by simp;omega) (Nat.le_trans Y7.size hRW.size);obtain⟨b7,F7⟩:=ZjP (Bg.out.ext hRW) hgb (OW.out.ext hRW) (OV.out.ext hRW) (OH.out.ext hRW) dd1 dd2 dd3 g7 o7 alt7;have x7:Ext w3 w7:=(Y7.tr hRW).grow g7 (fun k hk=>(OV.out.lt k hk).1);have cg7:=b7.c3;have fg7:=b7.free 3;have Y9:Ext w3 (w7.setCell ⟨g,3,none⟩ (.slice A7 (VL.length+1) c7)):=x7.setNew (p:=⟨g,3,none⟩) hgb _;have F9:=Hd F7;rw[show (VL++[y]).length=VL.length+1 from by simp] at hrun;clear F7 h4 h6 h8 h9 h10 hV b10 o7 g7 alt7 b7;refine Zl 11 (by kernel_rfl) (WQ rfl (.slice VA2 VL.length vc2) (.slice (some ⟨hq,0,none⟩) 1 1) (by kernel_rfl) (by kernel_rfl) _ hrun ?_)
      try simp only[lay]
      refine Zc (i:=12) (op:=Op.nilCheck (Operand.tmp 59)) (t:=0) (d:=some 71) (v:=_) rfl (by decide +kernel) (fun _ _ _ h=>h) (by intro _;unfold Ze;go_simp;try with_reducible rfl) ?_
      try simp only[lay]
      refine Zc (i:=13) (op:=Op.fieldAddr 100 (Operand.tmp 71) 3) (t:=0) (d:=some 72) (v:=_) rfl (by decide +kernel) (fun _ _ _ h=>h) (by intro _;unfold Ze;go_simp;try with_reducible rfl) ?_
      try simp only[lay]
      refine Zl 14 (by kernel_rfl) (Xq rfl (.pointer (some ⟨g,3,none⟩)) (.slice A7 (VL.length+1) c7) (by kernel_rfl) (by kernel_rfl) (by go_simp;rfl) ?_);refine wpAny_done (by kernel_rfl) ?_ _;clear hrun hRW cg7 fg7 x7;generalize w7.setCell ⟨g,3,none⟩ (.slice A7 (VL.length+1) c7)=w9 at *;clear w7;go_simp;go_wp2_with (fail);go_roundw
      case rel=>exact⟨j+1,by go_num,by omega,by rw[EW.out,EV.out];exact F9.out,Y9⟩
      case measure=>simp[intOf];omega
   ·obtain rfl:j=n:=by omega
    have eF:Hid (l.take j=l):=List.take_of_length_le (by rw[RL.out];exact Nat.le_refl _);have HF':Hid (Fill wo w3.heap.size g cap PA l.length pc (Zu l xw) (Zu l xv) (List.replicate (j+1) 0)):=by
     have h:=HF.out;rw[eF.out] at h;exact h
    have lV:(Zu l xv).length=j:=by rw[YS];exact RL.out
    have bV:Small31 (Zu l xv):=by
     intro z hz;obtain⟨q,hq,rfl⟩:=List.mem_map.1 hz;obtain⟨k,hk⟩:=List.mem_iff_getElem?.1 hq;have hqn:=RM.out k q hk;have:xv[q]?=some (xv[q]'(by rw[lv.out];exact hqn)):=List.getElem?_eq_getElem _;rw[getD_some this];exact sv.out _ (List.getElem_mem _)
    have HF2:Hid (Fill wo w3.heap.size g cap PA l.length pc (Zu l xw) (Zu l xv) (Xr (Zu l xv) j)):=by
     have h:=HF'.out;have e9:=ZeU (Zu l xv);rw[lV] at e9;rw[<-e9] at h;exact h
    have hWe:Hid (Zu l xw=Zu (ZR xv xw) xw):=by rw[hl.out];exact rfl
    have hVe:Hid (Zu l xv=Zu (ZR xv xw) xv):=by rw[hl.out];exact rfl
    generalize Zu l xw=XW at *;generalize Zu l xv=XV at *;have k1:=Bi.out.c1;clear HF HF' eF;replace lV:=Hd lV;replace bV:=Hd bV;have hge:l.length<=j:=by rw[RL.out];exact Nat.le_refl _
    have hgeb:decide (j<l.length)=false:=by simpa using hge
    go_wp2_with (fail);go_loopw [10] (fun i wr=>∃ (k:Nat) (z:Int),i=.int .i64 z/\z+1=(k:Int)/\k<=j/\Hid (Fill wr w3.heap.size g cap PA l.length pc XW XV (Xr XV k))/\Ext w3 wr) (fun i _=>(intOf i+1).toNat)
    case atStart=>exact⟨j,_,rfl,by omega,by omega,HF2,Y⟩
    case round =>
     obtain⟨wq,rfl⟩:=Wq wr;obtain⟨k,z,rfl,hz,hk,HG,Z⟩:=hrel
     by_cases h0:1<=k
     ·obtain⟨m,rfl⟩:∃ m,k=m+1:=⟨k-1,by omega⟩
      obtain rfl:z=(m:Int):=by omega
      obtain⟨WA,wc,VA,vc,HA,hc,Bg,hgb,OW,OV,OH,dd1,dd2,dd3⟩:=HG.out;obtain⟨hb,x0,rfl,hbb,zh,_,_,_,hset⟩:=OH.at (k:=m) (by rw[VM,lV.out];omega);obtain⟨hb',x1,e1,_,_,ch1,_,ex1,_⟩:=OH.at (k:=m+1) (by rw[VM,lV.out];omega);obtain rfl:hb=hb':=by injection e1 with e1;injection e1
      obtain rfl:x1=Zg (XV.drop (m+1)):=by
       have h1:=ZbW (vs:=XV) (k:=m+1) (i:=m+1) (by rw[lV.out];omega) (Nat.le_refl _);rw[ex1.out] at h1;exact Option.some.inj h1
      obtain⟨vb,y,rfl,_,zv,cv,_,ey,_⟩:=OV.at (k:=m) (by rw[lV.out];omega);have bd1:=Zah bV.out (m+1);rw[lV.out] at bd1;have bd2:=bV.out.get ey.out;have cB:=Bg.cell 4;have cV:=Bg.cell 3;have zg:=Bg.lt;have lB:(Xr XV (m+1)).length=j+1:=by rw[VM,lV.out]
      simp only[lB,lV.out] at cB cV;obtain⟨S,hS⟩:∃ S,Hid (S=Zg (XV.drop (m+1))):=⟨_,rfl⟩;rw[<-hS.out] at bd1 ch1;replace Bg:=Hd Bg;replace OW:=Hd OW;replace OV:=Hd OV;replace OH:=Hd OH;clear hset HG lB ex1 e1 hz h0;replace cB:wq.cell? ⟨g,4,none⟩=some (.slice (some ⟨hb,0,none⟩) (j+1) hc):=cB;replace cV:wq.cell? ⟨g,3,none⟩=some (.slice (some ⟨vb,0,none⟩) j vc):=cV;have hmj:m<j:=by omega
      have q1:(0:Int)<=(m:Int)+1:=by omega
      have q2:(m:Int)<(j:Int)+1:=by omega
      have q3:(m:Int)+1<(j:Int)+1:=by omega
      have q4:¬((m:Int)+1<0):=by omega
      clear HF2;go_wp2_with (fail);refine wp_region_any (by kernel_rfl) ?_
      change wpAny _ _ _ _ _ _ _ (World.drew _)
      refine Zc (i:=0) (op:=Op.move (Operand.tmp 7)) (t:=61) (d:=some 81) (v:=_) rfl (by decide +kernel) (fun _ _ _ h=>h) (by intro _;unfold Ze;go_simp;try with_reducible rfl) ?_
      try simp only[lay]
      refine Zc (i:=1) (op:=Op.nilCheck (Operand.tmp 81)) (t:=0) (d:=some 82) (v:=_) rfl (by decide +kernel) (fun _ _ _ h=>h) (by intro _;unfold Ze;go_simp;try with_reducible rfl) ?_
      try simp only[lay]
      refine Zc (i:=2) (op:=Op.fieldAddr 100 (Operand.tmp 82) 4) (t:=0) (d:=some 83) (v:=_) rfl (by decide +kernel) (fun _ _ _ h=>h) (by intro _;unfold Ze;go_simp;try with_reducible rfl) ?_
      try simp only[lay]
      refine Zc (i:=4) (op:=Op.move (Operand.tmp 10)) (t:=3) (d:=some 85) (v:=_) rfl (by decide +kernel) (fun _ _ _ h=>h) (by intro _;unfold Ze;go_simp;try with_reducible rfl) ?_
      try simp only[lay]
      refine Zc (i:=5) (op:=Op.move (Operand.tmp 7)) (t:=61) (d:=some 86) (v:=_) rfl (by decide +kernel) (fun _ _ _ h=>h) (by intro _;unfold Ze;go_simp;try with_reducible rfl) ?_
      try simp only[lay]
      refine Zc (i:=6) (op:=Op.nilCheck (Operand.tmp 86)) (t:=0) (d:=some 87) (v:=_) rfl (by decide +kernel) (fun _ _ _ h=>h) (by intro _;unfold Ze;go_simp;try with_reducible rfl) ?_
      try simp only[lay]
      refine Zc (i:=7) (op:=Op.fieldAddr 100 (Operand.tmp 87) 4) (t:=0) (d:=some 88) (v:=_) rfl (by decide +kernel) (fun _ _ _ h=>h) (by intro _;unfold Ze;go_simp;try with_reducible rfl) ?_
      try simp only[lay]
      refine Zc (i:=9) (op:=Op.move (Operand.tmp 10)) (t:=3) (d:=some 90) (v:=_) rfl (by decide +kernel) (fun _ _ _ h=>h) (by intro _;unfold Ze;go_simp;try with_reducible rfl) ?_
      try simp only[lay]
      refine Zc (i:=13) (op:=Op.move (Operand.tmp 7)) (t:=61) (d:=some 94) (v:=_) rfl (by decide +kernel) (fun _ _ _ h=>h) (by intro _;unfold Ze;go_simp;try with_reducible rfl) ?_
      try simp only[lay]
      refine Zc (i:=14) (op:=Op.nilCheck (Operand.tmp 94)) (t:=0) (d:=some 95) (v:=_) rfl (by decide +kernel) (fun _ _ _ h=>h) (by intro _;unfold Ze;go_simp;try with_reducible rfl) ?_
      try simp only[lay]
      refine Zc (i:=15) (op:=Op.fieldAddr 100 (Operand.tmp 95) 3) (t:=0) (d:=some 96) (v:=_) rfl (by decide +kernel) (fun _ _ _ h=>h) (by intro _;unfold Ze;go_simp;try with_reducible rfl) ?_
      try simp only[lay]
      refine Zc (i:=17) (op:=Op.move (Operand.tmp 10)) (t:=3) (d:=some 98) (v:=_) rfl (by decide +kernel) (fun _ _ _ h=>h) (by intro _;unfold Ze;go_simp;try with_reducible rfl) ?_
      try simp only[lay]
      refine ZM (n:=2) [(3,some 84),(8,some 89),(10,some 91),(11,some 92),(12,some 93),(16,some 97),(18,some 99),(19,some 100),(20,some 101)] (Ext wq)
       (VF (fun | 3=>some (.slice (some ⟨hb,0,none⟩) (j+1) hc) | 8=>some (.slice (some ⟨hb,0,none⟩) (j+1) hc) | 10=>some (.int .i64 ((m:Int)+1)) | 11=>some (.pointer (some ⟨hb,m+1,none⟩)) | 12=>some (.int .i64 S) | 16=>some (.slice (some ⟨vb,0,none⟩) j vc) | 18=>some (.pointer (some ⟨vb,m,none⟩)) | 19=>some (.int .i64 y) | 20=>some (.int .i64 (S+y)) | _=>none) (fun _ _ _=>True))
       Ext #[true,true,true,true,true,true,true,true,true,true,true,true,true,true,true,true,true,true,true,true,true,false,false] (by kernel_rfl) (VF.stab ?_) ?_ ?_ ((Ext.rf _).drew)
      ·intro j v W W' _ h _
       exact h
      ·intro pq hpm u W hRW hD K hK
       have r1:=Zd hRW zg cB;have r2:=Zd hRW zg cV;have r3:=Zd hRW zh ch1;have r4:=Zd hRW zv cv;simp only[List.mem_cons,List.not_mem_nil,or_false] at hpm;rcases hpm with rfl | rfl | rfl | rfl | rfl | rfl | rfl | rfl | rfl
       ·exact Zv (T:=22) rfl (.pointer (some ⟨g,4,none⟩)) (by kernel_rfl) (.slice (some ⟨hb,0,none⟩) (j+1) hc) (by go_simp) (hK _ _ (VF.mk rfl) hRW (Ext.rf _))
       ·exact Zv (T:=22) rfl (.pointer (some ⟨g,4,none⟩)) (by kernel_rfl) (.slice (some ⟨hb,0,none⟩) (j+1) hc) (by go_simp) (hK _ _ (VF.mk rfl) hRW (Ext.rf _))
       ·exact Z5 rfl (.int .i64 ((m:Int)+1)) (by simp only[Zn];unfold Ze;go_simp;exact IntWalk.i64_in _ (by omega)) (hK _ _ (VF.mk rfl) hRW (Ext.rf _))
       ·have h8:=(hD 8 (Zp (by kernel_rfl))).k rfl
        have h10:=(hD 10 (Zp (by kernel_rfl))).k rfl;exact XY (T:=22) rfl (.slice (some ⟨hb,0,none⟩) (j+1) hc) (.int .i64 ((m:Int)+1)) (Eq.trans (b:=u 8) (by kernel_rfl) h8) (Eq.trans (b:=u 10) (by kernel_rfl) h10) (.pointer (some ⟨hb,m+1,none⟩)) (by go_simp) (hK _ _ (VF.mk rfl) hRW (Ext.rf _))
       ·have h11:=(hD 11 (Zp (by kernel_rfl))).k rfl
        exact Zv (T:=3) rfl (.pointer (some ⟨hb,m+1,none⟩)) (Eq.trans (b:=u 11) (by kernel_rfl) h11) (.int .i64 S) (by go_simp) (hK _ _ (VF.mk rfl) hRW (Ext.rf _))
       ·exact Zv (T:=22) rfl (.pointer (some ⟨g,3,none⟩)) (by kernel_rfl) (.slice (some ⟨vb,0,none⟩) j vc) (by go_simp) (hK _ _ (VF.mk rfl) hRW (Ext.rf _))
       ·have h16:=(hD 16 (Zp (by kernel_rfl))).k rfl
        exact XY (T:=22) rfl (.slice (some ⟨vb,0,none⟩) j vc) (.int .i64 m) (Eq.trans (b:=u 16) (by kernel_rfl) h16) (by kernel_rfl) (.pointer (some ⟨vb,m,none⟩)) (by go_simp) (hK _ _ (VF.mk rfl) hRW (Ext.rf _))
       ·have h18:=(hD 18 (Zp (by kernel_rfl))).k rfl
        exact Zv (T:=3) rfl (.pointer (some ⟨vb,m,none⟩)) (Eq.trans (b:=u 18) (by kernel_rfl) h18) (.int .i64 y) (by go_simp) (hK _ _ (VF.mk rfl) hRW (Ext.rf _))
       ·have h12:=(hD 12 (Zp (by kernel_rfl))).k rfl
        have h19:=(hD 19 (Zp (by kernel_rfl))).k rfl;exact Z5 rfl (.int .i64 (S+y)) (by simp only[Zn,h12,h19];unfold Ze;go_simp;exact IntWalk.i64_in _ (by omega)) (hK _ _ (VF.mk rfl) hRW (Ext.rf _))
      ·intro u w6 hRW hV
       have h3:=(hV (3,some 84) (by simp)).k rfl;have h8:=(hV (8,some 89) (by simp)).k rfl;have h10:=(hV (10,some 91) (by simp)).k rfl;have h11:=(hV (11,some 92) (by simp)).k rfl;have h12:=(hV (12,some 93) (by simp)).k rfl;have h16:=(hV (16,some 97) (by simp)).k rfl;have h18:=(hV (18,some 99) (by simp)).k rfl;have h19:=(hV (19,some 100) (by simp)).k rfl;have h20:=(hV (20,some 101) (by simp)).k rfl;simp only[Zn,h3,h8,h10,h11,h12,h16,h18,h19,h20];clear hV h3 h8 h10 h11 h12 h16 h18 h19 h20;have Z6:=Z.tr hRW;obtain⟨x2,ch2,fh2,_,_,hset⟩:=(OH.out.ext hRW).cell (k:=m) (by rw[VM,lV.out];omega);have HN:Hid (Fill (w6.setCell ⟨hb,m,none⟩ (.int .i64 (S+y))) w3.heap.size g cap PA l.length pc XW XV (Xr XV m)):=by
        have h:=ZjQ (Bg.out.ext hRW) hgb (OW.out.ext hRW) (OV.out.ext hRW) (OH.out.ext hRW) dd1 dd2 dd3 (k:=m) (y:=S+y) (hset.out _);rw[hS.out,ZgI ey.out] at h;rw[hS.out];exact h
       have ZN:=Hd (Z6.setNew (p:=⟨hb,m,none⟩) hbb (.int .i64 (S+y)));clear hset
       try simp only[lay]
       refine Zc (i:=21) (op:=Op.indexAddr 22 (Operand.tmp 84) (Operand.tmp 85)) (t:=0) (d:=some 102) (v:=_) rfl (by decide +kernel) (fun _ _ _ h=>h) (by intro _;unfold Ze;go_simp;try with_reducible rfl) ?_
       try simp only[lay]
       refine Zl 22 (by kernel_rfl) (Xq rfl (.pointer (some ⟨hb,m,none⟩)) (.int .i64 (S+y)) (by kernel_rfl) (by kernel_rfl) (by go_simp;rfl) ?_);refine wpAny_done (by kernel_rfl) ?_ _;clear ch2 fh2 hRW Z6;generalize w6.setCell ⟨hb,m,none⟩ (.int .i64 (S+y))=w8 at *;clear w6;go_simp;go_wp2_with (fail);go_roundw
       case rel=>exact⟨m,_,rfl,by omega,by omega,HN,ZN.out⟩
       case measure=>simp[intOf]
     ·obtain rfl:k=0:=by omega
      obtain rfl:z=-1:=by omega
      go_wp2_with (fail);go_ret2;obtain⟨WA,wc,VA,vc,HA,hc,Bg,hgb,OW,OV,OH,-,-,-⟩:=HG.out;have bw3:=X3.out.size;refine⟨g,rfl,⟨PA,pc,WA,wc,VA,vc,HA,hc,?_,Nat.le_trans bw3 hgb,⟨?_,bP'.out⟩,⟨?_,fun k hk=>Nat.le_trans bw3 (OW.lt k hk).1⟩,⟨?_,fun k hk=>Nat.le_trans bw3 (OV.lt k hk).1⟩,⟨?_,fun k hk=>Nat.le_trans bw3 (OH.lt k hk).1⟩⟩,X3.out.tr Z⟩
      ·rw[<-hWe.out,<-hVe.out,<-hl.out]
       exact Bg
      ·rw[<-hl.out]
       exact rP.out.ext Z
      ·rw[<-hWe.out]
       exact OW.read
      ·rw[<-hVe.out]
       exact OV.read
      ·rw[<-hVe.out]
       exact OH.read
structure KOk (cap:Int)(l:List Nat)(ws vs bs:List Int) : Prop where
 cap:0<=cap/\cap<=2147483647
 l64:l.length<=64
 lw:ws.length=l.length
 lv:vs.length=l.length
 lb:bs.length=l.length+1
 sw:Small31 ws
 sv:Small31 vs
theorem ZbX {base g:Nat}{cap:Int}{l:List Nat}{ws vs bs:List Int}(w:World)(H:KernB w base g cap l ws vs bs) :
  Calls Tryz.prog 177 #[.pointer (some ⟨g,0,none⟩)] w fun e w'=>e=.returned (.int .i64 l.length)/\Ext w w':=by
 obtain⟨PA,pc,WA,wc,VA,vc,HA,hc,hB,-⟩:=H;have c1:=hB.c1;replace hB:=Hd hB;go_enter Tryz.func177,Tryz.ntmps177;go_wp2;go_ret;exact⟨rfl,Ext.rf _⟩
def ZaP : Option (Int×Int)->Value
 | some (r,o)=>.tuple #[.int .i64 r,.int .i64 o,.bool true]
 | none=>.tuple #[.int .i64 0,.int .i64 0,.bool false]
theorem ZbY {base g:Nat}{cap:Int}{l:List Nat}{ws vs bs:List Int}(P:Option Addr)(c:Nat)(p:List Int)(w:World)(H:KernB w base g cap l ws vs bs)(ok:KOk cap l ws vs bs)(hP:RdI w P p)(lp:p.length<=1000000000) :
  Calls Tryz.prog 179 #[.pointer (some ⟨g,0,none⟩),.slice P p.length c] w fun e w'=>e=.returned (ZaP (stP cap 0 ws vs p))/\Ext w w':=by
 obtain⟨PA,pc,WA,wc,VA,vc,HA,hc,hB,-,-,⟨rW,-⟩,⟨rV,-⟩,-⟩:=H;obtain⟨okc,l64,lw,lv,lb,sw,sv⟩:=ok;have c0:=hB.c0;have c1:=hB.c1;have c2:=hB.c2;have c3:=hB.c3;have zg:=hB.lt;replace hB:=Hd hB;replace lw:=Hd lw;replace lv:=Hd lv;replace lb:=Hd lb
 by_cases hlen:l.length<p.length
 ·have HN:Hid (stP cap 0 ws vs p=none):=Wv (by rw[lw.out];exact hlen)
  have hgt:decide (l.length<p.length)=true:=by simpa using hlen
  go_enter Tryz.func179,Tryz.ntmps179;go_wp2;go_ret3;exact⟨by rw[HN.out];rfl,Ext.rf _⟩
 ·have hgt:decide (l.length<p.length)=false:=by simpa using hlen
  go_enter Tryz.func179,Tryz.ntmps179;go_wp2_with (fail);go_loopw [4,5,27] (fun r o i wr=>∃ (k:Nat) (room out:Int),i=.int .i64 k/\r=.int .i64 room/\o=.int .i64 out/\k<=p.length/\0<=room/\room<=2147483647/\0<=out/\out<=2147483647*(k:Int)/\Hid (stP cap 0 ws vs p=stP room out (ws.drop k) (vs.drop k) (p.drop k))/\Ext w wr) (fun _ _ i _=>p.length-(intOf i).toNat)
  case atStart=>exact⟨0,cap,0,rfl,rfl,rfl,by omega,okc.1,okc.2,by omega,by omega,by exact rfl,Ext.rf _⟩
  case round =>
   obtain⟨k,room,out,rfl,rfl,rfl,hk,b1,b2,b3,b4,HS,Y⟩:=hrel
   by_cases hlt:k<p.length
   ·obtain⟨pb,po,x,rfl,_,cx,ex,dx⟩:=(hP.ext Y).at hlt
    have hkw:k<ws.length:=by rw[lw.out];omega
    have hkv:k<vs.length:=by rw[lv.out];omega
    obtain⟨wb,wo,u,rfl,_,cu,eu,du⟩:=(rW.ext Y).at hkw;obtain⟨vb,vo,v,rfl,_,cv,ev,dv⟩:=(rV.ext Y).at hkv;have bu:=sw.get eu.out;have bv:=sv.get ev.out;have k0:=Zd Y zg c0;have k2:=Zd Y zg c2;have k3:=Zd Y zg c3;have HT:Hid (stP cap 0 ws vs p=if x=1 then(if room-u<0 then none else stP (room-u) out (ws.drop (k+1)) (vs.drop (k+1)) (p.drop (k+1))) else if x=0 then(if room<0 then none else stP room (out+v) (ws.drop (k+1)) (vs.drop (k+1)) (p.drop (k+1))) else none):=by
     have h:=HS.out;rw[dx.out,du.out,dv.out] at h;exact h
    clear HS ex eu ev dx du dv sw sv
    by_cases x1:x=1
    ·subst x1
     by_cases hneg:room-u<0
     ·have HN:Hid (stP cap 0 ws vs p=none):=by
       have h:=HT.out;rw[if_pos rfl,if_pos hneg] at h;exact h
      go_wp2;go_ret3;exact⟨by rw[HN.out];rfl,Y⟩
     ·have HN:Hid (stP cap 0 ws vs p=stP (room-u) out (ws.drop (k+1)) (vs.drop (k+1)) (p.drop (k+1))):=by
       have h:=HT.out;rw[if_pos rfl,if_neg hneg] at h;exact h
      go_wp2;go_roundw
      case rel=>exact⟨k+1,room-u,out,by go_num,rfl,rfl,by omega,by omega,by omega,by omega,by omega,HN,Y⟩
      case measure=>simp[intOf];omega
    ·have x1':(x==1)=false:=by simpa using x1
     by_cases x0:x=0
     ·subst x0
      have HN:Hid (stP cap 0 ws vs p=stP room (out+v) (ws.drop (k+1)) (vs.drop (k+1)) (p.drop (k+1))):=by
       have h:=HT.out;rw[if_neg x1,if_pos rfl,if_neg (by omega)] at h;exact h
      clear x1;go_wp2;go_roundw
      case rel=>exact⟨k+1,room,out+v,by go_num,rfl,rfl,by omega,by omega,by omega,by omega,by omega,HN,Y⟩
      case measure=>simp[intOf];omega
     ·have x0':(x==0)=false:=by simpa using x0
      have HN:Hid (stP cap 0 ws vs p=none):=by
       have h:=HT.out;rw[if_neg x1,if_neg x0] at h;exact h
      clear x1 x0;go_wp2;go_ret3;exact⟨by rw[HN.out];rfl,Y⟩
   ·have HN:Hid (stP cap 0 ws vs p=some (room,out)):=by
     have h:=HS.out;rw[List.drop_of_length_le (l:=p) (by omega)] at h;rw[h]
     cases ws.drop k<;>cases vs.drop k<;>rfl
    clear HS sw sv;go_wp2;go_ret3;exact⟨by rw[HN.out];rfl,Y⟩
theorem ZgJ (x y:Int)(w:World)(hx:0<=x)(hx':x<=4611686014132420609)(hy:1<=y)(hy':y<=2147483647) :
  Calls Tryz.prog 182 #[.int .u64 0,.int .u64 x,.int .u64 y] w fun e w'=>e=.returned (.tuple #[.int .u64 (x / y),.int .u64 (x%y)])/\Ext w w':=by
 have y0:(y==0)=false:=by rw[beq_eq_false_iff_ne];omega
 have y1:decide (y<=0)=false:=by simp;omega
 go_enter Tryz.func182,Tryz.ntmps182;go_wp2_with (go_quiet (fail));go_ret2;exact⟨rfl,XI⟩
theorem ZhR (a b c:Int)(w:World)(ha:0<=a/\a<=2147483647)(hb:0<=b/\b<=2147483647)(hc:1<=c/\c<=2147483647) :
  Calls Tryz.prog 181 #[.int .i64 a,.int .i64 b,.int .i64 c] w fun e w'=>e=.returned (.tuple #[.int .i64 (a*b / c),.bool true])/\Ext w w':=by
 obtain⟨ha,ha'⟩:=ha;obtain⟨hb,hb'⟩:=hb;obtain⟨hc,hc'⟩:=hc;have hm:=Uh ha ha' hb hb';have wa:IntKind.u64.wrap a=a:=wraps_u64 _ ha (by omega);have wb:IntKind.u64.wrap b=b:=wraps_u64 _ hb (by omega);have wc:IntKind.u64.wrap c=c:=wraps_u64 _ (by omega) (by omega);have M:=ZbU a b;have D:=ZgJ (a*b) c;have hq:0<=a*b / c/\a*b / c<=4611686014132420609:=by
  refine⟨Int.ediv_nonneg hm.1 (by omega),?_⟩;have:=Int.ediv_le_self c hm.1;omega
 have na:decide (a<0)=false:=by simpa using ha
 have nb:decide (b<0)=false:=by simpa using hb
 have nc:decide (c<=0)=false:=by simp;omega
 generalize a*b=p at *;generalize p / c=q at *;generalize p%c=r at *;obtain⟨hm1,hm2⟩:=hm;obtain⟨hq1,hq2⟩:=hq;have wq:IntKind.i64.wrap q=q:=IntWalk.i64_in _ (by omega);have hcc:decide (c<=0)=false:=nc;have ng:¬(9223372036854775807<q):=by omega
 replace M:=Hd M;replace D:=Hd D;go_enter Tryz.func181,Tryz.ntmps181;go_wp2_with (fail);refine(M.out _ ha ha' hb hb').mono ?_;rintro e w1 ⟨rfl,x1⟩;go_wp2_with (fail);refine(D.out _ hm1 hm2 hc hc').mono ?_;rintro e w2 ⟨rfl,x2⟩;go_wp2;go_ret2;exact⟨rfl,Ext.tr x1 x2⟩
def ZdE (ks:List Int)(err:Int)(w:World)(e:Ending)(w':World) : Prop:=∃ A c,e=.returned (.tuple #[.slice A ks.length c,.int .i64 err])/\RdI w' A ks/\ks.length<=c/\c<=9223372036854775807/\Ext w w'
theorem ZeV {base g:Nat}{cap:Int}{l:List Nat}{ws vs bs:List Int}(from_:Nat)(room:Int)(w:World)(H:KernB w base g cap l ws vs bs)(ok:KOk cap l ws vs bs)(hf:from_<=l.length)(hr:0<=room/\room<=2147483647) :
  Calls Tryz.prog 180 #[.pointer (some ⟨g,0,none⟩),.int .i64 from_,.int .i64 room] w fun e w'=>e=.returned (.int .i64 (Zq room (ws.drop from_) (vs.drop from_)))/\Ext w w':=by
 obtain⟨PA,pc,WA,wc,VA,vc,HA,hc,hB,-,-,⟨rW,-⟩,⟨rV,-⟩,-⟩:=H;obtain⟨okc,l64,lw,lv,lb,sw,sv⟩:=ok;have c1:=hB.c1;have c2:=hB.c2;have c3:=hB.c3;have zg:=hB.lt;replace hB:=Hd hB;replace lw:=Hd lw;replace lv:=Hd lv;replace lb:=Hd lb;obtain⟨hr1,hr2⟩:=hr;go_enter Tryz.func180,Tryz.ntmps180;go_wp2_with (fail);go_loopw [2,7,8] (fun r o i wr=>∃ (k:Nat) (rm up:Int),i=.int .i64 k/\r=.int .i64 rm/\o=.int .i64 up/\k<=l.length/\0<=rm/\rm<=2147483647/\0<=up/\up<=2147483647*(k:Int)/\Hid (Zq room (ws.drop from_) (vs.drop from_)=up+Zq rm (ws.drop k) (vs.drop k))/\Ext w wr) (fun _ _ i _=>l.length-(intOf i).toNat)
 case atStart=>exact⟨from_,room,0,rfl,rfl,rfl,hf,hr1,hr2,by omega,by omega,(Int.zero_add _).symm,Ext.rf _⟩
 case round =>
  obtain⟨k,rm,up,rfl,rfl,rfl,hk,b1,b2,b3,b4,HS,Y⟩:=hrel;have k1:=Zd Y zg c1
  by_cases hlt:k<l.length
  ·have hkw:k<ws.length:=by rw[lw.out];omega
   have hkv:k<vs.length:=by rw[lv.out];omega
   obtain⟨wb,wo,u,rfl,zu,cu,eu,du⟩:=(rW.ext Y).at hkw;obtain⟨vb,vo,v,rfl,zv,cv,ev,dv⟩:=(rV.ext Y).at hkv;have bu:=sw.get eu.out;have bv:=sv.get ev.out;have k2:=Zd Y zg c2;have k3:=Zd Y zg c3;have zg':=Nat.lt_of_lt_of_le zg Y.size
   by_cases hgt:rm<u
   ·have HN:Hid (Zq room (ws.drop from_) (vs.drop from_)=up+v*rm / u):=by
     have h:=HS.out;rw[du.out,dv.out,Zq,if_pos hgt] at h;exact h
    have hm:=Uh bv.1 bv.2 b1 b2;have hq:0<=v*rm / u/\v*rm / u<=4611686014132420609:=by
     refine⟨Int.ediv_nonneg hm.1 (by omega),?_⟩;have:=Int.ediv_le_self u hm.1;omega
    have PP:=Hd (fun W=>ZhR v rm u W bv ⟨b1,b2⟩ ⟨by omega,bu.2⟩);generalize v*rm / u=q at *;clear hm HS eu du ev dv sw sv;obtain⟨q1,q2⟩:=hq;go_wp2_with (fail);go_region_held3 (fun w'=>w'.cell? ⟨g,2,none⟩=some (.slice (some ⟨wb,wo,none⟩) ws.length wc)/\w'.cell? ⟨g,3,none⟩=some (.slice (some ⟨vb,vo,none⟩) vs.length vc)/\w'.cell? ⟨wb,wo+k,none⟩=some (.int .i64 u)/\w'.cell? ⟨vb,vo+k,none⟩=some (.int .i64 v)) (go_keep)
     (first | (go_at_call 181;refine(PP.out _).mono ?_;rintro e w2 ⟨rfl,x2⟩;have X2:=Ext.tr (a:=wr) XI x2;have s1:=Zd X2 zg' k2;have s2:=Zd X2 zg' k3;have s3:=Zd X2 zu cu;have s4:=Zd X2 zv cv))
    all_goals go_wp2
    all_goals go_ret
    all_goals exact⟨Z3 HN.out.symm,Ext.tr Y (by(repeat (first | assumption | exact Ext.rf _ | apply Ext.drew | apply Ext.drewN | apply Ext.alloc)))⟩
   ·have HN:Hid (Zq room (ws.drop from_) (vs.drop from_)=(up+v)+Zq (rm-u) (ws.drop (k+1)) (vs.drop (k+1))):=by
     have h:=HS.out;rw[du.out,dv.out,Zq,if_neg hgt,<-Int.add_assoc] at h;exact h
    clear HS eu du ev dv sw sv;go_wp2;go_roundw
    case rel=>exact⟨k+1,rm-u,up+v,by go_num,rfl,rfl,by omega,by omega,by omega,by omega,by omega,HN,Y⟩
    case measure=>simp[intOf];omega
  ·have HN:Hid (Zq room (ws.drop from_) (vs.drop from_)=up):=by
    have h:=HS.out;rw[List.drop_of_length_le (l:=ws) (i:=k) (by rw[lw.out];omega)] at h;rw[h];have h0:Zq rm [] (vs.drop k)=0:=by cases vs.drop k<;>rfl
    exact(by rw[h0,Int.add_zero]:up+Zq rm [] (vs.drop k)=up)
   clear HS sw sv;go_wp2;go_ret;exact⟨Z3 HN.out.symm,Y⟩
def ZdF (b:Int×Int) : Value:=.tuple #[.int .i64 b.1,.int .i64 b.2]
theorem ZgK {base g:Nat}{cap:Int}{l:List Nat}{ws vs bs:List Int}(P:Option Addr)(c:Nat)(p:List Int)(w:World)(H:KernB w base g cap l ws vs bs)(ok:KOk cap l ws vs bs)(hbs:bs=Xr vs 0)(hP:RdI w P p)(lp:p.length<=1000000000) :
  Calls Tryz.prog 176 #[.pointer (some ⟨g,0,none⟩),.slice P p.length c] w fun e w'=>e=.returned (ZdF (Ym cap ws vs p))/\Ext w w':=by
 have ST:=ZbY P c p w H ok hP lp;have HBr:=fun(room:Int) (hf:p.length<=l.length) (hr:0<=room/\room<=2147483647) W (x:Ext w W)=>ZeV p.length room W (H.ext x) ok hf hr
 obtain⟨PA,pc,WA,wc,VA,vc,HA,hc,hB,-,-,-,-,⟨rH,-⟩⟩:=H;obtain⟨okc,l64,lw,lv,lb,sw,sv⟩:=ok;have c4:=hB.c4;have zg:=hB.lt;replace hB:=Hd hB;replace ST:=Hd ST;replace HBr:=Hd HBr;have HK:∀ o,stP cap 0 ws vs p=o->Ym cap ws vs p=(match o with
  | none=>(0,1)
  | some (room,out)=>(out+Zg (vs.drop p.length)-Zq room (ws.drop p.length) (vs.drop p.length),0)):=fun o ho=>by subst ho;rfl
 replace HK:=Hd HK;obtain⟨st,hst⟩:∃ st,Hid (stP cap 0 ws vs p=st):=⟨_,rfl⟩;rw[hst.out] at ST;have HK2:=HK.out _ hst.out;clear HK;rcases st with _ | ⟨room,out⟩
 ·simp only at HK2
  rw[HK2];replace hbs:=Hd hbs;replace lw:=Hd lw;replace lv:=Hd lv;replace lb:=Hd lb;clear HK2;go_enter Tryz.func176,Tryz.ntmps176;go_wp2_with (fail);refine ST.out.mono ?_;rintro e w1 ⟨rfl,x1⟩;unfold ZaP;go_wp2;go_ret2;exact⟨rfl,x1⟩
 ·simp only at HK2
  have hle:p.length<=l.length:=by
   by_cases h:ws.length<p.length
   ·have h2:=hst.out;rw[Wv h] at h2;cases h2
   ·omega
  have bR:=VE (fun x hx=>(sw x hx).1) okc.1 hst.out;have bO:=QK sv hst.out;have hx:bs[p.length]?=some (Zg (vs.drop p.length)):=by
   rw[hbs];exact ZbW (by omega) (by omega)
  obtain⟨hb,ho,x,rfl,zh,ch,ex,_⟩:=rH.at (k:=p.length) (by omega);obtain rfl:x=Zg (vs.drop p.length):=by
   have h:=ex.out;rw[hx] at h;exact(Option.some.inj h).symm
  have bS:=Zah sv p.length;rw[lv] at bS;have HB0:=HBr.out room hle ⟨bR.1,by omega⟩;have bN:=XH (room:=room) (ws:=ws.drop p.length) (vs:=vs.drop p.length) bR.1 (fun x hx=>(sw x (List.mem_of_mem_drop hx)).1) (fun x hx=>(sv x (List.mem_of_mem_drop hx)).1);have bL:=W8 (room:=room) (ws:=ws.drop p.length) (vs:=vs.drop p.length) bR.1 (fun x hx=>(sw x (List.mem_of_mem_drop hx)).1) (fun x hx=>(sv x (List.mem_of_mem_drop hx)).1);rw[HK2];generalize Zg (vs.drop p.length)=S at *;generalize Zq room (ws.drop p.length) (vs.drop p.length)=br at *;obtain⟨bR1,bR2⟩:=bR;obtain⟨bO1,bO2⟩:=bO;obtain⟨bS1,bS2⟩:=bS;have ad1:Hid (IntKind.i64.wrap (out+S)=out+S):=IntWalk.i64_in _ (by omega);have ad2:Hid (IntKind.i64.wrap (out+S-br)=out+S-br):=IntWalk.i64_in _ (by omega);have hpb:(p.length:Int)<(bs.length:Int):=by omega
  have hpb2:p.length<bs.length:=by omega
  replace hbs:=Hd hbs;replace lw:=Hd lw;replace lv:=Hd lv;replace lb:=Hd lb;replace HB0:=Hd HB0;clear HK2 hx ex HBr;go_enter Tryz.func176,Tryz.ntmps176;go_wp2_with (fail);refine ST.out.mono ?_;rintro e w1 ⟨rfl,x1⟩;unfold ZaP;have k4:=Zd x1 zg c4;have kh:=Zd x1 zh ch;have zg1:=Nat.lt_of_lt_of_le zg x1.size;have zh1:=Nat.lt_of_lt_of_le zh x1.size;go_wp2_with (fail);have ad1':=ad1.out;have ad2':=ad2.out;go_region_held3 (fun w'=>w'.cell? ⟨g,4,none⟩=some (.slice (some ⟨hb,ho,none⟩) bs.length hc)/\w'.cell? ⟨hb,ho+p.length,none⟩=some (.int .i64 S)) (go_keep)
   (first | (go_at_call 180;refine(HB0.out _ (Ext.tr (a:=w) x1 XI)).mono ?_;rintro e w2 ⟨rfl,x2⟩;have X2:=Ext.tr (a:=w1) XI x2;have s1:=Zd X2 zg1 k4;have s2:=Zd X2 zh1 kh))
  all_goals go_wp2
  all_goals go_ret2
  all_goals exact⟨rfl,Ext.tr x1 (by(repeat (first | assumption | exact Ext.rf _ | apply Ext.drew | apply Ext.drewN | apply Ext.alloc)))⟩
def Yn (rows:List (List Int)) : Nat->List Nat->Int
 | last,[]=>Za rows last 0
 | last,u::q=>Za rows last u+Yn rows u q
def UD (co:List (List Int)) : List Nat->Int
 | []=>0
 | u::q=>Yn co u q
theorem QT {rows:List (List Int)}(num:∀ a b,a<rows.length->b<rows.length->0<=Za rows a b/\Za rows a b<=2147483647) : ∀ (q:List Nat) (s:Nat),s<rows.length->(∀ x∈q,x<rows.length)->0<=Yn rows s q/\Yn rows s q<=2147483647*((q.length:Int)+1)
 | [],s,hs,_=>by have:=num s 0 hs (by omega);simp only[Yn,List.length_nil];omega
 | u::q,s,hs,h=>by
  have h1:=num s u hs (h u (by simp));have h2:=QT num q u (h u (by simp)) fun x hx=>h x (by simp[hx])
  simp only[Yn,List.length_cons];omega
theorem ZaQ {l:List Nat}{k y:Nat}(h:l[k]?=some y) : (Zf l)[k]?=some (y:Int):=by simp[Zf,h]
theorem WF (m i:Nat)(hm:m<18446744073709551616)(hi:i<64)(w:World) : Calls Tryz.prog 194 #[ZS m,.int .i64 i] w fun e w'=>e=.returned (ZS (YG m i))/\Ext w w':=by
 unfold ZS YG;have K:=Up m (2^i) hm (Nat.pow_lt_pow_right (by omega) hi);have sh:=QL i hi;generalize 2^i=b2 at *;generalize YT m b2=z at *;replace K:=Hd K;replace sh:=Hd sh;have B1':Blk ((w.alloc (.cells #[.int .u64 m,.int .u64 0] 161)).alloc (.cells #[.int .u64 0,.int .u64 0] 161)) w.heap.size 161 #[.int .u64 m,.int .u64 0]:=.alloc (.new rfl) _;have B2:Blk ((w.alloc (.cells #[.int .u64 m,.int .u64 0] 161)).alloc (.cells #[.int .u64 0,.int .u64 0] 161)) (w.heap.size+1) 161 #[.int .u64 0,.int .u64 0]:=.new (by simp);have B1:Blk (w.alloc (.cells #[.int .u64 m,.int .u64 0] 161)) w.heap.size 161 #[.int .u64 m,.int .u64 0]:=.new rfl;go_enter Tryz.func194,Tryz.ntmps194;go_wp2_with (fail);refine(YX _ _).mono ?_;rintro e w1 ⟨rfl,x1⟩;have e1:(decide (0<=(i:Int))&&decide ((i:Int)<128))=true:=by simp;omega
 rw[e1];have c0:w1.cell? ⟨w.heap.size,0,none⟩=some (.int .u64 m):=(B1'.ext x1).cell 0;have c1:w1.cell? ⟨w.heap.size,1,none⟩=some (.int .u64 0):=(B1'.ext x1).cell 1;have f0:=(B1'.ext x1).free 0;have r0:w1.cell? ⟨w.heap.size+1,0,none⟩=some (.int .u64 0):=(B2.ext x1).cell 0;have r1:w1.cell? ⟨w.heap.size+1,1,none⟩=some (.int .u64 0):=(B2.ext x1).cell 1;have g0:=(B2.ext x1).free 0;have g1:=(B2.ext x1).free 1;have X1:=Hd (Ext.tr (a:=w) XI x1);replace K:=K.out;replace sh:=sh.out;have wz:IntKind.i64.wrap 0=0:=by decide
 have q1:(i:Int) / 64=0:=by omega
 have q2:(i:Int).tmod 64=(i:Int):=by rw[Int.tmod_eq_emod_of_nonneg (by omega)];omega
 have bA:=B1'.ext x1;have bR:=B2.ext x1;clear x1 B1' B2 e1 c1 f0 r0 r1 g0 g1;have bA2:=Hd (bA.set 0 (.int .u64 z));have bR2:=Hd (bR.far (p:=⟨w.heap.size,0,none⟩) (by simp) (.int .u64 z));have X2:=Hd (X1.out.setNew (p:=⟨w.heap.size,0,none⟩) (Nat.le_refl _) (.int .u64 z));have fA:w1.frozen? ⟨w.heap.size,0,none⟩=false:=bA.free 0;go_upto_region 2 with(fail);refine wp_region_any (by kernel_rfl) ?_
 change wpAny _ _ _ _ _ _ _ (World.drew _)
 refine Zc (i:=0) (op:=Op.move (Operand.tmp 1)) (t:=3) (d:=some 7) (v:=_) rfl (by decide +kernel) (fun _ _ _ h=>h) (by intro _;unfold Ze;go_simp;try with_reducible rfl) ?_
 try simp only[lay]
 refine Zc (i:=1) (op:=Op.binOp BinOp.quo 3 (Operand.tmp 7) (Operand.const (Value.int IntKind.i64 64)) 3) (t:=3) (d:=some 8) (v:=_) rfl (by decide +kernel) (fun _ _ _ h=>h) (by intro _;unfold Ze;go_simp;try with_reducible rfl) ?_
 try simp only[lay]
 refine Zc (i:=2) (op:=Op.indexAddr 161 (Operand.tmp 2) (Operand.tmp 8)) (t:=0) (d:=some 9) (v:=_) rfl (by decide +kernel) (fun _ _ _ h=>h) (by intro _;unfold Ze;go_simp;try with_reducible rfl) ?_
 try simp only[lay]
 refine Zc (i:=4) (op:=Op.move (Operand.tmp 1)) (t:=3) (d:=some 11) (v:=_) rfl (by decide +kernel) (fun _ _ _ h=>h) (by intro _;unfold Ze;go_simp;try with_reducible rfl) ?_
 try simp only[lay]
 refine Zc (i:=5) (op:=Op.binOp BinOp.rem 3 (Operand.tmp 11) (Operand.const (Value.int IntKind.i64 64)) 3) (t:=3) (d:=some 12) (v:=_) rfl (by decide +kernel) (fun _ _ _ h=>h) (by intro _;unfold Ze;go_simp;try with_reducible rfl) ?_
 try simp only[lay]
 refine Zc (i:=6) (op:=Op.binOp BinOp.shl 141 (Operand.const (Value.int IntKind.u64 1)) (Operand.tmp 12) 3) (t:=141) (d:=some 13) (v:=_) rfl (by decide +kernel) (fun _ _ _ h=>h) (by intro _;unfold Ze;go_simp;try with_reducible rfl) ?_
 try simp only[lay]
 refine Zl 3 (by decide +kernel) (Zv (T:=141) (x:=Operand.tmp 9) (t:=141) (d:=some 10) rfl (.pointer (some ⟨w.heap.size,0,none⟩)) (by kernel_rfl) (.int .u64 m) (by go_simp) ?_)
 try simp only[lay]
 refine Zc (i:=7) (op:=Op.binOp BinOp.andNot 141 (Operand.tmp 10) (Operand.tmp 13) 141) (t:=141) (d:=some 14) (v:=_) rfl (by decide +kernel) (fun _ _ _ h=>h) (by intro _;unfold Ze;go_simp;try with_reducible rfl) ?_
 try simp only[lay]
 refine Zc (i:=8) (op:=Op.indexAddr 161 (Operand.tmp 2) (Operand.tmp 8)) (t:=0) (d:=some 15) (v:=_) rfl (by decide +kernel) (fun _ _ _ h=>h) (by intro _;unfold Ze;go_simp;try with_reducible rfl) ?_
 try simp only[lay]
 refine Zl 9 (by decide +kernel) (Xq rfl (.pointer (some ⟨w.heap.size,0,none⟩)) (.int .u64 z) (by kernel_rfl) (by kernel_rfl) (by go_simp;rfl) ?_);refine wpAny_done (by kernel_rfl) ?_ _;clear c0 fA bA bR X1 hm K sh;generalize w1.setCell ⟨w.heap.size,0,none⟩ (.int .u64 z)=w2 at *;clear w1;have c0:=bA2.out.c0;have c1:=bA2.out.c1;have r0:=bR2.out.c0;have r1:=bR2.out.c1;have g0:=bR2.out.free 0;have g1:=bR2.out.free 1;go_simp;go_wp2_with (fail);refine bodyPost_ret (v:=.agg #[.int .u64 z,.int .u64 0]) (by simp[results,Tryz.results194,go_sem, *]) rfl ⟨rfl,?_⟩;exact((X2.out.setNew (p:=⟨w.heap.size+1,0,none⟩) (by simp) _).setNew (p:=⟨w.heap.size+1,1,none⟩) (by simp) _).drew
attribute [local go_sem] Oper.semAt_some
theorem Yk {β:Type}{k B:Nat}(hk:k<B)(t:TypeId)(cs:β->Array Value) : OwnFrom B (fun s W=>Blk W k t (cs s)):=fun s W W' row hs hg hr =>
 (hg.block k hs.lt (fun e=>by obtain⟨h1,_⟩:=hr _ e.symm;omega)).trans hs
def Held (w0:World)(sb:Nat)(w:World) : Prop:=w0.heap.size<=w.heap.size/\∀ b,b<w0.heap.size->b≠sb->w.heap[b]?=w0.heap[b]?
theorem Held.blk {w0 w:World}{sb g:Nat}{t:TypeId}{cs:Array Value}(h:Held w0 sb w)(hb:Blk w0 g t cs)(hne:g≠sb) : Blk w g t cs:=(h.2 g hb.lt hne).trans hb
theorem Held.set {w0 w:World}{sb:Nat}(h:Held w0 sb w)(u:Value) : Held w0 sb (w.setCell ⟨sb,0,none⟩ u):=⟨by simp;exact h.1,fun b h1 h2=>(Below.heap_setCell w ⟨sb,0,none⟩ u b h2).trans (h.2 b h1 h2)⟩
theorem Held.ext {w0 w w':World}{sb:Nat}(h:Held w0 sb w)(x:Ext w w') : Held w0 sb w':=⟨Nat.le_trans h.1 x.size,fun b h1 h2=>(x.block b (Nat.lt_of_lt_of_le h1 h.1)).trans (h.2 b h1 h2)⟩
theorem WW {β:Type}{w0:World}{B sb:Nat}(hB:w0.heap.size<=B) : OwnFrom B (fun(_:β) W=>Held w0 sb W):=fun _ W W' row hs hg hr =>
 ⟨Nat.le_trans hs.1 hg.size,fun b h1 h2=>(hg.block b (Nat.lt_of_lt_of_le h1 hs.1) (fun e=>by have:=(hr b e.symm).1;omega)).trans (hs.2 b h1 h2)⟩
theorem KeepsFrom.of_ext {B:Nat}{W W':World}(x:Ext W W') : KeepsFrom B W W':=⟨x.size,fun k _ _ hk _=>(x.block k (Array.getElem?_eq_some_iff.1 hk).1).trans hk⟩
theorem ZcR {F:Fence}{nn:Nat}{w:World}{ops:Array Oper}{rest:List Oper}{o:Oper}{a:Act}{Q:Exit->Act->World->Prop}(hg:o.guard=none)(l c:Operand)(hop:o.op=Op.makeSlice 22 l c)
  (base:Nat) (n:Nat) (hl:a.eval l=.int .i64 (n:Int)) (hc:a.eval c=.int .i64 (n:Int)) (hn:n<=2^44) (hbase:base<=w.heap.size)
  (hK:∀ w',OwI w' base (some ⟨w.heap.size,0,none⟩) n (List.replicate n 0)->w.grownBy w' none->wpListIn F nn Tryz.prog ops Q rest (a.put o.dst (.slice (some ⟨w.heap.size,0,none⟩) n n)) w') :
  wpListIn F nn Tryz.prog ops Q (o::rest) a w:=by
 obtain⟨i0,hi,hz0,hz1,hz2⟩:=info_parts XE;refine wpListIn_plain hg fun K hK'=>?_
 obtain⟨w',hrun,r1,r2⟩:=run_make_full (P:=Tryz.prog) w base 22 3 i0 _ 1 Tryz.underlying22 hi hz0 hz1 .i64 .i64 n (by rw[hz2];omega) (by simp only[maxLen];omega) hbase;have e:(madeCells (Value.int .i64 0).cells (n*1)).toList=(List.replicate n (0:Int)).map (Value.int .i64):=by
  simp[madeCells,Value.cells,List.map_const',Nat.mod_one]
 rw[e] at r1;unfold Oper.wpIn;refine⟨?_,?_⟩
 ·simp[Oper.about,hop]
 ·rw[Oper.semAt_plain F _ _ (by rw[hop];intro c hc';cases hc')]
  simp[execOp,hop,hl,hc,hrun,Result.andThen];exact hK' _ _ (hK w' (by simpa [OwI] using r1) r2)
end
section
section
variable {P:Program} {ops:Array Oper} {i:Nat} {t:TypeId} {d:Option Tmp} {a:Act} {w w':World} {K:Act->World->Prop} {Q:Exit->Act->World->Prop}
theorem Zj9 {T:TypeId}{f:Nat}{x:Operand}(hi:XU ops i=some (none,.fieldAddr T x f,t,d))(p:Value)(hx:a.eval x=p)(v:Value)(hrun:(Instr.fieldAt T p f).run P w=.ok v w)(hK:K (a.put d v) w) : wpOp P ops Q i K a w :=
 Z5 hi v (by simp[Ze,execOp,hx,hrun]) hK
end
def ZgL (i:InstP)(w:World)(e:Ending)(w':World) : Prop:=∃ A3 c3 B3 d3 C cc us,e=.returned (.agg #[.int .i64 i.kind,.int .i64 i.n,.int .i64 i.cap,.slice A3 i.weight.length c3,.slice B3 i.value.length d3,.slice C i.cost.length cc])/\OwV w' w.heap.size 22 1 C i.cost.length cc us/\RowsO w' w.heap.size us i.cost/\Ext w w'
theorem ZbZ (i:InstP)(vs:List Value)(w:World)(H:RInst w vs i)(lw:i.weight.length<=1000000000)(lv:i.value.length<=1000000000)(lc:i.cost.length<=1000000)(lr:∀ r∈i.cost,r.length<=1000000000) :
  Calls Tryz.prog 48 #[.agg (List.toArray vs)] w (ZgL i w):=by
 obtain⟨A,a,B,b,C,c,rfl,⟨rA,iA,lA,mA⟩,⟨rB,iB,lB,mB⟩,⟨rC,lC,mC⟩⟩:=H;obtain⟨kind,nn,cap,xw,xv,co⟩:=i;simp only at *;obtain⟨i0,hi,hz0,hz1,hz2⟩:=info_parts QO;replace hi:=Hd hi;replace hz0:=Hd hz0;replace hz1:=Hd hz1;replace hz2:=Hd hz2;replace lr:=Hd lr;have X:Ext w ((w.alloc (.cells #[.int .i64 kind,.int .i64 nn,.int .i64 cap,.slice A xw.length a,.slice B xv.length b,.slice C co.length c] 25)).alloc (.cells #[.int .i64 0,.int .i64 0,.int .i64 0,.slice none 0 0,.slice none 0 0,.slice none 0 0] 25)):=((Ext.rf _).alloc _).alloc _;have B1:Blk ((w.alloc (.cells #[.int .i64 kind,.int .i64 nn,.int .i64 cap,.slice A xw.length a,.slice B xv.length b,.slice C co.length c] 25)).alloc (.cells #[.int .i64 0,.int .i64 0,.int .i64 0,.slice none 0 0,.slice none 0 0,.slice none 0 0] 25)) w.heap.size 25 #[.int .i64 kind,.int .i64 nn,.int .i64 cap,.slice A xw.length a,.slice B xv.length b,.slice C co.length c]:=.alloc (.new rfl) _;have B2:Blk ((w.alloc (.cells #[.int .i64 kind,.int .i64 nn,.int .i64 cap,.slice A xw.length a,.slice B xv.length b,.slice C co.length c] 25)).alloc (.cells #[.int .i64 0,.int .i64 0,.int .i64 0,.slice none 0 0,.slice none 0 0,.slice none 0 0] 25)) (w.heap.size+1) 25 #[.int .i64 0,.int .i64 0,.int .i64 0,.slice none 0 0,.slice none 0 0,.slice none 0 0]:=.new (by simp);replace X:=Hd X;replace B1:=Hd B1;replace B2:=Hd B2;replace rA:=Hd rA;replace rB:=Hd rB;replace rC:=Hd rC;replace iA:=Hd iA;replace iB:=Hd iB;replace mA:=Hd mA;replace mB:=Hd mB;replace mC:=Hd mC;go_enter Tryz.func48,Tryz.ntmps48;go_wp2_with (fail);generalize (w.alloc (.cells #[.int .i64 kind,.int .i64 nn,.int .i64 cap,.slice A xw.length a,.slice B xv.length b,.slice C co.length c] 25)).alloc (.cells #[.int .i64 0,.int .i64 0,.int .i64 0,.slice none 0 0,.slice none 0 0,.slice none 0 0] 25)=wr at *;have z1:=B1.out.lt;have zw:=X.out.size;refine wp_region_any (by kernel_rfl) ?_
 change wpAny _ _ _ _ _ _ _ (World.drew _)
 refine Zc (i:=0) (op:=Op.fieldAddr 25 (Operand.tmp 1) 3) (t:=0) (d:=some 6) (v:=_) rfl (by decide +kernel) (fun _ _ _ h=>h) (by intro _;unfold Ze;go_simp;try with_reducible rfl) ?_
 try simp only[lay]
 refine Zc (i:=3) (op:=Op.fieldAddr 25 (Operand.tmp 1) 4) (t:=0) (d:=some 9) (v:=_) rfl (by decide +kernel) (fun _ _ _ h=>h) (by intro _;unfold Ze;go_simp;try with_reducible rfl) ?_
 try simp only[lay]
 refine ZM (n:=3) [(1,some 7),(2,some 8),(4,some 10),(5,some 11),(6,some 12)] (Ext wr)
  (VF (fun | 1=>some (.slice A xw.length a) | 4=>some (.slice B xv.length b) | 6=>some (.pointer (some ⟨w.heap.size,3,none⟩)) | _=>none)
   (fun j v W=>(j=2->∃ A' c',v=.slice A' xw.length c')/\(j=5->∃ A' c',v=.slice A' xv.length c')))
  Ext #[true,true,true,true,true,true,true,false,false,false] (by decide +kernel) (VF.stab ?_) ?_ ?_ ((Ext.rf _).drew)
 ·intro j v W W' _ h _
  exact h
 ·intro pq hpm u w2 hRW hD K hK
  have b2:=B1.out.ext hRW;have r3:=b2.c3;have r4:=b2.c4;have xe:=X.out.tr hRW;simp only[List.mem_cons,List.not_mem_nil,or_false] at hpm;rcases hpm with rfl | rfl | rfl | rfl | rfl
  ·exact Zv (T:=22) rfl (.pointer (some ⟨w.heap.size,3,none⟩)) (by kernel_rfl) (.slice A xw.length a) (by go_simp) (hK _ _ (VF.mk rfl) hRW (Ext.rf _))
  ·refine YC rfl #[.slice A xw.length a] (by go_simp) (Eq.trans (b:=#[u 1]) (by kernel_rfl) (by rw[(hD 1 (Zp (by kernel_rfl))).k rfl])) _ (Vz A a xw w2 (rA.out.ext xe) (by omega)) ?_
   rintro e w3 ⟨A3,c3,rfl,o3,x3⟩;exact⟨_,rfl,hK _ _ (VF.mg rfl ⟨fun _=>⟨A3,c3,rfl⟩,(fun h=>by cases h)⟩) (hRW.tr x3) x3⟩
  ·exact Zv (T:=22) rfl (.pointer (some ⟨w.heap.size,4,none⟩)) (by kernel_rfl) (.slice B xv.length b) (by go_simp) (hK _ _ (VF.mk rfl) hRW (Ext.rf _))
  ·refine YC rfl #[.slice B xv.length b] (by go_simp) (Eq.trans (b:=#[u 4]) (by kernel_rfl) (by rw[(hD 4 (Zp (by kernel_rfl))).k rfl])) _ (Vz B b xv w2 (rB.out.ext xe) (by omega)) ?_
   rintro e w3 ⟨A3,c3,rfl,o3,x3⟩;exact⟨_,rfl,hK _ _ (VF.mg rfl ⟨(fun h=>by cases h),fun _=>⟨A3,c3,rfl⟩⟩) (hRW.tr x3) x3⟩
  ·exact Zj9 (T:=25) (f:=3) rfl (.pointer (some ⟨w.heap.size,0,none⟩)) (by kernel_rfl) (.pointer (some ⟨w.heap.size,3,none⟩)) (by go_simp) (hK _ _ (VF.mk rfl) hRW (Ext.rf _))
 ·intro u w3 hRW hV
  have h1:=(hV (1,some 7) (by simp)).k rfl;have h4:=(hV (4,some 10) (by simp)).k rfl;obtain⟨A3,c3,h2⟩:=((hV (2,some 8) (by simp)).g rfl).1 rfl;obtain⟨B3,d3,h5⟩:=((hV (5,some 11) (by simp)).g rfl).2 rfl;have h6:=(hV (6,some 12) (by simp)).k rfl;simp only[Zn,h1,h2,h4,h5,h6];have b1:=B1.out.ext hRW;have b2:=B2.out.ext hRW;have g3:=b1.c3;have k3:=b1.free 3;have b1a:=b1.set 3 (.slice A3 xw.length c3);have g4:=b1a.c4;have k4:=b1a.free 4;have b1b:=Hd (b1a.set 4 (.slice B3 xv.length d3));have b2b:=Hd ((b2.far (p:=⟨w.heap.size,3,none⟩) (by simp) (.slice A3 xw.length c3)).far (p:=⟨w.heap.size,4,none⟩) (by simp) (.slice B3 xv.length d3));have Xb:=Hd (((X.out.tr hRW).setNew (p:=⟨w.heap.size,3,none⟩) (Nat.le_refl _) (.slice A3 xw.length c3)).setNew (p:=⟨w.heap.size,4,none⟩) (Nat.le_refl _) (.slice B3 xv.length d3));clear h1 h2 h4 h5 h6 hV
  try simp only[lay]
  refine Zl 7 (by decide +kernel) (Xq rfl (.pointer (some ⟨w.heap.size,3,none⟩)) (.slice A3 xw.length c3) (by kernel_rfl) (by kernel_rfl) (by go_simp;rfl) ?_);refine Zc (i:=8) (op:=Op.fieldAddr 25 (Operand.tmp 1) 4) (t:=0) (d:=some 13) (v:=_) rfl (by decide +kernel) (fun _ _ _ h=>h) (by intro _;unfold Ze;go_simp;try with_reducible rfl) ?_
  try simp only[lay]
  refine Zl 9 (by decide +kernel) (Xq rfl (.pointer (some ⟨w.heap.size,4,none⟩)) (.slice B3 xv.length d3) (by kernel_rfl) (by kernel_rfl) (by go_simp;rfl) ?_);refine wpAny_done (by kernel_rfl) ?_ _;clear g3 g4 k3 k4 b1 b2 b1a hRW;generalize (w3.setCell ⟨w.heap.size,3,none⟩ (.slice A3 xw.length c3)).setCell ⟨w.heap.size,4,none⟩ (.slice B3 xv.length d3)=w4 at *;clear w3;have q5:=b1b.out.c5;go_simp;go_wp2_with (fail);have lct:=Hd lc;have START:Hid (OwV w4 w.heap.size 22 1 none 0 0 []/\RowsO w4 w.heap.size [] (co.take 0)/\Ext w w4/\Blk w4 w.heap.size 25 #[.int .i64 kind,.int .i64 nn,.int .i64 cap,.slice A3 xw.length c3,.slice B3 xv.length d3,.slice C co.length c]/\Blk w4 (w.heap.size+1) 25 #[.int .i64 0,.int .i64 0,.int .i64 0,.slice none 0 0,.slice none 0 0,.slice none 0 0]):=⟨OwV.nil _ _ _ _,by simpa using RowsO.nil w4 w.heap.size,Xb.out,b1b.out,b2b.out⟩;clear b1b b2b Xb q5;go_loopw [3,17] (fun v3 v17 wr=>∃ (k:Nat) (C':Option Addr) (cc:Nat) (us:List Value),v17=.int .i64 k/\v3=.slice C' k cc/\k<=co.length/\Hid (OwV wr w.heap.size 22 1 C' k cc us/\RowsO wr w.heap.size us (co.take k)/\Ext w wr/\Blk wr w.heap.size 25 #[.int .i64 kind,.int .i64 nn,.int .i64 cap,.slice A3 xw.length c3,.slice B3 xv.length d3,.slice C co.length c]/\Blk wr (w.heap.size+1) 25 #[.int .i64 0,.int .i64 0,.int .i64 0,.slice none 0 0,.slice none 0 0,.slice none 0 0])) (fun _ v17 _=>co.length-(intOf v17).toNat)
  case atStart=>exact⟨0,none,0,[],rfl,rfl,by omega,START⟩
  case round =>
   obtain⟨wo,rfl⟩:=Wq wr;clear START;obtain⟨k,C',cc,us,rfl,rfl,hk,HH⟩:=hrel;obtain⟨oV,oR,Y,b1,b2⟩:=HH.out
   by_cases hlt:k<co.length
   ·obtain⟨b',off,D,row,d,rfl,zd,hcd,her,_,rrow,_,ld,md⟩:=(rC.out.ext Y (fun _ _ h=>h.ext Y)).ints hlt
    have lrow:=lr.out row (List.mem_of_getElem? her.out);have etk:Hid (co.take (k+1)=co.take k++[row]):=Hd (by rw[List.take_add_one,her.out];rfl);have q1:(k:Int)<(co.length:Int):=by omega
    replace oV:=Hd oV;replace oR:=Hd oR;replace Y:=Hd Y;replace b1:=Hd b1;replace b2:=Hd b2;replace rrow:=Hd rrow;clear HH her;go_wp2_with (fail);refine(Vz D d row _ rrow.out (by omega)).mono ?_;rintro e w5 ⟨D2,e2,rfl,o5,x5⟩;have oV5:=oV.out.ext x5;have zw5:=Y.out.size;go_wp2_with (at_builtin;refine ZU _ (e:=22) Tryz.underlying23 hi.out hz0.out hz1.out hz2.out (by simp[Value.cells]) (by omega) rfl _ _ rfl w.heap.size C' k cc us (some ⟨w5.heap.size,0,none⟩) 1 1 [.slice D2 row.length e2] rfl rfl (oV5.ext ((Ext.rf _).alloc _)) (RdV.blk (.new (by simp))).rdC (by simp) (by simp[Value.oneCell']) (by simp only[maxLen];omega) (by omega) (by have:=x5.size;simp;omega) ?_;rintro C6 c6 w6 o6 g6 _);have M6:=(oV5.ext ((Ext.rf w5).alloc (.cells #[.slice D2 row.length e2] 22))).grownT g6;have X6:Ext wo (w5.alloc (.cells #[.slice D2 row.length e2] 22)):=x5.tr ((Ext.rf _).alloc _);have NEW:Hid (OwV w6 w.heap.size 22 1 C6 (k+1) c6 (us++[.slice D2 row.length e2])/\RowsO w6 w.heap.size (us++[.slice D2 row.length e2]) (co.take (k+1))/\Ext w w6/\Blk w6 w.heap.size 25 #[.int .i64 kind,.int .i64 nn,.int .i64 cap,.slice A3 xw.length c3,.slice B3 xv.length d3,.slice (some ⟨b',off,none⟩) co.length c]/\Blk w6 (w.heap.size+1) 25 #[.int .i64 0,.int .i64 0,.int .i64 0,.slice none 0 0,.slice none 0 0,.slice none 0 0]):=by
     refine⟨o6,?_,(Y.out.tr X6).modT M6 (Nat.le_refl _),(b1.out.ext X6).modT M6 (by decide),(b2.out.ext X6).modT M6 (by decide)⟩;rw[etk.out];exact((oR.out.ext X6).modT M6 (by decide)).snoc (((o5.more zw5).ext ((Ext.rf _).alloc _)).modT M6 (by decide))
    clear oV5 o5 x5 o6 g6 M6 X6 hcd;go_wp2_with (fail);go_roundw
    case rel=>exact⟨k+1,C6,c6,_,by go_num,rfl,by omega,NEW⟩
    case measure=>simp[intOf];omega
   ·obtain rfl:k=co.length:=by omega
    rw[List.take_length] at oR;have c0:=b1.c0;have c1:=b1.c1;have c2:=b1.c2;have c3':=b1.c3;have c4:=b1.c4;have c5:=b1.c5;have k5:=b1.free 5;have r0:=b2.c0;have r1:=b2.c1;have r2:=b2.c2;have r3:=b2.c3;have r4:=b2.c4;have r5:=b2.c5;have f0:=b2.free 0;have f1:=b2.free 1;have f2:=b2.free 2;have f3:=b2.free 3;have f4:=b2.free 4;have f5:=b2.free 5;have m1:ModT w.heap.size [25] wo (wo.setCell ⟨w.heap.size,5,none⟩ (.slice C' co.length cc)):=ModT.set wo b1 (by simp) (Nat.le_refl _) 5 _;have b2':=b2.far (p:=⟨w.heap.size,5,none⟩) (by simp) (.slice C' co.length cc);have m2:=(Zi8 b2' (base:=w.heap.size) (by omega) (.int .i64 kind) (.int .i64 nn) (.int .i64 cap) (.slice A3 xw.length c3) (.slice B3 xv.length d3) (.slice C' co.length cc)).2;have F:=Hd (And.intro ((oV.modT m1 (by decide)).modT m2 (by decide)) (And.intro ((oR.modT m1 (by decide)).modT m2 (by decide)) ((Y.modT m1 (Nat.le_refl _)).modT m2 (Nat.le_refl _))));clear HH oV oR Y b1 b2 m1 m2 b2';go_wp2_with (fail);exact bodyPost_ret (v:=.agg #[.int .i64 kind,.int .i64 nn,.int .i64 cap,.slice A3 xw.length c3,.slice B3 xv.length d3,.slice C' co.length cc]) (by simp[results,Tryz.results48,go_sem, *]) rfl ⟨A3,c3,B3,d3,C',cc,us,rfl,F.out.1,F.out.2.1,F.out.2.2⟩
end
section
def Wh (rows:List (List Int)) : Bool:=decide (∀ x,x<rows.length->∀ y,y<x->Za rows x y=Za rows y x)
theorem Zb0 {rows:List (List Int)}(h:∀ x,x<rows.length->∀ y,y<x->Za rows x y=Za rows y x) : Wh rows=true:=decide_eq_true h
theorem ZaR {rows:List (List Int)}{x y:Nat}(hx:x<rows.length)(hy:y<x)(h:Za rows x y≠Za rows y x) : Wh rows=false:=decide_eq_false fun k=>h (k x hx y hy)
theorem ZhS {rows:List (List Int)}(h:Wh rows=true)(a b:Nat)(ha:a<rows.length)(hb:b<rows.length) : Za rows a b=Za rows b a:=by
 have k:=of_decide_eq_true h;rcases Nat.lt_trichotomy a b with hc | hc | hc
 ·exact(k b hb a hc).symm
 ·subst hc;rfl
 ·exact k a ha b hc
theorem ZeW (i:InstP)(us:List Value)(w:World)(H:RInst w us i)(hc:Zk i=0)(hk:i.kind=3) :
  Calls Tryz.prog 49 #[.agg (List.toArray us)] w fun e w'=>e=.returned (.bool (Wh i.cost))/\Ext w w':=by
 have ok:=Zt hc (by omega);have lw:i.weight.length<=1000000000:=by rw[ok.w];simp
 have lv:i.value.length<=1000000000:=by rw[ok.v];simp
 have CH:=fun(W:World) (x:Ext w W)=>Yy i us W (H.ext x) lw lv
 rw[hc] at CH;have rok:=ZP ok;have n24:=rok.n2;clear ok lw lv hc;obtain⟨kind,nn,cap,xw,xv,co⟩:=i;obtain⟨A,a,B,b,D,d,rfl,-,-,⟨hC,-,-⟩⟩:=H;simp only at *;subst hk;have B1:Hid (Blk (w.alloc (.cells #[.int .i64 3,.int .i64 nn,.int .i64 cap,.slice A xw.length a,.slice B xv.length b,.slice D co.length d] 25)) w.heap.size 25 #[.int .i64 3,.int .i64 nn,.int .i64 cap,.slice A xw.length a,.slice B xv.length b,.slice D co.length d]):=.new rfl;replace CH:=Hd CH;replace hC:=Hd hC;replace rok:=Hd rok;obtain⟨mm,hmm⟩:∃ mm,Hid (Wh co=mm):=⟨_,rfl⟩;rw[hmm.out];go_enter Tryz.func49,Tryz.ntmps49;go_wp2_with (fail);refine(CH.out _ XI).mono ?_;rintro e w1 ⟨rfl,x1⟩;have X1:=Hd (Ext.tr (a:=w) XI x1);have BB:=Hd (B1.out.ext x1);have d5:=BB.out.c5;clear x1;go_wp2_with (fail);go_loopw [17] (fun v wr=>∃ k:Nat,v=.int .i64 k/\k<=co.length/\Hid (∀ x,x<k->∀ y,y<x->Za co x y=Za co y x)/\Hid (Ext w1 wr)) (fun v _=>co.length-(intOf v).toNat)
 case atStart=>exact⟨0,rfl,by omega,fun x hx=>absurd hx (Nat.not_lt_zero _),Ext.rf _⟩
 case round =>
  obtain⟨wo,rfl⟩:=Wq wr;obtain⟨k,rfl,hk,HS,Y⟩:=hrel
  by_cases hlt:k<co.length
  ·have XW:Hid (Ext w wo):=X1.out.tr Y.out
   obtain⟨cb,cof,D',row,d',rfl,zb,cD,er,_,rD,iD,ld,md⟩:=(hC.out.ext XW.out fun _ _ h=>h.ext XW.out).ints hlt;have lrow:=rok.out.row row (List.mem_of_getElem? er.out);have q1:(k:Int)<(co.length:Int):=by omega
   replace er:=Hd er.out;replace rD:=Hd rD;go_wp2_with (fail);go_loopw [23] (fun v wr=>∃ j:Nat,v=.int .i64 j/\j<=k/\Hid (∀ y,y<j->Za co k y=Za co y k)/\Hid (Ext wo wr)) (fun v _=>k-(intOf v).toNat)
   case atStart=>exact⟨0,rfl,by omega,fun y hy=>absurd hy (Nat.not_lt_zero _),Ext.rf _⟩
   case round =>
    obtain⟨wi,rfl⟩:=Wq wr;obtain⟨j,rfl,hj,HJ,Z⟩:=hrel;have XZ:=Hd (Ext.tr (a:=w) (XW.out) Z.out)
    by_cases hlj:j<k
    ·obtain⟨cb',cof',D2,row2,d2,hq,zb2,cD2,er2,_,rD2,iD2,ld2,md2⟩:=(hC.out.ext XZ.out fun _ _ h=>h.ext XZ.out).ints (r:=j) (by omega)
     obtain⟨rfl,rfl⟩:cb=cb'/\cof=cof':=by simpa using hq
     have lrow2:=rok.out.row row2 (List.mem_of_getElem? er2.out);obtain⟨rb,ro,x,rfl,zx,cx,ex,_⟩:=(rD.out.ext Z.out).at (k:=j) (by omega);obtain⟨rb2,ro2,y,rfl,zy,cy,ey,_⟩:=rD2.at (k:=k) (by omega);have d5':wi.cell? ⟨w.heap.size,5,none⟩=some (.slice (some ⟨cb,cof,none⟩) co.length d):=((BB.out.ext Y.out).ext Z.out).cell 5;have exy:Hid (Za co k j=x/\Za co j k=y):=by
      refine⟨?_,?_⟩
      ·unfold Za;rw[getD_some er.out,getD_some ex.out]
      ·unfold Za;rw[getD_some er2.out,getD_some ey.out]
     have q2:(j:Int)<(co.length:Int):=by omega
     have q3:(j:Int)<(row.length:Int):=by omega
     have q4:(k:Int)<(row2.length:Int):=by omega
     replace ex:=Hd ex.out;replace ey:=Hd ey.out;replace er2:=Hd er2.out;replace rD2:=Hd rD2;clear hq
     by_cases hxy:x=y
     ·subst hxy
      have t0:(x != x)=false:=by simp
      have NX:Hid (∀ yy,yy<j+1->Za co k yy=Za co yy k):=fun yy hy=>by
       by_cases e:yy=j
       ·subst e;rw[exy.out.1,exy.out.2]
       ·exact HJ.out yy (by omega)
      go_wp2_with (fail);go_quiet (fail);go_wp2_with (fail);go_roundw
      case rel=>exact⟨j+1,by go_num,by omega,NX,Z.out.drewN _⟩
      case measure=>simp[intOf];omega
     ·have t0:(x != y)=true:=by simpa using hxy
      have HM:Hid (mm=false):=Hd (by
       rw[<-hmm.out];exact ZaR hlt hlj (by rw[exy.out.1,exy.out.2];exact hxy))
      go_wp2_with (fail);go_quiet (fail);go_wp2_with (fail);go_ret;rw[HM.out];exact⟨rfl,XZ.out.drewN _⟩
    ·obtain rfl:j=k:=by omega
     have q2:¬(j:Int)<(j:Int):=by omega
     have HS3:Hid (∀ x,x<j+1->∀ y,y<x->Za co x y=Za co y x):=fun x hx=>by
      by_cases e:x=j
      ·subst e;exact HJ.out
      ·exact HS.out x (by omega)
     have YZ:=Hd (Y.out.tr Z.out);go_wp2_with (fail);go_roundw
     case rel=>exact⟨j+1,by go_num,by omega,HS3,YZ.out⟩
     case measure=>simp[intOf];omega
  ·obtain rfl:k=co.length:=by omega
   have HM:Hid (mm=true):=Hd (by
    rw[<-hmm.out];exact Zb0 HS.out)
   have q2:¬(co.length:Int)<(co.length:Int):=by omega
   have XW:=Hd (X1.out.tr Y.out);go_wp2_with (fail);go_ret;rw[HM.out];exact⟨rfl,XW.out⟩
def KernT (w:World)(base g:Nat)(rows:List (List Int))(mi:Bool) : Prop:=∃ C c us,Blk w g 104 #[.slice C rows.length c,.bool mi]/\base<=g/\OwV w base 22 1 C rows.length c us/\RowsO w base us rows
theorem KernT.ext {w w':World}{base g:Nat}{rows:List (List Int)}{mi:Bool}(h:KernT w base g rows mi)(x:Ext w w') : KernT w' base g rows mi:=by
 obtain⟨C,c,us,h1,h2,h3,h4⟩:=h;exact⟨C,c,us,h1.ext x,h2,h3.ext x,h4.ext x⟩
def ZaS (i:InstP)(w:World)(e:Ending)(w':World) : Prop:=∃ g,e=.returned (.tuple #[.pointer (some ⟨g,0,none⟩),.int .i64 0])/\KernT w' w.heap.size g i.cost (Wh i.cost)/\Ext w w'
theorem ZhT (i:InstP)(vs:List Value)(w:World)(H:RInst w vs i)(hc:Zk i=0)(hk:i.kind=3) :
  Calls Tryz.prog 22 #[.agg (List.toArray vs)] w (ZaS i w):=by
 have ok:=Zt hc (by omega);have lw:i.weight.length<=1000000000:=by rw[ok.w];simp
 have lv:i.value.length<=1000000000:=by rw[ok.v];simp
 have CH:=fun(W:World) (x:Ext w W)=>Yy i vs W (H.ext x) lw lv
 rw[hc] at CH;have CP:=fun(W:World) (x:Ext w W)=>ZbZ i vs W (H.ext x) lw lv (by have:=ok.len;have:=ok.n2;omega) (fun r hr=>by have:=ok.row r hr;have:=ok.n2;omega)
 have MI:=fun(W:World) (x:Ext w W)=>ZeW i vs W (H.ext x) hc hk
 clear ok lw lv hc;obtain⟨mm,hmm⟩:∃ mm,Hid (Wh i.cost=mm):=⟨_,rfl⟩;unfold ZaS;rw[hmm.out] at MI ⊢;obtain⟨kind,nn,cap,xw,xv,co⟩:=i;obtain⟨A,a,B,b,C,c,rfl,-,-,-⟩:=H;simp only at *;subst hk;have B1:Hid (Blk (w.alloc (.cells #[.int .i64 3,.int .i64 nn,.int .i64 cap,.slice A xw.length a,.slice B xv.length b,.slice C co.length c] 25)) w.heap.size 25 #[.int .i64 3,.int .i64 nn,.int .i64 cap,.slice A xw.length a,.slice B xv.length b,.slice C co.length c]):=.new rfl;replace CH:=Hd CH;replace CP:=Hd CP;replace MI:=Hd MI;go_enter Tryz.func22,Tryz.ntmps22;go_wp2_with (fail);refine(CH.out _ XI).mono ?_;rintro e w1 ⟨rfl,x1⟩;have X1:=Hd (Ext.tr (a:=w) XI x1);have BB:=Hd (B1.out.ext x1);clear x1;have c0:=BB.out.c0;have c1:=BB.out.c1;have c2:=BB.out.c2;have c3:=BB.out.c3;have c4:=BB.out.c4;have c5:=BB.out.c5;have zb:=BB.out.lt;have fld:∀ W (A3:Option Addr) (c3:Nat) (B3:Option Addr) (d3:Nat) (C2:Option Addr) (e2:Nat),(Instr.field 25 (.agg #[.int .i64 3,.int .i64 nn,.int .i64 cap,.slice A3 xw.length c3,.slice B3 xv.length d3,.slice C2 co.length e2]) 5).run Tryz.prog W=.ok (.slice C2 co.length e2) W:=fun _ _ _ _ _ _ _=>by kernel_rfl
 go_wp2_with (fail);go_region_held3 (fun w'=>w'.cell? ⟨w.heap.size,0,none⟩=some (.int .i64 3)/\w'.cell? ⟨w.heap.size,1,none⟩=some (.int .i64 nn)/\w'.cell? ⟨w.heap.size,2,none⟩=some (.int .i64 cap)/\w'.cell? ⟨w.heap.size,3,none⟩=some (.slice A xw.length a)/\w'.cell? ⟨w.heap.size,4,none⟩=some (.slice B xv.length b)/\w'.cell? ⟨w.heap.size,5,none⟩=some (.slice C co.length c)) (go_keep)
  (first
   | (go_at_call 48;refine(CP.out _ (X1.out.tr XI)).mono ?_;rintro e w2 ⟨A3,c3',B3,d3,C2,e2,us,rfl,oV,oR,x2⟩;have y2:=Ext.tr (a:=w1) XI x2;have z2:=y2.size;have oV2:=Hd oV;have oR2:=Hd oR;clear oV oR;have s0:=Zd y2 zb c0;have s1:=Zd y2 zb c1;have s2:=Zd y2 zb c2;have s3:=Zd y2 zb c3;have s4:=Zd y2 zb c4;have s5:=Zd y2 zb c5)
   | (go_at_call 49;refine(MI.out _ (X1.out.tr (by(repeat (first | assumption | exact Ext.rf _ | apply Ext.drew | apply Ext.drewN | apply Ext.alloc))))).mono ?_;rintro e w3 ⟨rfl,x3⟩;have y3:=Ext.tr (a:=w1) (by(repeat (first | assumption | exact Ext.rf _ | apply Ext.drew | apply Ext.drewN | apply Ext.alloc))) x3;have s0:=Zd y3 zb c0;have s1:=Zd y3 zb c1;have s2:=Zd y3 zb c2;have s3:=Zd y3 zb c3;have s4:=Zd y3 zb c4;have s5:=Zd y3 zb c5))
 all_goals go_wp2
 all_goals go_ret2
 all_goals refine⟨_,rfl,⟨_,_,us,.new rfl,?_,?_,?_⟩,?_⟩
 ·exact(X1.out.tr y3).size
 ·exact OwV.ext (n:=co.length) (OwV.more (n:=co.length) oV2.out X1.out.size) (x3.alloc _)
 ·exact(oR2.out.more X1.out.size).ext (x3.alloc _)
 ·exact(X1.out.tr y3).alloc _
theorem ZaT {base g:Nat}{rows:List (List Int)}{mi:Bool}(w:World)(H:KernT w base g rows mi)(hn:1<=rows.length)(hl:rows.length<=24) : Calls Tryz.prog 208 #[.pointer (some ⟨g,0,none⟩)] w fun e w'=>e=.returned (.int .i64 (rows.length-1))/\Ext w w':=by
 obtain⟨C,c,us,h1,-,-,-⟩:=H;have c0:=h1.c0;have hw:IntKind.i64.wrap ((rows.length:Int)-1)=(rows.length:Int)-1:=IntWalk.i64_in _ (by omega);go_enter Tryz.func208,Tryz.ntmps208;go_wp2;go_ret;exact⟨rfl,Ext.rf _⟩
def KernA (w:World)(base g:Nat)(rows:List (List Int)) : Prop:=∃ C c us,Blk w g 102 #[.slice C rows.length c]/\base<=g/\OwV w base 22 1 C rows.length c us/\RowsO w base us rows
theorem KernA.ext {w w':World}{base g:Nat}{rows:List (List Int)}(h:KernA w base g rows)(x:Ext w w') : KernA w' base g rows:=by
 obtain⟨C,c,us,h1,h2,h3,h4⟩:=h;exact⟨C,c,us,h1.ext x,h2,h3.ext x,h4.ext x⟩
def ZdG (i:InstP)(w:World)(e:Ending)(w':World) : Prop:=∃ g,e=.returned (.tuple #[.pointer (some ⟨g,0,none⟩),.int .i64 0])/\KernA w' w.heap.size g i.cost/\Ext w w'
theorem ZhU (i:InstP)(vs:List Value)(w:World)(H:RInst w vs i)(hc:Zk i=0)(hk:i.kind=2) :
  Calls Tryz.prog 21 #[.agg (List.toArray vs)] w (ZdG i w):=by
 have ok:=Zt hc (by omega);have lw:i.weight.length<=1000000000:=by rw[ok.w];simp
 have lv:i.value.length<=1000000000:=by rw[ok.v];simp
 have CH:=fun(W:World) (x:Ext w W)=>Yy i vs W (H.ext x) lw lv
 rw[hc] at CH;have CP:=fun(W:World) (x:Ext w W)=>ZbZ i vs W (H.ext x) lw lv (by have:=ok.len;have:=ok.n2;omega) (fun r hr=>by have:=ok.row r hr;have:=ok.n2;omega)
 clear ok lw lv hc;obtain⟨kind,nn,cap,xw,xv,co⟩:=i;obtain⟨A,a,B,b,C,c,rfl,-,-,-⟩:=H;simp only at *;subst hk;have B1:Hid (Blk (w.alloc (.cells #[.int .i64 2,.int .i64 nn,.int .i64 cap,.slice A xw.length a,.slice B xv.length b,.slice C co.length c] 25)) w.heap.size 25 #[.int .i64 2,.int .i64 nn,.int .i64 cap,.slice A xw.length a,.slice B xv.length b,.slice C co.length c]):=.new rfl;replace CH:=Hd CH;replace CP:=Hd CP;go_enter Tryz.func21,Tryz.ntmps21;go_wp2_with (fail);refine(CH.out _ XI).mono ?_;rintro e w1 ⟨rfl,x1⟩;have X1:=Hd (Ext.tr (a:=w) XI x1);have BB:=Hd (B1.out.ext x1);clear x1;have c0:=BB.out.c0;have c1:=BB.out.c1;have c2:=BB.out.c2;have c3:=BB.out.c3;have c4:=BB.out.c4;have c5:=BB.out.c5;go_wp2_with (fail);refine(CP.out _ X1.out).mono ?_;rintro e w2 ⟨A3,c3',B3,d3,C2,e2,us,rfl,oV,oR,x2⟩;have zx:=x2.size;have z1:=X1.out.size;have FIN:Hid (KernA (w2.alloc (.cells #[.slice C2 co.length e2] 102)) w.heap.size w2.heap.size co/\Ext w (w2.alloc (.cells #[.slice C2 co.length e2] 102))) :=
  ⟨⟨C2,e2,us,.new rfl,by omega,(oV.more z1).ext ((Ext.rf _).alloc _),(oR.more z1).ext ((Ext.rf _).alloc _)⟩,(X1.out.tr x2).alloc _⟩
 have fld:∀ W,(Instr.field 25 (.agg #[.int .i64 2,.int .i64 nn,.int .i64 cap,.slice A3 xw.length c3',.slice B3 xv.length d3,.slice C2 co.length e2]) 5).run Tryz.prog W=.ok (.slice C2 co.length e2) W:=fun _=>by kernel_rfl
 clear oV oR x2 c0 c1 c2 c3 c4 c5;go_wp2_with (fail);go_ret2;exact⟨_,rfl,FIN.out.1,FIN.out.2⟩
theorem ZaU {base g:Nat}{rows:List (List Int)}(w:World)(H:KernA w base g rows) : Calls Tryz.prog 186 #[.pointer (some ⟨g,0,none⟩)] w fun e w'=>e=.returned (.int .i64 rows.length)/\Ext w w':=by
 obtain⟨C,c,us,h1,-,-,-⟩:=H;have c0:=h1.c0;go_enter Tryz.func186,Tryz.ntmps186;go_wp2;go_ret;exact⟨rfl,Ext.rf _⟩
def Zb1 : Option Nat->Value
 | none=>.tuple #[ZS 0,.bool false]
 | some m=>.tuple #[ZS m,.bool true]
theorem ZaV (m:Nat)(c:Int)(p:List Int) : Yd m (c::p)=if 0<=c/\c<64/\m.testBit c.toNat=true then Yd (YG m c.toNat) p else none:=rfl
theorem ZdH {base g:Nat}{rows:List (List Int)}(P:Option Addr)(pc:Nat)(p:List Int)(w:World)(H:KernA w base g rows)(h1:1<=rows.length)(h24:rows.length<=24)(hP:RdI w P p)(lp:p.length<=1000000000) :
  Calls Tryz.prog 188 #[.pointer (some ⟨g,0,none⟩),.slice P p.length pc] w fun e w'=>e=.returned (Zb1 (Ye rows.length p))/\Ext w w':=by
 have DE:=Hd (fun(W:World) (x:Ext w W)=>ZaU W (H.ext x));have FU:=Hd (fun(W:World)=>Ux rows.length (by omega) W);have UF:=YM h24;obtain⟨r,hr⟩:∃ r,Hid (Ye rows.length p=r):=⟨_,rfl⟩;rw[hr.out];generalize rows.length=n at *;clear H;unfold Ye at hr;replace hP:=Hd hP;have B1:Hid (Blk (w.alloc (.cells #[.int .u64 0,.int .u64 0] 161)) w.heap.size 161 #[.int .u64 0,.int .u64 0]):=.new rfl;have hn0:((n:Int)==0)=false:=by rw[beq_eq_false_iff_ne];omega
 by_cases hlen:n<p.length
 ·have hr2:Hid (r=none):=by
   have h:=hr.out;rw[if_pos hlen] at h;exact h.symm
  have hlb:decide ((n:Int)<(p.length:Int))=true:=decide_eq_true (by omega);rw[hr2.out];unfold Zb1 ZS;go_enter Tryz.func188,Tryz.ntmps188;go_wp2_with (fail);refine(DE.out _ XI).mono ?_;rintro e w1 ⟨rfl,x1⟩;have X1:=Hd (Ext.tr (a:=w) XI x1);have b1:=B1.out.ext x1;have c0:=b1.c0;have c1:=b1.c1;have f0:=b1.free 0;have f1:=b1.free 1;clear x1 b1;go_wp2_with (fail);refine bodyPost_ret (v:=.tuple #[.agg #[.int .u64 0,.int .u64 0],.bool false]) (by simp[results,Tryz.results188,go_sem, *]) rfl ⟨rfl,?_⟩;exact(X1.out.setNew (p:=⟨w.heap.size,0,none⟩) (Nat.le_refl _) _).setNew (p:=⟨w.heap.size,1,none⟩) (Nat.le_refl _) _
 ·have hr2:Hid (Yd (2^n-1) p=r):=by
   have h:=hr.out;rw[if_neg hlen] at h;exact h
  have hlb:decide ((n:Int)<(p.length:Int))=false:=decide_eq_false (by omega);generalize 2^n-1=m0 at *;unfold ZS at FU;clear hr;go_enter Tryz.func188,Tryz.ntmps188;go_wp2_with (fail);refine(DE.out _ XI).mono ?_;rintro e w1 ⟨rfl,x1⟩;have X1:=Hd (Ext.tr (a:=w) XI x1);have b1:=Hd (B1.out.ext x1);clear x1;go_wp2_with (fail);refine(FU.out _).mono ?_;rintro e w2 ⟨rfl,x2⟩;have z12:=x2.size;have zw1:=b1.out.lt;have X3:Ext w (w2.alloc (.cells #[.int .u64 m0,.int .u64 0] 161)):=(X1.out.tr x2).alloc _;have b3:Blk (w2.alloc (.cells #[.int .u64 m0,.int .u64 0] 161)) w.heap.size 161 #[.int .u64 0,.int .u64 0]:=(b1.out.ext x2).alloc _;have s3:Blk (w2.alloc (.cells #[.int .u64 m0,.int .u64 0] 161)) w2.heap.size 161 #[.int .u64 m0,.int .u64 0]:=.new rfl;have START:=Hd (And.intro X3 (And.intro b3 s3));obtain⟨sb,hsb⟩:∃ sb,Hid (sb=w2.heap.size):=⟨_,rfl⟩;have zsb:w.heap.size<sb:=by rw[hsb.out];omega
  clear X3 b3 s3 x2 b1;go_wp2_with (fail);rw[<-hsb.out] at START ⊢;go_loopw [25] (fun v wr=>∃ (k m:Nat),v=.int .i64 k/\k<=p.length/\Hid (Yd m (p.drop k)=r)/\Hid (SubN n m)/\Hid (Ext w wr/\Blk wr w.heap.size 161 #[.int .u64 0,.int .u64 0]/\Blk wr sb 161 #[.int .u64 m,.int .u64 0])) (fun v _=>p.length-(intOf v).toNat)
  case atStart=>exact⟨0,m0,rfl,by omega,hr2,UF,START⟩
  case round =>
   obtain⟨wo,rfl⟩:=Wq wr;clear START;obtain⟨k,m,rfl,hk,HF,HU,HH⟩:=hrel;obtain⟨Y,b1,bs⟩:=HH.out;have c0:=bs.c0;have c1:=bs.c1;replace Y:=Hd Y;replace b1:=Hd b1;replace bs:=Hd bs;clear HH
   by_cases hlt:k<p.length
   ·obtain⟨pb,po,c,rfl,zp,cp,ep,dp⟩:=(hP.out.ext Y.out).at hlt
    have HF2:Hid (r=if 0<=c/\c<64/\m.testBit c.toNat=true then Yd (YG m c.toNat) (p.drop (k+1)) else none):=by
     have h:=HF.out;rw[dp.out,ZaV] at h;exact h.symm
    have HA:=Hd (fun(W:World)=>ZcJ m c HU.out.1 W);unfold ZS at HA;clear HF ep dp;go_wp2_with (fail);refine(HA.out _).mono ?_;rintro e w3 ⟨rfl,x3⟩;have Y3:=Hd (Y.out.tr x3);have b13:=Hd (b1.out.ext x3);have bs3:=Hd (bs.out.ext x3);clear x3 c0 c1 cp
    by_cases hin:0<=c/\c<64/\m.testBit c.toNat=true
    ·have e1:(decide (0<=c/\c<64)&&m.testBit c.toNat)=true:=by rw[decide_eq_true ⟨hin.1,hin.2.1⟩,hin.2.2];rfl
     rw[e1];have HF3:Hid (Yd (YG m c.toNat) (p.drop (k+1))=r):=by
      have h:=HF2.out;rw[if_pos hin] at h;exact h.symm
     obtain⟨i,rfl⟩:∃ i:Nat,c=(i:Int):=⟨c.toNat,by omega⟩;rw[Int.toNat_natCast] at HF3;have WO:=Hd (fun(W:World)=>WF m i HU.out.1 (by omega) W);have HU2:=Hd (HU.out.clr i);generalize YG m i=m2 at *;unfold ZS at WO;have c0:=bs3.out.c0;have c1:=bs3.out.c1;clear hin e1 HF2 HA;go_wp2_with (fail);refine(WO.out _).mono ?_;rintro e w4 ⟨rfl,x4⟩;have bs4:=bs3.out.ext x4;have b14:=b13.out.ext x4;have d0:=bs4.c0;have d1:=bs4.c1;have f0:=bs4.free 0;have f1:=bs4.free 1;have NEW:Hid (Ext w ((w4.setCell ⟨sb,0,none⟩ (.int .u64 m2)).setCell ⟨sb,1,none⟩ (.int .u64 0))/\Blk ((w4.setCell ⟨sb,0,none⟩ (.int .u64 m2)).setCell ⟨sb,1,none⟩ (.int .u64 0)) w.heap.size 161 #[.int .u64 0,.int .u64 0]/\Blk ((w4.setCell ⟨sb,0,none⟩ (.int .u64 m2)).setCell ⟨sb,1,none⟩ (.int .u64 0)) sb 161 #[.int .u64 m2,.int .u64 0]) :=
      ⟨((Y3.out.tr x4).setNew (p:=⟨sb,0,none⟩) (Nat.le_of_lt zsb) _).setNew (p:=⟨sb,1,none⟩) (Nat.le_of_lt zsb) _,(b14.far (p:=⟨sb,0,none⟩) (Nat.ne_of_lt zsb) _).far (p:=⟨sb,1,none⟩) (Nat.ne_of_lt zsb) _,(bs4.set 0 (.int .u64 m2)).set 1 (.int .u64 0)⟩
     clear bs4 b14 x4 c0 c1;go_wp2_with (fail);go_roundw
     case rel=>exact⟨k+1,m2,by go_num,by omega,HF3,HU2,NEW⟩
     case measure=>simp[intOf];omega
    ·have e1:(decide (0<=c/\c<64)&&m.testBit c.toNat)=false:=by
      by_cases h2:0<=c/\c<64
      ·cases h3:m.testBit c.toNat with
       | false=>simp
       | true=>exact absurd ⟨h2.1,h2.2,h3⟩ hin
      ·rw[decide_eq_false h2];rfl
     rw[e1];have HF3:Hid (r=none):=by
      have h:=HF2.out;rw[if_neg hin] at h;exact h
     have d0:=b13.out.c0;have d1:=b13.out.c1;have f0:=b13.out.free 0;have f1:=b13.out.free 1;clear hin e1 HF2 HA;go_wp2_with (fail);refine bodyPost_ret (v:=.tuple #[.agg #[.int .u64 0,.int .u64 0],.bool false]) (by simp[results,Tryz.results188,go_sem, *]) rfl ⟨by rw[HF3.out];rfl,?_⟩;exact(Y3.out.setNew (p:=⟨w.heap.size,0,none⟩) (Nat.le_refl _) _).setNew (p:=⟨w.heap.size,1,none⟩) (Nat.le_refl _) _
   ·obtain rfl:k=p.length:=by omega
    have HF3:Hid (r=some m):=by
     have h:=HF.out;rw[List.drop_length] at h;exact h.symm
    have d0:=b1.out.c0;have d1:=b1.out.c1;have f0:=b1.out.free 0;have f1:=b1.out.free 1;go_wp2_with (fail);refine bodyPost_ret (v:=.tuple #[.agg #[.int .u64 m,.int .u64 0],.bool true]) (by simp[results,Tryz.results188,go_sem, *]) rfl ⟨by rw[HF3.out];rfl,?_⟩;exact(Y.out.setNew (p:=⟨w.heap.size,0,none⟩) (Nat.le_refl _) _).setNew (p:=⟨w.heap.size,1,none⟩) (Nat.le_refl _) _
attribute [local go_sem] Oper.semAt_some
def Zm (f:Nat->Int)(b:Int)(l:List Nat) : Int:=l.foldl (fun b x=>if b<0 then f x else if f x<b then f x else b) b
theorem Xz (f:Nat->Int)(b:Int)(l:List Nat)(x:Nat) : Zm f b (l++[x])=if Zm f b l<0 then f x else if f x<Zm f b l then f x else Zm f b l:=by
 unfold Zm;rw[List.foldl_append]
 rfl
theorem ZhV (A:Option Addr)(rc:Nat)(row:List Int)(m:Nat)(hm:m<18446744073709551616)(h63:∀ x∈Zb m,x<63)(hrow:∀ x∈Zb m,x<row.length)(w:World)(hT:Tab w)(hA:RdI w A row) :
  CallsIn Fence.wide 3 Tryz.prog 195 #[.slice A row.length rc,ZS m] w fun e W'=>e=.returned (.int .i64 (Zm (fun c=>row.getD c 0) (-1) (Zb m)))/\Ext w W':=by
 have hg:=QN hT;unfold ZS;refine callsIn_of_wp_marks Tryz.func195 rfl trivial ?_ rfl;simp only[Tryz.ntmps195,List.size_toArray,List.length_cons,List.length_nil,Nat.reduceAdd,Nat.reduceSub,Array.replicate_succ,Array.replicate_zero,List.push_toArray,List.append_toArray,List.nil_append,List.cons_append]
 gi_wp2
 refine⟨trivial,?_⟩;refine(callsIn_wide.2 (Ue m _)).mono ?_;rintro e w' ⟨rfl,rfl⟩
 gi_wp2
 have bR:Blk ((((w.alloc (.cells #[.slice A row.length rc] 22)).alloc (.cells #[.int .u64 m,.int .u64 0] 161)).alloc (.cells #[.int .i64 (-1)] 3)).alloc (.cells #[.int .u64 m,.int .u64 0] 161)) w.heap.size 22 #[.slice A row.length rc]:=.alloc (.alloc (.alloc (.new rfl) _) _) _;have bO:Blk ((((w.alloc (.cells #[.slice A row.length rc] 22)).alloc (.cells #[.int .u64 m,.int .u64 0] 161)).alloc (.cells #[.int .i64 (-1)] 3)).alloc (.cells #[.int .u64 m,.int .u64 0] 161)) (w.heap.size+1+1) 3 #[.int .i64 (-1)]:=.alloc (.new (by simp)) _;have bB:Blk ((((w.alloc (.cells #[.slice A row.length rc] 22)).alloc (.cells #[.int .u64 m,.int .u64 0] 161)).alloc (.cells #[.int .i64 (-1)] 3)).alloc (.cells #[.int .u64 m,.int .u64 0] 161)) (w.heap.size+1+1+1) 161 #[.int .u64 m,.int .u64 0]:=.new (by simp);have hB0:Ext w ((((w.alloc (.cells #[.slice A row.length rc] 22)).alloc (.cells #[.int .u64 m,.int .u64 0] 161)).alloc (.cells #[.int .i64 (-1)] 3)).alloc (.cells #[.int .u64 m,.int .u64 0] 161)):=((((Ext.rf w).alloc _).alloc _).alloc _).alloc _;refine wpIn_rangeFunc_ownG rfl (by omega) (gf:=198) (lb:=#[.pointer (some ⟨w.heap.size+1+1+1,0,none⟩)]) rfl trivial (enters_of Tryz.func198 (by kernel_rfl) rfl)
  (Wf 2 m hm h63 (w.heap.size+1+1+1) w.heap.size _ bB (hT.ext hB0) hB0.size hg) SetKp.tr (Uf (cs:=#[.int .u64 m,.int .u64 0]) hB0.size bB) (Below.refl _ _) (fun _=>rfl)
  (fun pre W=>Blk W (w.heap.size+1+1) 3 #[.int .i64 (Zm (fun c=>row.getD c 0) (-1) (inL pre))]/\Blk W w.heap.size 22 #[.slice A row.length rc]/\Blk W (w.heap.size+1+1+1) 161 #[.int .u64 m,.int .u64 0]/\Below w.heap.size w W)
  (fun _ _ _=>False)
  (OwnFrom.and (Yk (by simp<;>omega) _ _) (OwnFrom.and (Yk (by simp<;>omega) _ _) (OwnFrom.and (Yk (by simp<;>omega) _ _) (ownFrom_below (Nat.le_refl _) (by simp<;>omega)))))
  (fun _ _ _ _ _ hs _ _=>hs)
  ⟨bO,bR,bB,hB0⟩
  (fun x=>{ tmps:=#[.slice A row.length rc,.agg #[.int .u64 m,.int .u64 0],.pointer (some ⟨w.heap.size,0,none⟩),.pointer (some ⟨w.heap.size+1,0,none⟩),.int .i64 0,.pointer (some ⟨w.heap.size+1+1,0,none⟩),.int .i64 ((x.1:Nat):Int),.agg #[.int .u64 m,.int .u64 0],.func (.func 198) #[] #[.pointer (some ⟨w.heap.size+1+1+1,0,none⟩)],.int .i64 ((x.1:Nat):Int),undef,undef,undef,undef,undef,undef,undef,undef,undef,undef,undef,undef,undef,undef,undef],defers:=[] }) ?assign ?body ?done ?stop
 case assign =>
  intro l x W K hK
  gi_wp2
  exact hK
 case body =>
  rintro l pre x W ⟨hO,hR,hBn,hB⟩ hlt;obtain⟨bb,hbb⟩:∃ bb,Hid (bb=Zm (fun c=>row.getD c 0) (-1) (inL pre)):=⟨_,rfl⟩;rw[<-hbb.out] at hO;have cO:=hO.c0;have fO:=hO.free 0;have cR:=hR.c0;have hxr:=hrow x.1 x.2;obtain⟨ab,ao,y,rfl,zy,cy,ey,_⟩:=(RdI.ext hA hB).at hxr;have eN:Hid (Zm (fun c=>row.getD c 0) (-1) (inL (pre++[x]))=if bb<0 then y else if y<bb then y else bb):=Hd (by
   rw[Va,Xz,<-hbb.out,getD_some ey.out])
  have qx:((x.1:Nat):Int)<(row.length:Int):=by omega
  have N0:Hid (Blk (W.setCell ⟨w.heap.size+1+1,0,none⟩ (.int .i64 y)) (w.heap.size+1+1) 3 #[.int .i64 y]):=hO.set 0 (.int .i64 y);have hmx:Tryz.prog.follows .mixedOrders=true:=by kernel_rfl
  replace hR:=Hd hR;replace hBn:=Hd hBn;replace hB:=Hd hB;replace hO:=Hd hO;clear ey;have N1:=Hd (hR.out.far (p:=⟨w.heap.size+1+1,0,none⟩) (by simp<;>omega) (.int .i64 y));have N2:=Hd (hBn.out.far (p:=⟨w.heap.size+1+1,0,none⟩) (by simp) (.int .i64 y));have N3:=Hd ((Below.refl w.heap.size W).setCell (p:=⟨w.heap.size+1+1,0,none⟩) (by simp<;>omega) (.int .i64 y))
  by_cases hneg:bb<0
  ·rw[if_pos hneg] at eN
   gi_wp2
   gi_region_o
   all_goals gi_wp2
   all_goals exact⟨((KeepsOthers.setCell _ _ _).trans (KeepsOthers.drew _)).from _,⟨N3.out.drew,N2.out.drew.trans hBn.out.symm⟩,by rw[eN.out];exact N0.out.drew,N1.out.drew,N2.out.drew,(hB.out.trans N3.out).drew⟩
  ·rw[if_neg hneg] at eN
   by_cases hy:y<bb
   ·rw[if_pos hy] at eN
    gi_wp2
    gi_region_o
    all_goals gi_wp2
    all_goals exact⟨((KeepsOthers.setCell _ _ _).trans (KeepsOthers.drew _)).from _,⟨N3.out.drew,N2.out.drew.trans hBn.out.symm⟩,by rw[eN.out];exact N0.out.drew,N1.out.drew,N2.out.drew,(hB.out.trans N3.out).drew⟩
   ·rw[if_neg hy] at eN
    gi_wp2
    gi_region_o
    all_goals gi_wp2
    all_goals exact⟨(KeepsOthers.drew _).from _,⟨(Below.refl _ W).drew,rfl⟩,by rw[eN.out];exact hO.out.drew,hR.out.drew,hBn.out.drew,hB.out.drew⟩
 case done =>
  rintro D ys W hD rfl ⟨hO,_,_,hB⟩ hK;rw[Xx] at hO;have cO:=hO.cell 0
  gi_wp2
  refine⟨by simp,.inl ⟨_,_,rfl,run_takeDeferred hK,?_⟩⟩;exact⟨_,results_tmp rfl _ _ _,rfl,hB.trans (belowK_b (w:=w) (Nat.le_refl _) W D _ _ (by simp at hD;omega) hK rfl rfl)⟩
 case stop =>
  rintro D c pre W _ _ h _;exact h.elim
end
section
attribute [local go_sem] Oper.semAt_some
def Ve (rows:List (List Int))(l:List Nat) : List Int:=rows.map fun row=>Zm (fun c=>row.getD c 0) (-1) l
def Xm (c:Nat)(b:Int) : List (List Int)->List Int->Int
 | row::rows,o::off=>Xm c (if b<0 then row.getD c 0-o else if row.getD c 0-o<b then row.getD c 0-o else b) rows off
 | _,_=>b
def Z9 (rows:List (List Int))(l:List Nat) : Int:=Zg (Ve rows l)+Zg (l.map fun c=>Xm c (-1) rows (Ve rows l))
theorem YW {f:Nat->Int}{B:Int} : ∀ {l:List Nat} {b:Int},(∀ c∈l,-B<=f c/\f c<=B)->-B<=b->b<=B->-B<=Zm f b l/\Zm f b l<=B
 | [],b,_,h1,h2=>⟨h1,h2⟩
 | c::l,b,h,h1,h2=>by
  have hc:=h c (by simp);have e:Zm f b (c::l)=Zm f (if b<0 then f c else if f c<b then f c else b) l:=rfl;rw[e];refine YW (fun x hx=>h x (by simp[hx])) ?_ ?_<;>split<;>(try split)<;>omega
theorem Zai {c:Nat}{B:Int} : ∀ {rows:List (List Int)} {off:List Int} {b:Int},(∀ row∈rows,0<=row.getD c 0/\row.getD c 0<=B)->(∀ o∈off,-B<=o/\o<=B)->0<=B->-(2*B)<=b->b<=2*B->-(2*B)<=Xm c b rows off/\Xm c b rows off<=2*B
 | [],off,b,_,_,_,h1,h2=>by cases off<;>exact⟨h1,h2⟩
 | _::_,[],b,_,_,_,h1,h2=>⟨h1,h2⟩
 | row::rows,o::off,b,hr,ho,h0,h1,h2=>by
  have a1:=hr row (by simp);have a2:=ho o (by simp);unfold Xm;refine Zai (fun x hx=>hr x (by simp[hx])) (fun x hx=>ho x (by simp[hx])) h0 ?_ ?_<;>split<;>(try split)<;>omega
theorem ZgM (A:Option Addr)(rc:Nat)(row:List Int)(m:Nat)(hm:m<18446744073709551616)(h63:∀ x∈Zb m,x<63)(hrow:∀ x∈Zb m,x<row.length)(w:World)(hT:Tab w)(hA:RdI w A row) :
  Calls Tryz.prog 195 #[.slice A row.length rc,ZS m] w fun e W'=>e=.returned (.int .i64 (Zm (fun c=>row.getD c 0) (-1) (Zb m)))/\Ext w W' :=
 callsIn_wide.1 (ZhV A rc row m hm h63 hrow w hT hA)
theorem Wi (a:List Int)(x:Int) : Zg (a++[x])=Zg a+x:=by rw[Zdh];simp[Zg]
theorem QU {B:Int} : ∀ {l:List Int},(∀ x∈l,-B<=x/\x<=B)->-(B*l.length)<=Zg l/\Zg l<=B*l.length
 | [],_=>by simp[Zg]
 | x::l,h=>by
  have h1:=h x (by simp);have h2:=QU (l:=l) fun y hy=>h y (by simp[hy])
  simp only[Zg,List.length_cons,Int.natCast_add,Int.natCast_one,Int.mul_add,Int.mul_one];omega
end
section
open Go
section
variable {F:Fence} {n:Nat} {P:Program} {ops:Array Oper} {md:Region.Mode} {C:World->Prop}
theorem Zac {o:Oper}{a:Act}{K:Act->Prop}{K':Act->World->Prop}{Q':Exit->Act->World->Prop}{w:World}(hd:∀ c,o.op≠.defer c)(hw:C w)(h:∀ a w',C w'->K a->K' a w')
  (ha:o.askedIn F P a C) (hh:o.quietIn F n P a C K):o.wpIn F n P a w K' Q':=by
 obtain⟨v,h1,h2⟩:=hh;have h3:=h1 w hw;unfold Oper.quietAtIn at h3;unfold Oper.wpIn;refine⟨ha w hw,?_⟩;rw[Oper.semAt_plain F _ _ hd];generalize (execOp a.eval o).run P w=r at *
 cases r with
 | ok x w' =>
  cases x<;>simp only[Oper.quietUponIn] at h3<;>simp only[Oper.uponIn]
  case value u =>
   obtain⟨e1,e2⟩:=h3;rw[e1,e2];exact h _ _ hw h2
  case skip =>
   obtain⟨e1,e2⟩:=h3;rw[e1,<-e2];exact h _ _ hw h2
  case enter f args =>
   obtain⟨e1,hd,hc⟩:=h3;rw[e1];exact⟨hd,hc.mono fun e w'' ⟨he,hw''⟩=>by subst he;exact h _ _ hw'' h2⟩
 | halt x w'=>simp only[Oper.quietUponIn] at h3
theorem Zby (hd:∀ (i:Nat) (o:Oper),ops[i]?=some o->∀ c,o.op≠.defer c){i:Nat}{a:Act}{K:Act->Prop}{K':Act->World->Prop}{Q':Exit->Act->World->Prop}{w:World}(hC:C w)(h:∀ a w',C w'->K a->K' a w')
  (hh:qOpIn F n P ops C i K a):wpOpIn F n P ops Q' i K' a w:=by
 unfold qOpIn at hh;unfold wpOpIn;split
 ·rename_i ho;simp only[ho] at hh;exact h _ _ hC hh
 ·rename_i o ho
  simp only[ho] at hh;obtain⟨ha,hh⟩:=hh;split
  ·rename_i hw;simp only[hw,if_true] at hh;exact Zac (hd i o ho) hC h ha hh
  ·rename_i hw;simp only[hw] at hh;exact⟨ha w hC,h _ _ hC hh⟩
theorem UE {Q:Act->Prop}{Q':Exit->Act->World->Prop}(hd:∀ (i:Nat) (o:Oper),ops[i]?=some o->∀ c,o.op≠.defer c)(hQ:∀ a w,C w->Q a->Q' .normal a w) : ∀ (fuel:Nat) (listed:Array Bool) (a:Act) (w:World),C w ->
  wpAnyQIn F n P md ops C Q fuel listed a->wpAnyIn F n P md ops Q' fuel listed a w
 | 0,_,_,_,hw,h=>⟨h.1,hQ _ _ hw h.2⟩
 | fuel+1,_,_,_,hw,h=>⟨fun h0=>hQ _ _ hw (h.1 h0),fun i hi=>Zby hd hw (fun a' w' hw'=>UE hd hQ fuel _ a' w' hw') (h.2 i hi)⟩
def Zaj : Oper->Bool
 | { op:=.defer _,.. }=>true
 | _=>false
theorem Zi {id:Nat}{Q:Exit->Act->World->Prop}{a:Act}{w:World}{l:List Oper}(hm:P.follows .mixedOrders=true)(hB:Region.lexB .any l.toArray=true)(hd:l.all (fun o => !Zaj o)=true)
  (h:wpQuietIn F n P l.toArray (fun w'=>∃ n,w'=w.drewN n) (fun a'=>∀ w',(∃ n,w'=w.drewN n)->Q .normal a' w') l a):(Code.region id l.toArray true).wpIn F n P Q a w:=by
 simp only[Region.lexB,Bool.and_eq_true] at hB;have hd':∀ (i:Nat) (o:Oper),l.toArray[i]?=some o->∀ c,o.op≠.defer c:=by
  intro i o ho c hc;have h1:o∈l:=by
   have h2:l[i]?=some o:=by simpa using ho
   exact List.mem_of_getElem? h2
  have h3:=List.all_eq_true.1 hd o h1;obtain⟨dst,op,ty,pos,af,gu⟩:=o;simp only at hc;subst hc;simp[Zaj] at h3
 refine wpIn_region_any hm (UE (C:=fun w'=>∃ n,w'=w.drewN n) (Q:=fun a'=>∀ w',(∃ n,w'=w.drewN n)->Q .normal a' w') hd' (fun _ w' hw' h=>h w' hw') _ _ _ _ ⟨1,rfl⟩ ?_);have:=wpAnyQIn_lex (F:=F) (n:=n) (C:=fun w'=>∃ n,w'=w.drewN n) (md:=.any) hB.1 l 0 (Array.replicate l.length false) a (by simp) (by simpa using hB.2) h
 simpa using this
end
end
section
attribute [local go_sem] Oper.semAt_some
theorem UG {W:World}{n₀ k size:Nat}{e:TypeId}{v:Value}{xs:List Value}(hrow:W.ownsRow n₀ e size v k xs){b:Nat}(hb:b<n₀) : v.ownBlock≠some b:=by
 rcases hrow.2 with⟨rfl,_⟩ | ⟨g',cap,cur,rfl,h,_⟩
 ·simp[Value.ownBlock]
 ·intro e'
  obtain rfl:g'=b:=by simpa [Value.ownBlock] using e'
  omega
def ZjR (w wr:World)(A:Option Addr)(n rc m:Nat)(sum:Int)(OA:Option Addr)(k oc:Nat)(offs:List Int) : Prop :=
 Ext w wr/\Blk wr w.heap.size 23 #[.slice A n rc]/\Blk wr (w.heap.size+1) 161 #[.int .u64 m,.int .u64 0]/\Blk wr (w.heap.size+1+1) 3 #[.int .i64 sum]/\Blk wr (w.heap.size+1+1+1) 22 #[.slice OA k oc]/\wr.ownsRow (w.heap.size+1+1+1+1) 3 1 (.slice OA k oc) k (offs.map (Value.int .i64))/\w.heap.size+1+1+1+1<=wr.heap.size
theorem ZgN {base:Nat}(A:Option Addr)(rc:Nat)(us:List Value)(rows:List (List Int))(m:Nat)(hm:m<18446744073709551616)(h63:∀ x∈Zb m,x<63)(hlen:∀ row∈rows,∀ x∈Zb m,x<row.length)(hbd:∀ row∈rows,∀ x∈row,0<=x/\x<=2147483647)(hr64:rows.length<=64)
  (w:World) (hT:Tab w) (hV:RdV w 22 A us) (hR:RowsO w base us rows) :
  CallsIn Fence.wide 3 Tryz.prog 189 #[.slice A rows.length rc,ZS m] w fun e W'=>e=.returned (.int .i64 (Z9 rows (Zb m)))/\Ext w W':=by
 obtain⟨i0,hi,hz0,hz1,hz2⟩:=info_parts XE;have hg:=QN hT;have lus:us.length=rows.length:=hR.1;obtain⟨offs,hoffs⟩:∃ offs,Hid (offs=Ve rows (Zb m)):=⟨_,rfl⟩;have loff:offs.length=rows.length:=by rw[hoffs.out];simp[Ve]
 have eoff:∀ (k:Nat) (row:List Int),rows[k]?=some row->offs[k]?=some (Zm (fun c=>row.getD c 0) (-1) (Zb m)):=fun k row h=>by rw[hoffs.out,Ve,List.getElem?_map,h];rfl
 have hget:∀ row∈rows,∀ c∈Zb m,0<=row.getD c 0/\row.getD c 0<=2147483647:=fun row hr c hc=>by
  have h1:=hlen row hr c hc;have h2:row.getD c 0=row[c]:=by simp[List.getD,List.getElem?_eq_getElem h1]
  rw[h2];exact hbd row hr _ (List.getElem_mem _)
 have boff:∀ o∈offs,-2147483647<=o/\o<=2147483647:=fun o ho=>by
  rw[hoffs.out] at ho;obtain⟨row,hr,rfl⟩:=List.mem_map.1 ho;exact YW (fun c hc=>by have:=hget row hr c hc;omega) (by omega) (by omega)
 have bsum:∀ k,-(2147483647*64)<=Zg (offs.take k)/\Zg (offs.take k)<=2147483647*64:=fun k=>by
  have h1:=QU (B:=2147483647) (l:=offs.take k) fun x hx=>boff x (List.mem_of_mem_take hx)
  have h2:(offs.take k).length<=64:=by rw[List.length_take];omega
  omega
 have LE:=fun(B:Option Addr) (c:Nat) (row:List Int) (hrow:row∈rows) (W:World) (x:Ext w W) (h:RdI W B row)=>ZgM B c row m hm h63 (hlen row hrow) W (hT.ext x) h
 unfold ZS at LE ⊢;replace LE:=Hd LE;replace hV:=Hd hV;replace hR:=Hd hR;replace hget:=Hd hget;replace hbd:=Hd hbd;replace hlen:=Hd hlen;replace boff:=Hd boff;replace bsum:=Hd bsum;replace eoff:=Hd eoff;replace lus:=Hd lus;replace loff:=Hd loff;refine callsIn_of_wp_marks Tryz.func189 rfl trivial ?_ rfl;simp only[Tryz.ntmps189,List.size_toArray,List.length_cons,List.length_nil,Nat.reduceAdd,Nat.reduceSub,Array.replicate_succ,Array.replicate_zero,List.push_toArray,List.append_toArray,List.nil_append,List.cons_append]
 gi_wp2
 have START:Hid (ZjR w ((((w.alloc (.cells #[.slice A rows.length rc] 23)).alloc (.cells #[.int .u64 m,.int .u64 0] 161)).alloc (.cells #[.int .i64 0] 3)).alloc (.cells #[.slice none 0 0] 22)) A rows.length rc m (Zg (offs.take 0)) none 0 0 (offs.take 0)) :=
  ⟨((((Ext.rf w).alloc _).alloc _).alloc _).alloc _,.alloc (.alloc (.alloc (.new rfl) _) _) _,.alloc (.alloc (.new (by simp)) _) _,.alloc (.new (by simp)) _,.new (by simp),World.ownsRow_nil _ _ _ _,by simp⟩
 gi_loopw [17] (fun v wr=>∃ (k:Nat) (OA:Option Addr) (oc:Nat),v=.int .i64 k/\k<=rows.length/\Hid (ZjR w wr A rows.length rc m (Zg (offs.take k)) OA k oc (offs.take k))) (fun v _=>rows.length-(intOf v).toNat)
 case atStart=>exact⟨0,none,0,rfl,by omega,START⟩
 case round =>
  obtain⟨wo,rfl⟩:=Wq wr;clear START;obtain⟨k,OA,oc,rfl,hk,HH⟩:=hrel;obtain⟨Y,bR,bS,bU,bO,oO,zO⟩:=HH.out
  by_cases hlt:k<rows.length
  ·have hlu:k<us.length:=by rw[lus.out];exact hlt
   have er:rows[k]?=some rows[k]:=List.getElem?_eq_getElem hlt;obtain⟨D,d,hu,oD⟩:=hR.out.2 k _ er;have hmem:rows[k]∈rows:=List.getElem_mem hlt;generalize rows[k]=row at *;obtain⟨ab,ao,vv,rfl,zv,cv,ev⟩:=(hV.out.ext Y).at hlu;obtain rfl:.slice D row.length d=vv:=by
    have h:=ev.out;rw[hu] at h;exact Option.some.inj h
   obtain⟨ob,hob⟩:∃ ob,Hid (ob=Zm (fun c=>row.getD c 0) (-1) (Zb m)):=⟨_,rfl⟩;have eo:=eoff.out k row er;rw[<-hob.out] at eo;have et:Hid (offs.take (k+1)=offs.take k++[ob]):=Hd (by rw[List.take_add_one,eo];rfl);have es:Zg (offs.take (k+1))=Zg (offs.take k)+ob:=by rw[et.out,Wi]
   have b1:=bsum.out k;have b2:=bsum.out (k+1);have lk:(offs.take k).length=k:=by rw[List.length_take,loff.out];omega
   obtain⟨su,hsu⟩:∃ su,Hid (su=Zg (offs.take k)):=⟨_,rfl⟩;rw[<-hsu.out] at bU es b1;rw[es] at b2;have hw:IntKind.i64.wrap (su+ob)=su+ob:=IntWalk.i64_in _ (by omega);have L1:=Hd (LE.out D d row hmem wo Y (oD.read.ext Y));rw[<-hob.out] at L1;have cS0:=bS.c0;have cS1:=bS.c1;have q1:(k:Int)<(rows.length:Int):=by omega
   replace es:=Hd es;replace Y:=Hd Y;replace bR:=Hd bR;replace bS:=Hd bS;replace bU:=Hd bU;replace bO:=Hd bO;replace oO:=Hd oO;replace lk:=Hd lk;clear HH ev eo hu oD er b1 b2
   gi_wp2
   refine⟨trivial,?_⟩;refine(callsIn_wide.2 L1.out).mono ?_;rintro e w1 ⟨rfl,x1⟩;have U1:=bU.out.ext x1;have O1:=bO.out.ext x1;have cU:=U1.c0;have fU:=U1.free 0;have hrow:(w1.setCell ⟨w.heap.size+1+1,0,none⟩ (.int .i64 (su+ob))).ownsRow (w.heap.size+1+1+1+1) 3 1 (.slice OA k oc) k ((offs.take k).map (Value.int .i64)):=by
    have h1:w1.ownsRow (w.heap.size+1+1+1+1) 3 1 (.slice OA k oc) k ((offs.take k).map (Value.int .i64)):=OwV.ext (n:=k) oO.out x1;exact OwV.keep (n:=k) h1 (fun g hg=>by
     have:=OwV.lt (n:=k) h1 g hg;exact Below.heap_setCell w1 ⟨w.heap.size+1+1,0,none⟩ _ g (by simp;omega))
   have cO:(w1.setCell ⟨w.heap.size+1+1,0,none⟩ (.int .i64 (su+ob))).cell? ⟨w.heap.size+1+1+1,0,none⟩=some (.slice OA k oc):=(O1.far (p:=⟨w.heap.size+1+1,0,none⟩) (by simp) _).cell 0
   gi_wp2_with (gi_at_builtin;go_loud (refine wpListIn_append_own _ rfl _ _ 22 rfl (w.heap.size+1+1+1+1) 3 i0 (.int .i64 0) 1 8 Tryz.underlying22 hi hz0 hz1 hz2 rfl (by decide) _ _ _ rfl (hrow.alloc _) ⟨w1.heap.size,0,none⟩ 1 1 [.int .i64 ob] rfl rfl (by simpa using cell_one_new (w1.setCell ⟨w.heap.size+1+1,0,none⟩ (.int .i64 (su+ob))) (.int .i64 ob) 3) (by simp[Value.oneCell']) (by simp only[maxLen];omega) (by omega) (by have:=x1.size;simp;omega) ?_;intro v' w3 hown' hgrow _;obtain⟨g',cap',rfl⟩:=ownsRow_succ hown';have hO3:=((O1.far (p:=⟨w.heap.size+1+1,0,none⟩) (by simp) (.int .i64 (su+ob))).alloc _).grown hgrow (UG hrow (by omega));have hc3:=hO3.cell 0;have hf3:=hO3.free 0))
   have Y3:Hid (Ext w w3):=(((Y.out.tr x1).setNew (by simp<;>omega) (.int .i64 (su+ob))).alloc _).grow hgrow (fun b hb=>Classical.byContradiction fun hn=>UG hrow (b:=b) (by omega) hb);have hR3:=Hd ((((bR.out.ext x1).far (p:=⟨w.heap.size+1+1,0,none⟩) (by simp<;>omega) (.int .i64 (su+ob))).alloc _).grown hgrow (UG hrow (by omega)));have hS3:Hid (Blk w3 (w.heap.size+1) 161 #[.int .u64 m,.int .u64 0]):=(((bS.out.ext x1).far (p:=⟨w.heap.size+1+1,0,none⟩) (by simp<;>omega) (.int .i64 (su+ob))).alloc _).grown hgrow (UG hrow (by omega));have hU3:Hid (Blk w3 (w.heap.size+1+1) 3 #[.int .i64 (su+ob)]):=(((U1.set 0 (.int .i64 (su+ob))).alloc _).grown hgrow (UG hrow (by omega)));have hown3:Hid (w3.ownsRow (w.heap.size+1+1+1+1) 3 1 (.slice (some ⟨g',0,none⟩) (k+1) cap') (k+1) ((offs.take (k+1)).map (Value.int .i64))):=Hd (by
    rw[et.out,List.map_append];exact hown')
   have FIN:Hid (ZjR w (w3.setCell ⟨w.heap.size+1+1+1,0,none⟩ (.slice (some ⟨g',0,none⟩) (k+1) cap')) (some ⟨ab,ao,none⟩) rows.length rc m (Zg (offs.take (k+1))) (some ⟨g',0,none⟩) (k+1) cap' (offs.take (k+1))):=by
    refine⟨Y3.out.setNew (by simp<;>omega) _,hR3.out.far (by simp<;>omega) _,hS3.out.far (by simp<;>omega) _,?_,hO3.set 0 _,?_,?_⟩
    ·rw[es.out]
     exact hU3.out.far (by simp<;>omega) _
    ·exact OwV.keep (n:=k+1) hown3.out (fun g hg=>by
      have:=OwV.lt (n:=k+1) hown3.out g hg;exact Below.heap_setCell w3 ⟨w.heap.size+1+1+1,0,none⟩ _ g (by simp;omega))
    ·have h1:=OwV.lt (n:=k+1) hown3.out g' (by simp[bl])
     simp;omega
   go_roundw
   case rel=>exact⟨k+1,some ⟨g',0,none⟩,cap',by go_num,by omega,FIN⟩
   case measure =>
    simp only[intOf];omega
  ·obtain rfl:k=rows.length:=by omega
   have q0:¬((rows.length:Int)<(rows.length:Int)):=by omega
   have et:offs.take rows.length=offs:=List.take_of_length_le (by rw[loff.out];exact Nat.le_refl _);rw[et] at bU oO;have cS0:=bS.c0;have cS1:=bS.c1;replace Y:=Hd Y;replace bR:=Hd bR;replace bS:=Hd bS;replace bU:=Hd bU;replace bO:=Hd bO;replace oO:=Hd oO;clear HH et
   gi_wp2
   refine⟨trivial,?_⟩;refine(callsIn_wide.2 (Ue m _)).mono ?_;rintro e w' ⟨rfl,rfl⟩
   gi_wp2
   have loO:OwI wo (w.heap.size+1+1+1+1) OA oc offs:=by
    unfold OwI;rw[loff.out];exact oO.out
   have bB:Blk (wo.alloc (.cells #[.int .u64 m,.int .u64 0] 161)) wo.heap.size 161 #[.int .u64 m,.int .u64 0]:=.new rfl;have hB0:Ext w (wo.alloc (.cells #[.int .u64 m,.int .u64 0] 161)):=Y.out.alloc _;refine wpIn_rangeFunc_ownG rfl (by omega) (gf:=198) (lb:=#[.pointer (some ⟨wo.heap.size,0,none⟩)]) rfl trivial (enters_of Tryz.func198 (by kernel_rfl) rfl)
    (Wf 2 m hm h63 wo.heap.size w.heap.size _ bB (hT.ext hB0) hB0.size hg) SetKp.tr (Uf (cs:=#[.int .u64 m,.int .u64 0]) hB0.size bB) (Below.refl _ _) (fun _=>rfl)
    (fun pre W=>Blk W (w.heap.size+1+1) 3 #[.int .i64 (Zg offs+Zg ((inL pre).map fun c=>Xm c (-1) rows offs))]/\Held (wo.alloc (.cells #[.int .u64 m,.int .u64 0] 161)) (w.heap.size+1+1) W/\Below w.heap.size w W)
    (fun _ _ _=>False)
    (OwnFrom.and (Yk (by simp<;>omega) _ _) (OwnFrom.and (WW (Nat.le_refl _)) (ownFrom_below (Nat.le_refl _) (by simp<;>omega))))
    (fun _ _ _ _ _ hs _ _=>hs)
    ⟨by simpa [inL,Zg] using bU.out.alloc _,⟨Nat.le_refl _,fun _ _ _=>rfl⟩,hB0⟩
    (fun x=>{ tmps:=#[.slice A rows.length rc,.agg #[.int .u64 m,.int .u64 0],.pointer (some ⟨w.heap.size,0,none⟩),.pointer (some ⟨w.heap.size+1,0,none⟩),.int .i64 0,.pointer (some ⟨w.heap.size+1+1,0,none⟩),.pointer (some ⟨w.heap.size+1+1+1,0,none⟩),undef,u8,u9,.int .i64 ((x.1:Nat):Int),undef,undef,undef,undef,.slice A rows.length rc,.int .i64 rows.length,.int .i64 rows.length,.bool false,u19,u20,u21,u22,u23,u24,u25,u26,u27,u28,u29,u30,u31,.agg #[.int .u64 m,.int .u64 0],.func (.func 198) #[] #[.pointer (some ⟨wo.heap.size,0,none⟩)],.int .i64 ((x.1:Nat):Int),undef,undef,undef,undef,undef,undef,undef,undef,undef,undef,undef,undef,undef,undef,undef,undef,undef,undef,undef,undef,undef,undef,undef,undef,undef,undef,undef,undef,undef],defers:=[] }) ?assign ?body ?done ?stop
   case assign =>
    intro l x W K hK
    gi_wp2
    exact hK
   case body =>
    rintro l pre x W ⟨hO,hH,hB⟩ hlt;obtain⟨su,hsu⟩:∃ su,Hid (su=Zg offs+Zg ((inL pre).map fun c=>Xm c (-1) rows offs)):=⟨_,rfl⟩;obtain⟨cf,hcf⟩:∃ cf,Hid (cf=Xm x.1 (-1) rows offs):=⟨_,rfl⟩;rw[<-hsu.out] at hO;have cO:=hO.c0;have fO:=hO.free 0;have cR:W.cell? ⟨w.heap.size,0,none⟩=some (.slice A rows.length rc):=(hH.blk (bR.out.alloc _) (by omega)).cell 0;have bF:=Hd (hH.blk (bO.out.alloc _) (by omega));have rO:Hid (RdI W OA offs):=by
     have h:OwI W (w.heap.size+1+1+1+1) OA oc offs:=OwV.keep (n:=offs.length) loO (fun g hg=>by
      have:=OwV.lt (n:=offs.length) loO g hg;exact(hH.2 g (by simp;omega) (by omega)).trans (Below.heap_alloc _ _ g (by omega)))
     exact h.read
    have eN:Hid (Zg offs+Zg ((inL (pre++[x])).map fun c=>Xm c (-1) rows offs)=su+cf):=Hd (by
     rw[Va,List.map_append,List.map_cons,List.map_nil,Wi,hsu.out,hcf.out];omega)
    have bdS:Hid (-(2147483647*64)+-(2*2147483647*64)<=su/\su<=2147483647*64+2*2147483647*64):=by
     have h1:=bsum.out rows.length;rw[List.take_of_length_le (by rw[loff.out];exact Nat.le_refl _)] at h1;have h2:=QU (B:=2*2147483647) (l:=(inL pre).map fun c=>Xm c (-1) rows offs) fun z hz=>by
      obtain⟨c,hc,rfl⟩:=List.mem_map.1 hz;obtain⟨c',_,rfl⟩:=List.mem_map.1 hc;exact Zai (fun row hr=>hget.out row hr c'.1 c'.2) boff.out (by omega) (by omega) (by omega)
     have h3:((inL pre).map fun c=>Xm c (-1) rows offs).length<=64:=by
      have:=Wy m;simp[inL];omega
     have h:-(2147483647*64)+-(2*2147483647*64)<=su/\su<=2147483647*64+2*2147483647*64:=by
      rw[hsu.out];omega
     exact h
    have bdC:Hid (-(2*2147483647)<=cf/\cf<=2*2147483647):=by
     have h:=Zai (c:=x.1) (B:=2147483647) (rows:=rows) (off:=offs) (b:=-1) (fun row hr=>hget.out row hr x.1 x.2) boff.out (by omega) (by omega) (by omega);rw[<-hcf.out] at h;exact h
    have hmx:Tryz.prog.follows .mixedOrders=true:=by kernel_rfl
    have x63:=h63 x.1 x.2;have HH':=Hd hH;have HB':=Hd hB;have HO':=Hd hO;have START2:Hid (Xm x.1 (-1) (rows.drop 0) (offs.drop 0)=cf):=hcf.out.symm;clear hsu hH hB hO loO bB hB0
    gi_wp2
    gi_loopw [11,37] (fun b v wr=>∃ (k:Nat) (bb:Int),v=.int .i64 k/\b=.int .i64 bb/\k<=rows.length/\Hid (Xm x.1 bb (rows.drop k) (offs.drop k)=cf)/\Hid (Ext W wr)) (fun _ v _=>rows.length-(intOf v).toNat)
    case atStart=>exact⟨0,-1,rfl,rfl,by omega,START2,Ext.rf W⟩
    case round =>
     obtain⟨k,bb,rfl,rfl,hk',hcol,xr⟩:=hrel
     by_cases hlt':k<rows.length
     ·have er:rows[k]?=some rows[k]:=List.getElem?_eq_getElem hlt'
      obtain⟨D,d,hu,oD⟩:=hR.out.2 k _ er;have hmem:rows[k]∈rows:=List.getElem_mem hlt';have edr:rows.drop k=rows[k]::rows.drop (k+1):=List.drop_eq_getElem_cons hlt';generalize rows[k]=row at *;have xw:Hid (Ext w wr):=Below.trans HB'.out (xr.out.mono HB'.out.size);obtain⟨ab,ao,vv,rfl,zv,cv,ev⟩:=(hV.out.ext xw.out).at (j:=k) (by rw[lus.out];exact hlt');obtain rfl:.slice D row.length d=vv:=by
       have h:=ev.out;rw[hu] at h;exact Option.some.inj h
      have hxr:=hlen.out row hmem x.1 x.2;obtain⟨cb,co,y,rfl,zy,cy,ey,_⟩:=(oD.read.ext xw.out).at (k:=x.1) hxr;obtain⟨ob,oo,o,rfl,zo,co',eo,edo⟩:=(rO.out.ext xr.out).at (k:=k) (by rw[loff.out];exact hlt');have cOF:wr.cell? ⟨w.heap.size+1+1+1,0,none⟩=some (.slice (some ⟨ob,oo,none⟩) rows.length oc):=(bF.out.ext xr.out).cell 0;have yb:=hget.out row hmem x.1 x.2;have ob':=boff.out o (List.mem_of_getElem? eo.out);rw[getD_some ey.out] at yb;have hw:IntKind.i64.wrap (y-o)=y-o:=IntWalk.i64_in _ (by omega);have hcol2:=hcol.out;rw[edr,edo.out,Xm,getD_some ey.out] at hcol2;replace hcol2:=Hd hcol2;have q1:(k:Int)<(rows.length:Int):=by omega
      have qx:((x.1:Nat):Int)<(row.length:Int):=by omega
      clear hcol ev hu oD edr er eo edo ey yb ob' hcf
      by_cases hneg:bb<0
      ·rw[if_pos hneg] at hcol2
       gi_wp2
       refine Zi (by kernel_rfl) (by kernel_rfl) (by kernel_rfl) ?_
       repeat (gi_big_quiet_step (fail))
       refine wpQuietIn_nil ?_;rintro _ ⟨nq,rfl⟩
       gi_wp2
       exact⟨⟨k+1,y-o,by go_num,rfl,by omega,hcol2,xr.out.drewN nq⟩,by simp only[intOf];omega⟩
      ·rw[if_neg hneg] at hcol2
       by_cases hy:y-o<bb
       ·rw[if_pos hy] at hcol2
        gi_wp2
        refine Zi (by kernel_rfl) (by kernel_rfl) (by kernel_rfl) ?_
        repeat (gi_big_quiet_step (fail))
        refine wpQuietIn_nil ?_;rintro _ ⟨nq,rfl⟩
        gi_wp2
        exact⟨⟨k+1,y-o,by go_num,rfl,by omega,hcol2,xr.out.drewN nq⟩,by simp only[intOf];omega⟩
       ·rw[if_neg hy] at hcol2
        gi_wp2
        refine Zi (by kernel_rfl) (by kernel_rfl) (by kernel_rfl) ?_
        repeat (gi_big_quiet_step (fail))
        refine wpQuietIn_nil ?_;rintro _ ⟨nq,rfl⟩
        gi_wp2
        exact⟨⟨k+1,bb,by go_num,rfl,by omega,hcol2,xr.out.drewN nq⟩,by simp only[intOf];omega⟩
     ·obtain rfl:k=rows.length:=by omega
      have e1:rows.drop rows.length=[]:=List.drop_length;have hcol2:=hcol.out;rw[e1] at hcol2;obtain rfl:bb=cf:=by
       rw[<-hcol2]
       cases offs.drop rows.length<;>rfl
      have hw2:IntKind.i64.wrap (su+bb)=su+bb:=IntWalk.i64_in _ (by have:=bdS.out;have:=bdC.out;omega);have zW:wo.heap.size+1<=W.heap.size:=by simpa using HH'.out.1
      have q0:¬((rows.length:Int)<(rows.length:Int)):=by omega
      have F1:Hid (KeepsFrom (wo.heap.size+1) W (wr.setCell ⟨w.heap.size+1+1,0,none⟩ (.int .i64 (su+bb)))):=(KeepsFrom.of_ext xr.out).trans ((KeepsOthers.setCell _ _ _).from _);have F2:Hid (SetKp w.heap.size wo.heap.size W (wr.setCell ⟨w.heap.size+1+1,0,none⟩ (.int .i64 (su+bb)))):=⟨(xr.out.mono (by omega)).setCell (by simp<;>omega) _,(Below.heap_setCell wr ⟨w.heap.size+1+1,0,none⟩ _ wo.heap.size (by simp;omega)).trans (xr.out.block wo.heap.size (by omega))⟩;have F3:Hid (Blk (wr.setCell ⟨w.heap.size+1+1,0,none⟩ (.int .i64 (su+bb))) (w.heap.size+1+1) 3 #[.int .i64 (su+bb)]):=(HO'.out.ext xr.out).set 0 _;have F4:=Hd ((HH'.out.ext xr.out).set (.int .i64 (su+bb)));have F5:Hid (Ext w (wr.setCell ⟨w.heap.size+1+1,0,none⟩ (.int .i64 (su+bb)))):=(Below.trans HB'.out (xr.out.mono HB'.out.size)).setCell (by simp<;>omega) _;have cO2:wr.cell? ⟨w.heap.size+1+1,0,none⟩=some (.int .i64 su):=(HO'.out.ext xr.out).cell 0;have fO2:=(HO'.out.ext xr.out).free 0;clear hcol hcol2 e1 hcf START2
      gi_wp2
      exact⟨F1.out,F2.out,by rw[eN.out];exact F3.out,F4.out,F5.out⟩
   case done =>
    rintro D ys W hD rfl ⟨hO,_,hB⟩ hK;rw[Xx] at hO;have cO:=hO.cell 0
    gi_wp2
    refine⟨by simp,.inl ⟨_,_,rfl,run_takeDeferred hK,?_⟩⟩;refine⟨_,results_tmp rfl _ _ _,?_,hB.trans (belowK_b (w:=w) (Nat.le_refl _) W D _ _ (by simp at hD;omega) hK rfl rfl)⟩;rw[hoffs.out]
    rfl
   case stop =>
    rintro D c pre W _ _ h _;exact h.elim
theorem ZeX {base:Nat}(A:Option Addr)(rc:Nat)(us:List Value)(rows:List (List Int))(m:Nat)(hm:m<18446744073709551616)(h63:∀ x∈Zb m,x<63)(hlen:∀ row∈rows,∀ x∈Zb m,x<row.length)(hbd:∀ row∈rows,∀ x∈row,0<=x/\x<=2147483647)(hr64:rows.length<=64)
  (w:World) (hT:Tab w) (hV:RdV w 22 A us) (hR:RowsO w base us rows) :
  Calls Tryz.prog 189 #[.slice A rows.length rc,ZS m] w fun e W'=>e=.returned (.int .i64 (Z9 rows (Zb m)))/\Ext w W' :=
 callsIn_wide.1 (ZgN A rc us rows m hm h63 hlen hbd hr64 w hT hV hR)
end
section
def ZX (rows:List (List Int))(p:List Int) : Int×Int :=
 match Ye rows.length p with
 | none=>(0,1)
 | some m=>(ZK rows p+(if p.length<rows.length then Z9 (rows.drop p.length) (Zb m) else 0),0)
theorem ZdI {n:Nat} : ∀ {p:List Int} {m q:Nat},SubN n m->Yd m p=some q->∀ c∈p,0<=c/\c<n
 | [],_,_,_,_,c,hc=>by cases hc
 | d::p,m,q,h,e,c,hc=>by
  unfold Yd at e;split at e
  ·rename_i hd
   rcases List.mem_cons.1 hc with rfl | hc
   ·have:=h.2 c.toNat (Yl.2 ⟨by omega,hd.2.2⟩)
    omega
   ·exact ZdI (h.clr _) e c hc
  ·cases e
theorem WG {n:Nat}(h24:n<=24){p:List Int}{q:Nat}(e:Ye n p=some q) : p.length<=n/\(∀ c∈p,0<=c/\c<n)/\SubN n q:=by
 unfold Ye at e;split at e
 ·cases e
 ·exact⟨by omega,ZdI (YM h24) e,Jq (YM h24) e⟩
theorem Qk : ∀ {rows:List (List Int)} {p:List Int} {k:Nat} {row:List Int} {c:Int},rows[k]?=some row->p[k]?=some c->ZK rows (p.take (k+1))=ZK rows (p.take k)+row.getD c.toNat 0
 | r::rows,d::p,0,row,c,h1,h2=>by
  simp at h1 h2;subst h1 h2
  cases rows<;>simp[ZK]
 | r::rows,d::p,k+1,row,c,h1,h2=>by
  simp at h1 h2;simp only[List.take_succ_cons,ZK];rw[Qk h1 h2];omega
 | [],_,_,_,_,h1,_=>by simp at h1
 | _::_,[],_,_,_,_,h2=>by simp at h2
theorem UH {B:Int}(hB:0<=B) : ∀ {rows:List (List Int)} {p:List Int},(∀ row∈rows,∀ c∈p,0<=row.getD c.toNat 0/\row.getD c.toNat 0<=B)->0<=ZK rows p/\ZK rows p<=B*p.length
 | [],p,_=>by
  have:0<=B*(p.length:Int):=Int.mul_nonneg hB (by omega);simp only[ZK];omega
 | _::_,[],_=>by simp[ZK]
 | r::rows,d::p,h=>by
  have h1:=h r (by simp) d (by simp);have h2:=UH hB (rows:=rows) (p:=p) fun row hr c hc=>h row (by simp[hr]) c (by simp[hc])
  simp only[ZK,List.length_cons,Int.natCast_add,Int.natCast_one,Int.mul_add,Int.mul_one];omega
theorem Ql {rows:List (List Int)}{m:Nat}(hr:rows.length<=24)(h:∀ row∈rows,∀ c∈Zb m,0<=row.getD c 0/\row.getD c 0<=2147483647) : -(2147483647*300)<=Z9 rows (Zb m)/\Z9 rows (Zb m)<=2147483647*300:=by
 have h1:∀ o∈Ve rows (Zb m),-2147483647<=o/\o<=2147483647:=fun o ho=>by
  obtain⟨row,hr,rfl⟩:=List.mem_map.1 ho;exact YW (fun c hc=>by have:=h row hr c hc;omega) (by omega) (by omega)
 have h2:=QU (B:=2147483647) h1;have h3:(Ve rows (Zb m)).length=rows.length:=by simp[Ve]
 have h4:=QU (B:=2*2147483647) (l:=(Zb m).map fun c=>Xm c (-1) rows (Ve rows (Zb m))) fun z hz=>by
  obtain⟨c,hc,rfl⟩:=List.mem_map.1 hz;exact Zai (fun row hr=>h row hr c hc) h1 (by omega) (by omega) (by omega)
 have h5:=Wy m;rw[List.length_map] at h4;unfold Z9;omega
theorem RowsO.drop {w:World}{base:Nat}{us:List Value}{rows:List (List Int)}(h:RowsO w base us rows)(k:Nat) : RowsO w base (us.drop k) (rows.drop k):=by
 refine⟨by rw[List.length_drop,List.length_drop,h.1],fun i r hr=>?_⟩;rw[List.getElem?_drop] at hr;obtain⟨A,c,h1,h2⟩:=h.2 (k+i) r hr;exact⟨A,c,by rw[List.getElem?_drop];exact h1,h2⟩
theorem ZeY {base g:Nat}{rows:List (List Int)}(P:Option Addr)(pc:Nat)(p:List Int)(w:World)(hT:Tab w)(H:KernA w base g rows)(ok:RowsOk rows)(hP:RdI w P p)(lp:p.length<=1000000000) :
  Calls Tryz.prog 185 #[.pointer (some ⟨g,0,none⟩),.slice P p.length pc] w fun e w'=>e=.returned (.tuple #[.int .i64 (ZX rows p).1,.int .i64 (ZX rows p).2])/\Ext w w':=by
 have FR:=fun(W:World) (x:Ext w W)=>ZdH P pc p W (H.ext x) ok.n1 ok.n2 (hP.ext x) lp
 have l1:=ok.n1;have l2:=ok.n2;obtain⟨C,cc,us,hB,_,hV,hR⟩:=H;have lus:Hid (us.length=rows.length):=hR.1;have lcc:rows.length<=cc:=by
  rcases hV.cases with⟨_,_,h,_⟩ | ⟨_,_,_,_,_,h,_⟩<;>omega
 obtain⟨r,hr⟩:∃ r,Hid (Ye rows.length p=r):=⟨_,rfl⟩;rw[hr.out] at FR
 cases r with
 | none =>
  have e:ZX rows p=(0,1):=by unfold ZX;rw[hr.out]
  rw[e];unfold Zb1 ZS at FR;replace FR:=Hd FR;go_enter Tryz.func185,Tryz.ntmps185;go_wp2_with (fail);refine(FR.out _ (Ext.rf w)).mono ?_;rintro e w1 ⟨rfl,x1⟩;go_wp2_with (fail);go_ret2;exact⟨rfl,by(repeat (first | assumption | exact Ext.rf _ | apply Ext.drew | apply Ext.drewN | apply Ext.alloc))⟩
 | some m =>
  obtain⟨hpl,hin,hS⟩:=WG l2 hr.out;have e:ZX rows p=(ZK rows p+(if p.length<rows.length then Z9 (rows.drop p.length) (Zb m) else 0),0):=by unfold ZX;rw[hr.out]
  obtain⟨tot,ht⟩:∃ tot,Hid (tot=ZK rows p+(if p.length<rows.length then Z9 (rows.drop p.length) (Zb m) else 0)):=⟨_,rfl⟩;rw[e,<-ht.out];clear e;unfold Zb1 ZS at FR;replace FR:=Hd FR;replace hS:=Hd hS;replace hin:=Hd hin;replace ok:=Hd ok;replace hP:=Hd hP;replace hV:=Hd hV;replace hR:=Hd hR;replace hT:=Hd hT;replace hB:=Hd hB;go_enter Tryz.func185,Tryz.ntmps185;go_wp2_with (fail);refine(FR.out _ (Ext.rf w)).mono ?_;rintro e w1 ⟨rfl,x1⟩;have z1:=x1.size;have START:=Hd (And.intro (x1.alloc (.cells #[.int .u64 m,.int .u64 0] 161)) (show Blk (w1.alloc (.cells #[.int .u64 m,.int .u64 0] 161)) w1.heap.size 161 #[.int .u64 m,.int .u64 0] from .new rfl));obtain⟨sb,hsb⟩:∃ sb,Hid (sb=w1.heap.size):=⟨_,rfl⟩;have zsb:w.heap.size<=sb:=by rw[hsb.out];exact z1
  clear x1;go_wp2_with (fail);rw[<-hsb.out] at START ⊢;go_loopw [8,22] (fun s v wr=>∃ (k:Nat) (su:Int),v=.int .i64 k/\s=.int .i64 su/\k<=p.length/\Hid (ZK rows (p.take k)=su)/\Hid (Ext w wr/\Blk wr sb 161 #[.int .u64 m,.int .u64 0])) (fun _ v _=>p.length-(intOf v).toNat)
  case atStart=>exact⟨0,0,rfl,rfl,by omega,(by cases rows<;>rfl:ZK rows (p.take 0)=0),START⟩
  case round =>
   obtain⟨wo,rfl⟩:=Wq wr;clear START;obtain⟨k,su,rfl,rfl,hk,HS,HH⟩:=hrel;obtain⟨Y,bS⟩:=HH.out;have bdS:Hid (0<=su/\su<=2147483647*24):=by
    have h1:=UH (B:=2147483647) (rows:=rows) (p:=p.take k) (by omega) fun row hr c hc=>by
     have:=hin.out c (List.mem_of_mem_take hc);exact ok.out.get hr (by omega)
    have h2:(p.take k).length<=24:=by rw[List.length_take];omega
    have h:0<=su/\su<=2147483647*24:=by
     rw[<-HS.out];omega
    exact h
   replace Y:=Hd Y;replace bS:=Hd bS;clear HH;have bK:Blk wo g 102 #[.slice C rows.length cc]:=hB.out.ext Y.out;have cK:=bK.c0;clear bK
   by_cases hlt:k<p.length
   ·have hkr:k<rows.length:=by omega
    have er:rows[k]?=some rows[k]:=List.getElem?_eq_getElem hkr;obtain⟨D,d,hu,oD⟩:=hR.out.2 k _ er;have hmem:rows[k]∈rows:=List.getElem_mem hkr;generalize rows[k]=row at *;obtain⟨pb,po,c,rfl,zp,cp,ep,_⟩:=(hP.out.ext Y.out).at hlt;have hc:=hin.out c (List.mem_of_getElem? ep.out);obtain⟨ab,ao,vv,rfl,zv,cv,ev⟩:=(hV.out.read.ext Y.out).at (j:=k) (by rw[lus.out];exact hkr);obtain rfl:.slice D row.length d=vv:=by
     have h:=ev.out;rw[hu] at h;exact Option.some.inj h
    obtain⟨i,rfl⟩:∃ i:Nat,c=(i:Int):=⟨c.toNat,by omega⟩;have lrow:=ok.out.row row hmem;obtain⟨cb,co,y,rfl,zy,cy,ey,_⟩:=(oD.read.ext Y.out).at (k:=i) (by omega);have yb:=ok.out.get hmem (c:=i) (by omega);rw[getD_some ey.out] at yb;have b1:=bdS.out;have hw:IntKind.i64.wrap (su+y)=su+y:=IntWalk.i64_in _ (by omega);have HS2:Hid (ZK rows (p.take (k+1))=su+y):=Hd (by
     rw[Qk er ep.out,HS.out,Int.toNat_natCast,getD_some ey.out])
    have q1:(k:Int)<(rows.length:Int):=by omega
    have q2:(k:Int)<(p.length:Int):=by omega
    have q3:(i:Int)<(row.length:Int):=by omega
    have FIN:Hid (Ext w wo/\Blk wo sb 161 #[.int .u64 m,.int .u64 0]):=⟨Y.out,bS.out⟩;clear ev hu oD er ep ey lrow b1 yb HS hc;go_wp2_with (fail);go_roundw
    case rel=>exact⟨k+1,su+y,by go_num,rfl,by omega,HS2,FIN⟩
    case measure=>simp only[intOf];omega
   ·obtain rfl:k=p.length:=by omega
    have HS2:Hid (ZK rows p=su):=by
     have h:=HS.out;rw[List.take_length] at h;exact h
    clear HS;have cS0:=bS.out.c0;have cS1:=bS.out.c1
    by_cases hlr:p.length<rows.length
    ·have ht2:=ht.out
     rw[if_pos hlr,HS2.out] at ht2;replace ht2:=Hd ht2;have b1:(0:Int)<=(p.length:Int):=by omega
     have b2:(p.length:Int)<=(cc:Int):=by omega
     have b3:(p.length:Int)<=(rows.length:Int):=by omega
     have q0:¬((p.length:Int)<(p.length:Int)):=by omega
     have RE:=fun(W:World) (x:Ext w W) (A:Option Addr) (rc:Nat) (hA:RdV W 22 A (us.drop p.length)) (hRo:RowsO W base (us.drop p.length) (rows.drop p.length))=>ZeX (base:=base) A rc (us.drop p.length) (rows.drop p.length) m hS.out.1 (fun x hx=>by have:=hS.out.2 x hx;omega) (fun row hr x hx=>by rw[ok.out.row row (List.mem_of_mem_drop hr)];exact hS.out.2 x hx) (fun row hr=>ok.out.num row (List.mem_of_mem_drop hr)) (by rw[List.length_drop];omega) W (hT.out.ext x) hA hRo
     have RB:=Ql (rows:=rows.drop p.length) (m:=m) (by rw[List.length_drop];omega) (fun row hr c hc=>ok.out.get (List.mem_of_mem_drop hr) (hS.out.2 c hc));rw[List.length_drop] at RE;unfold ZS at RE;replace RE:=Hd RE;generalize Z9 (rows.drop p.length) (Zb m)=rp at *;have hw2:IntKind.i64.wrap (su+rp)=su+rp:=IntWalk.i64_in _ (by have:=bdS.out;omega);clear RB;go_wp2_with (fail);refine(RE.out wo Y.out _ _ ((hV.out.read.ext Y.out).drop p.length) ((hR.out.ext Y.out).drop p.length)).mono ?_;rintro e w3 ⟨rfl,x3⟩;go_wp2_with (fail);obtain rfl:tot=su+rp:=ht2.out;go_ret2;exact⟨rfl,Y.out.tr x3⟩
    ·have ht2:=ht.out
     rw[if_neg hlr,HS2.out,Int.add_zero] at ht2;have b1:(0:Int)<=(p.length:Int):=by omega
     have b2:(p.length:Int)<=(cc:Int):=by omega
     have b3:(p.length:Int)<=(rows.length:Int):=by omega
     have q0:¬((p.length:Int)<(p.length:Int)):=by omega
     obtain rfl:tot=su:=ht2;go_wp2_with (fail)
     all_goals go_ret2
     all_goals exact⟨rfl,Y.out⟩
def Ys (ks:List Int)(err:Int)(w:World)(e:Ending)(w':World) : Prop:=∃ A c,e=.returned (.tuple #[.slice A ks.length c,.int .i64 err])/\OwI w' w.heap.size A c ks/\Ext w w'
def Apart (R:Nat->Nat->Prop)(a b:List Nat) : Prop:=∀ x∈a,∀ y∈b,R x y
theorem Apart.nil_left {R:Nat->Nat->Prop}(b:List Nat) : Apart R [] b:=fun _ hx=>absurd hx List.not_mem_nil
theorem Apart.perm {R:Nat->Nat->Prop}{a b a' b':List Nat}(h:Apart R a b)(ha:a'.Perm a)(hb:b'.Perm b) : Apart R a' b':=fun x hx y hy=>h x (ha.mem_iff.1 hx) y (hb.mem_iff.1 hy)
theorem Apart.app_left {R:Nat->Nat->Prop}{a b c:List Nat} : Apart R (a++b) c↔Apart R a c/\Apart R b c:=by
 constructor
 ·exact fun h=>⟨fun x hx=>h x (by simp[hx]),fun x hx=>h x (by simp[hx])⟩
 ·rintro ⟨h1,h2⟩ x hx
  rcases List.mem_append.1 hx with hx | hx
  ·exact h1 x hx
  ·exact h2 x hx
theorem Apart.app_right {R:Nat->Nat->Prop}{a b c:List Nat} : Apart R a (b++c)↔Apart R a b/\Apart R a c:=by
 constructor
 ·exact fun h=>⟨fun x hx y hy=>h x hx y (by simp[hy]),fun x hx y hy=>h x hx y (by simp[hy])⟩
 ·rintro ⟨h1,h2⟩ x hx y hy
  rcases List.mem_append.1 hy with hy | hy
  ·exact h1 x hx y hy
  ·exact h2 x hx y hy
theorem Zs {R:Nat->Nat->Prop}{a b:List Nat} : (a++b).Pairwise R↔a.Pairwise R/\b.Pairwise R/\Apart R a b:=List.pairwise_append
abbrev Srt (lt:Nat->Nat->Bool)(l:List Nat) : Prop:=l.Pairwise (strictly lt)
def Is (lt:Nat->Nat->Bool)(l m:List Nat) : Prop:=m.Perm l/\Srt lt m
theorem ZgO {lt:Nat->Nat->Bool}(h:Weak lt){A B:List Nat}{x:Nat}(hs:Srt lt (A++B))(hlt:Apart (· < ·) (A++B) [x])(hB:∀ y∈B,lt x y=true)(hA:∀ y,A.getLast?=some y->lt x y=false) : Srt lt (A++[x]++B):=by
 have hs':=Zs.1 hs;have hAx:Apart (strictly lt) A [x]:=by
  intro y hy z hz;obtain rfl:=List.mem_singleton.1 hz
  cases hl:A.getLast? with
  | none=>simp at hl;subst hl;simp at hy
  | some q =>
   have hq:=hA q hl;have hqz:strictly lt q z:=.inr ⟨hq,hlt q (by simp[List.mem_of_getLast? hl]) z (by simp)⟩;obtain⟨A',rfl⟩:∃ A',A=A'++[q]:=by
    have hne:A≠[]:=by rintro rfl;simp at hl
    refine⟨A.dropLast,?_⟩;rw[List.getLast?_eq_some_getLast hne] at hl;rw[<-Option.some.inj hl];exact(List.dropLast_concat_getLast hne).symm
   rcases List.mem_append.1 hy with hy | hy
   ·exact h.trans ((Zs.1 hs'.1).2.2 y hy q (by simp)) hqz
   ·obtain rfl:=List.mem_singleton.1 hy
    exact hqz
 refine Zs.2 ⟨Zs.2 ⟨hs'.1,List.pairwise_singleton _ _,hAx⟩,hs'.2.1,Apart.app_left.2 ⟨hs'.2.2,?_⟩⟩;intro z hz y hy;obtain rfl:=List.mem_singleton.1 hz;exact .inl (hB y hy)
theorem JX {lt:Nat->Nat->Bool}(h:Weak lt){x y z:Nat}(h1:lt y x=false)(h2:lt y z=true) : lt x z=true:=by
 rcases h.neg y x z h2 with h3 | h3
 ·rw[h1] at h3;cases h3
 ·exact h3
theorem JY {lt:Nat->Nat->Bool}(h:Weak lt){x y z:Nat}(h1:lt x y=true)(h2:lt z y=false) : lt x z=true:=by
 rcases h.neg x z y h1 with h3 | h3
 ·exact h3
 ·rw[h2] at h3;cases h3
theorem strictly.le {lt:Nat->Nat->Bool}(h:Weak lt){x y:Nat}(hs:strictly lt x y) : lt y x=false:=by
 rcases hs with h1 | ⟨h1,_⟩
 ·exact h.asym _ _ h1
 ·exact h1
theorem ZhW {lt:Nat->Nat->Bool}(h:Weak lt){l:List Nat}(hs:Srt lt l){i j a b:Nat}(hij:i<=j)(ha:l[i]?=some a)(hb:l[j]?=some b) : lt b a=false:=by
 rcases Nat.lt_or_eq_of_le hij with hij | rfl
 ·obtain⟨hi,rfl⟩:=List.getElem?_eq_some_iff.1 ha
  obtain⟨hj,rfl⟩:=List.getElem?_eq_some_iff.1 hb;exact(List.pairwise_iff_getElem.1 hs i j hi hj hij).le h
 ·rw[ha] at hb
  obtain rfl:=Option.some.inj hb
  cases hx:lt a a with
  | false=>rfl
  | true=>have:=h.asym _ _ hx;rw[hx] at this;cases this
theorem VP {lt:Nat->Nat->Bool}(h:Weak lt){L1 L2 R1 R2:List Nat}(hl:Srt lt (L1++L2))(hr:Srt lt (R1++R2))(hlt:Apart (· < ·) (L1++L2) (R1++R2))
  (h1:∀ x y,L1.getLast?=some x->R2.head?=some y->lt y x=false) (h2:∀ x y,R1.getLast?=some x->L2.head?=some y->lt x y=true) :
  Apart (strictly lt) (L1++R1) (L2++R2):=by
 have hl':=Zs.1 hl;have hr':=Zs.1 hr;have last_le:∀ {l:List Nat},Srt lt l->∀ {x q:Nat},x∈l->l.getLast?=some q->lt q x=false:=by
  intro l hs x q hx hq;obtain⟨i,hi,rfl⟩:=List.mem_iff_getElem.1 hx;rw[List.getLast?_eq_getElem?] at hq;exact ZhW h hs (i:=i) (j:=l.length-1) (by omega) (List.getElem?_eq_getElem hi) hq
 have head_le:∀ {l:List Nat},Srt lt l->∀ {x q:Nat},x∈l->l.head?=some q->lt x q=false:=by
  intro l hs x q hx hq;obtain⟨i,hi,rfl⟩:=List.mem_iff_getElem.1 hx;rw[List.head?_eq_getElem?] at hq;exact ZhW h hs (i:=0) (j:=i) (by omega) hq (List.getElem?_eq_getElem hi)
 have ex_last:∀ {l:List Nat} {x:Nat},x∈l->∃ q,l.getLast?=some q:=by
  intro l x hx
  cases hq:l.getLast? with
  | none=>simp at hq;subst hq;simp at hx
  | some q=>exact⟨q,rfl⟩
 have ex_head:∀ {l:List Nat} {x:Nat},x∈l->∃ q,l.head?=some q:=by
  intro l x hx
  cases l with
  | nil=>simp at hx
  | cons a l=>exact⟨a,rfl⟩
 refine Apart.app_left.2 ⟨Apart.app_right.2 ⟨hl'.2.2,?_⟩,Apart.app_right.2 ⟨?_,hr'.2.2⟩⟩
 ·intro x hx y hy
  obtain⟨p,hp⟩:=ex_last hx;obtain⟨q,hq⟩:=ex_head hy;refine .inr ⟨?_,hlt x (by simp[hx]) y (by simp[hy])⟩;have a1:=last_le hl'.1 hx hp;have a2:=head_le hr'.2.1 hy hq;have a3:=h1 p q hp hq
  cases hyx:lt y x with
  | false=>rfl
  | true =>
   have b1:=JY h hyx a1;have b2:=JX h a2 b1;rw[a3] at b2;cases b2
 ·intro x hx y hy
  obtain⟨p,hp⟩:=ex_last hx;obtain⟨q,hq⟩:=ex_head hy;have a1:=last_le hr'.1 hx hp;have a2:=head_le hl'.2.1 hy hq;have a3:=h2 p q hp hq;exact .inl (JY h (JX h a1 a3) a2)
section
variable {α:Type}
theorem QV (P Q:List α)(y x:α) : ((P++(y::(x::Q))).set (P.length+1) y).set P.length x=P++(x::(y::Q)):=by
 rw[List.set_append_right _ _ (by omega),show P.length+1-P.length=1 by omega,List.set_append_right _ _ (by omega),show P.length-P.length=0 by omega]
 rfl
theorem Zb2 (P Q:List α)(y x:α) : ((P++(y::(x::Q))).set P.length x).set (P.length+1) y=P++(x::(y::Q)):=by
 rw[List.set_append_right _ _ (by omega),show P.length-P.length=0 by omega,List.set_append_right _ _ (by omega),show P.length+1-P.length=1 by omega]
 rfl
theorem QW (P Q:List α)(y x:α) : (P++(y::(x::Q)))[P.length]?=some y/\(P++(y::(x::Q)))[P.length+1]?=some x:=by
 constructor
 ·rw[List.getElem?_append_right (by omega),show P.length-P.length=0 by omega];rfl
 ·rw[List.getElem?_append_right (by omega),show P.length+1-P.length=1 by omega];rfl
def SwR (l l':List α)(a b i:Nat) : Prop:=l'.length=l.length/\∀ k,k<l.length->l'[k]?=if a<=k/\k<a+i then l[k-a+b]? else if b<=k/\k<b+i then l[k-b+a]? else l[k]?
theorem SwR.start (l:List α)(a b:Nat) : SwR l l a b 0:=⟨rfl,fun k hk=>by rw[if_neg (by omega),if_neg (by omega)]⟩
theorem SwR.step {l l':List α}{a b n i:Nat}{x y:α}(h:SwR l l' a b i)(hab:a+n<=b)(hb:b+n<=l.length)(hi:i<n)(hx:l'[a+i]?=some x)(hy:l'[b+i]?=some y) : SwR l ((l'.set (a+i) y).set (b+i) x) a b (i+1):=by
 obtain⟨h1,h2⟩:=h;have ea:=h2 (a+i) (by omega);have eb:=h2 (b+i) (by omega);rw[if_neg (by omega),if_neg (by omega),hx] at ea;rw[if_neg (by omega),if_neg (by omega),hy] at eb;refine⟨by simpa using h1,fun k hk=>?_⟩
 by_cases hkb:b+i=k
 ·subst hkb
  rw[List.getElem?_set_self (by rw[List.length_set];omega),if_neg (by omega),if_pos (by omega),show b+i-b+a=a+i by omega,<-ea]
 ·rw[List.getElem?_set_ne hkb]
  by_cases hka:a+i=k
  ·subst hka
   rw[List.getElem?_set_self (by omega),if_pos (by omega),show a+i-a+b=b+i by omega,<-eb]
  ·rw[List.getElem?_set_ne hka,h2 k hk]
   by_cases c1:a<=k/\k<a+i
   ·rw[if_pos c1,if_pos (by omega)]
   ·rw[if_neg c1,if_neg (show ¬(a<=k/\k<a+(i+1)) by omega)]
    by_cases c2:b<=k/\k<b+i
    ·rw[if_pos c2,if_pos (by omega)]
    ·rw[if_neg c2,if_neg (by omega)]
theorem SwR.done {P A M B Q l':List α}{a b n:Nat}(h:SwR (P++(A++(M++(B++Q)))) l' a b n)(ha:P.length=a)(hA:A.length=n)(hB:B.length=n)(hb:a+n+M.length=b) : l'=P++(B++(M++(A++Q))):=by
 obtain⟨h1,h2⟩:=h;subst ha hA hb;apply List.ext_getElem?;intro k
 by_cases hk:k<(P++(A++(M++(B++Q)))).length
 ·rw[h2 k hk]
  simp only[List.length_append] at hk
  by_cases c0:k<P.length
  ·rw[if_neg (by omega),if_neg (by omega),List.getElem?_append_left c0,List.getElem?_append_left c0]
  ·rw[List.getElem?_append_right (l₂:=B++(M++(A++Q))) (by omega)]
   by_cases c1:k<P.length+A.length
   ·rw[if_pos (by omega),List.getElem?_append_left (l₁:=B) (by omega),List.getElem?_append_right (by omega),List.getElem?_append_right (by omega),List.getElem?_append_right (by omega),List.getElem?_append_left (by omega)]
    congr 1;omega
   ·rw[if_neg (by omega),List.getElem?_append_right (l₁:=B) (by omega)]
    by_cases c2:k<P.length+A.length+M.length
    ·rw[if_neg (by omega),List.getElem?_append_right (by omega),List.getElem?_append_right (by omega),List.getElem?_append_left (by omega),List.getElem?_append_left (by omega)]
     congr 1;omega
    ·rw[List.getElem?_append_right (l₁:=M) (l₂:=A++Q) (by omega)]
     by_cases c3:k<P.length+A.length+M.length+A.length
     ·rw[if_pos (by omega),List.getElem?_append_right (by omega),List.getElem?_append_left (by omega),List.getElem?_append_left (by omega)]
      congr 1;omega
     ·rw[if_neg (by omega),List.getElem?_append_right (by omega),List.getElem?_append_right (by omega),List.getElem?_append_right (by omega),List.getElem?_append_right (by omega),List.getElem?_append_right (by omega)]
      congr 1;omega
 ·have hl:l'.length<=k:=by omega
  rw[List.getElem?_eq_none hl,List.getElem?_eq_none (by simp only[List.length_append] at hk ⊢;omega)]
theorem ZdJ (l:List α)(n:Nat)(h:n<=l.length) : ∃ a b,l=a++b/\a.length=n:=⟨l.take n,l.drop n,(List.take_append_drop n l).symm,by rw[List.length_take];omega⟩
theorem Wj (l:List α)(n:Nat)(h:n<=l.length) : ∃ a b,l=a++b/\b.length=n:=⟨l.take (l.length-n),l.drop (l.length-n),(List.take_append_drop _ l).symm,by rw[List.length_drop];omega⟩
theorem ZjF (P Q:List α)(k j:Nat)(h:P.length+j=k) : (P++Q)[k]?=Q[j]?:=by
 rw[List.getElem?_append_right (by omega)];congr 1;omega
end
theorem QX {lt:Nat->Nat->Bool}(h:Weak lt){A B:List Nat}{x:Nat}(hs:Srt lt (A++B))(hlt:Apart (· < ·) (A++B) [x])(hB:∀ y∈B,lt x y=true)(hA:∀ y,A.getLast?=some y->lt x y=false) : Srt lt (A++(x::B)):=by
 have:=ZgO h hs hlt hB hA
 rwa [List.append_assoc] at this
theorem ZdK {lt:Nat->Nat->Bool}(h:Weak lt){x:Nat}{R1 R2:List Nat}(hr:Srt lt (R1++R2))(hlt:Apart (· < ·) [x] (R1++R2))(h1:∀ y,R1.getLast?=some y->lt y x=true)(h2:∀ y,R2.head?=some y->lt y x=false) : Srt lt (R1++(x::R2)):=by
 have hx:Srt lt [x]:=List.pairwise_singleton _ _;have a1:=VP h (L1:=[]) (L2:=[x]) (R1:=R1) (R2:=R2) hx hr hlt (by simp) (by
  intro p q hp hq;simp only[List.head?_cons,Option.some.injEq] at hq;subst hq;exact h1 p hp)
 have a2:=VP h (L1:=[x]) (L2:=[]) (R1:=[]) (R2:=R2) hx (Zs.1 hr).2.1 (Apart.app_right.1 hlt).2 (by
  intro p q hp hq;simp only[List.getLast?_singleton,Option.some.injEq] at hp;subst hp;exact h2 q hq) (by simp)
 refine Zs.2 ⟨(Zs.1 hr).1,List.pairwise_cons.2 ⟨fun y hy=>a2 x (by simp) y (by simpa using hy),(Zs.1 hr).2.1⟩,?_⟩;intro p hp q hq;exact a1 p (by simpa using hp) q (by simpa using hq)
theorem Zb3 {lt:Nat->Nat->Bool}(h:Weak lt){y:Nat}{L1 L2:List Nat}(hl:Srt lt (L1++L2))(hlt:Apart (· < ·) (L1++L2) [y])(h1:∀ x,L1.getLast?=some x->lt y x=false)(h2:∀ x,L2.head?=some x->lt y x=true) : Srt lt (L1++(y::L2)):=by
 have hy:Srt lt [y]:=List.pairwise_singleton _ _;have a1:=VP h (L1:=L1) (L2:=L2) (R1:=[y]) (R2:=[]) hl hy hlt (by simp) (by
  intro p q hp hq;simp only[List.getLast?_singleton,Option.some.injEq] at hp;subst hp;exact h2 q hq)
 have a2:=VP h (L1:=L1) (L2:=[]) (R1:=[]) (R2:=[y]) (by simpa using (Zs.1 hl).1) hy (by simpa using (Apart.app_left.1 hlt).1) (by
  intro p q hp hq;simp only[List.head?_cons,Option.some.injEq] at hq;subst hq;exact h1 p hp) (by simp)
 refine Zs.2 ⟨(Zs.1 hl).1,List.pairwise_cons.2 ⟨fun x hx=>a1 y (by simp) x (by simpa using hx),(Zs.1 hl).2.1⟩,?_⟩;intro p hp q hq;rcases List.mem_cons.1 hq with rfl | hq
 ·exact a2 p (by simpa using hp) q (by simp)
 ·exact(Zs.1 hl).2.2 p hp q hq
theorem Is.rf {lt:Nat->Nat->Bool}{l:List Nat}(h:Srt lt l) : Is lt l l:=⟨List.Perm.refl _,h⟩
theorem Is.join {lt:Nat->Nat->Bool}{l1 l2 m1 m2:List Nat}(h1:Is lt l1 m1)(h2:Is lt l2 m2)(ha:Apart (strictly lt) l1 l2) : Is lt (l1++l2) (m1++m2) :=
 ⟨h1.1.append h2.1,Zs.2 ⟨h1.2,h2.2,ha.perm h1.1 h2.1⟩⟩
theorem Is.perm {lt:Nat->Nat->Bool}{l l' m:List Nat}(h:Is lt l m)(hp:l.Perm l') : Is lt l' m:=⟨h.1.trans hp,h.2⟩
theorem Is.len {lt:Nat->Nat->Bool}{l m:List Nat}(h:Is lt l m) : m.length=l.length:=h.1.length_eq
theorem Is.mem {lt:Nat->Nat->Bool}{l m:List Nat}(h:Is lt l m){x:Nat} : x∈m↔x∈l:=h.1.mem_iff
theorem Is.one {lt:Nat->Nat->Bool}(h:Weak lt){l m m':List Nat}(h1:Is lt l m)(h2:Is lt l m') : m=m' :=
 List.Perm.eq_of_pairwise (le:=strictly lt) (fun _ _ _ _ h3 h4=>absurd h4 (h.asymm h3)) h1.2 h2.2 (h1.1.trans h2.1.symm)
theorem Zb4 (A B C D:List Nat) : ((A++C)++(B++D)).Perm ((A++B)++(C++D)):=by
 simp only[List.append_assoc];refine List.Perm.append_left A ?_;rw[<-List.append_assoc,<-List.append_assoc];exact List.Perm.append_right D List.perm_append_comm
def Bls (lt:Nat->Nat->Bool)(bs:Nat) : List (List Nat)->Prop
 | []=>True
 | m::ms=>Srt lt m/\0<m.length/\m.length<=bs/\(ms≠[]->m.length=bs)/\Apart (· < ·) m ms.flatten/\Bls lt bs ms
theorem Bls.cons {lt:Nat->Nat->Bool}{bs:Nat}{m:List Nat}{ms:List (List Nat)}(h:Bls lt bs (m::ms)) : Srt lt m/\0<m.length/\m.length<=bs/\(ms≠[]->m.length=bs)/\Apart (· < ·) m ms.flatten/\Bls lt bs ms:=h
theorem Bls.snoc {lt:Nat->Nat->Bool}{bs:Nat}{m:List Nat}(hm:Srt lt m)(h0:0<m.length)(hb:m.length<=bs) : ∀ {ms:List (List Nat)},Bls lt bs ms->(∀ x∈ms,x.length=bs)->Apart (· < ·) ms.flatten m->Bls lt bs (ms++[m])
 | [],_,_,_=>⟨hm,h0,hb,fun h=>absurd rfl h,by simp[Apart],trivial⟩
 | x::ms,h,hl,ha=>by
  obtain⟨h1,h2,h3,_,h5,h6⟩:=h.cons;have ha':=Apart.app_left.1 (by simpa using ha:Apart (· < ·) (x++ms.flatten) m);refine⟨h1,h2,h3,fun _=>hl x (by simp),?_,Bls.snoc hm h0 hb h6 (fun y hy=>hl y (by simp[hy])) ha'.2⟩;show Apart (· < ·) x (ms++[m]).flatten;rw[List.flatten_append];exact Apart.app_right.2 ⟨h5,by simpa using ha'.1⟩
theorem Bls.tail {lt:Nat->Nat->Bool}{bs:Nat}{ms:List (List Nat)}(h:Bls lt bs ms)(hl:ms.flatten.length<2*bs) : ms=[]\/(∃ L,ms=[L]/\Srt lt L/\0<L.length/\L.length<=bs)\/∃ L R,ms=[L,R]/\Srt lt L/\Srt lt R/\L.length=bs/\0<R.length/\Apart (· < ·) L R:=by
 match ms,h with
 | [],_=>exact .inl rfl
 | [L],h=>exact .inr (.inl ⟨L,rfl,h.1,h.2.1,h.2.2.1⟩)
 | [L,R],h=>exact .inr (.inr ⟨L,R,rfl,h.1,h.cons.2.2.2.2.2.1,h.cons.2.2.2.1 (by simp),h.cons.2.2.2.2.2.2.1,by simpa using h.cons.2.2.2.2.1⟩)
 | L::R::S::ms,h =>
  exfalso
  have e1:=h.cons.2.2.2.1 (by simp);have e2:=h.cons.2.2.2.2.2.2.2.2.1 (by simp);simp only[List.flatten_cons,List.length_append] at hl;omega
theorem Bls.two {lt:Nat->Nat->Bool}{bs:Nat}{ms:List (List Nat)}(h0:0<bs)(h:Bls lt bs ms)(hl:2*bs<=ms.flatten.length) : ∃ L R ms',ms=L::R::ms'/\Srt lt L/\Srt lt R/\L.length=bs/\R.length=bs/\Apart (· < ·) L R/\Apart (· < ·) (L++R) ms'.flatten/\Bls lt bs ms':=by
 match ms,h with
 | [],_=>simp at hl;omega
 | [L],h =>
  exfalso
  have:=h.cons.2.2.1;simp at hl;omega
 | L::R::ms',h =>
  obtain⟨a1,a2,a3,a4,a5,b1,b2,b3,b4,b5,b6⟩:=h;have a5':=Apart.app_right.1 (by simpa using a5:Apart (· < ·) L (R++ms'.flatten));refine⟨L,R,ms',rfl,a1,b1,a4 (by simp),?_,a5'.1,Apart.app_left.2 ⟨a5'.2,b5⟩,b6⟩
  cases ms' with
  | nil =>
   have:=a4 (by simp);simp only[List.flatten_cons,List.length_append,List.flatten_nil,List.length_nil] at hl;omega
  | cons x y=>exact b4 (by simp)
theorem Bls.one {lt:Nat->Nat->Bool}{bs:Nat}{ms:List (List Nat)}(h:Bls lt bs ms)(hl:ms.flatten.length<=bs) : Srt lt ms.flatten:=by
 match ms,h with
 | [],_=>exact List.Pairwise.nil
 | [L],h=>simpa using h.1
 | L::R::ms',h =>
  exfalso
  have e1:=h.cons.2.2.2.1 (by simp);have e2:=h.cons.2.2.2.2.2.2.1;simp only[List.flatten_cons,List.length_append] at hl;omega
theorem Zb5 {α:Type}{l:List α}{t:Nat}{y:α}(h:l[t]?=some y) : (l.take (t+1)).getLast?=some y:=by
 rw[List.take_add_one,h];simp
theorem Zb6 {α:Type}{l:List α}{t:Nat}{y:α}(h:l[t]?=some y) : (l.drop t).head?=some y:=by
 rw[List.head?_drop,h]
theorem QY {α:Type}{l:List α}{k:Nat}{x:α}(hk:k<=l.length)(h:(l.take k).getLast?=some x) : 0<k/\l[k-1]?=some x:=by
 rw[List.getLast?_eq_getElem?,List.length_take,Nat.min_eq_left hk,List.getElem?_take] at h;split at h
 ·exact⟨by omega,h⟩
 ·cases h
def SymR (lt:Nat->Nat->Bool)(L R:List Nat)(a mid lo hi s r:Nat) : Prop :=
 lo<=s/\s<=r/\r<=hi/\(∀ x y,lo<s->L[s-1-a]?=some x->R[mid-s]?=some y->lt y x=false)/\(∀ x y,r<hi->L[r-a]?=some x->R[mid-1-r]?=some y->lt y x=true)
theorem SymR.start (lt:Nat->Nat->Bool)(L R:List Nat)(a mid:Nat){lo hi:Nat}(h:lo<=hi) : SymR lt L R a mid lo hi lo hi :=
 ⟨Nat.le_refl _,h,Nat.le_refl _,fun _ _ h=>absurd h (Nat.lt_irrefl _),fun _ _ h=>absurd h (Nat.lt_irrefl _)⟩
theorem SymR.left {lt:Nat->Nat->Bool}{L R:List Nat}{a mid lo hi s r c x y:Nat}(h:SymR lt L R a mid lo hi s r)(h1:s<=c)(h2:c<r)(hx:L[c-a]?=some x)(hy:R[mid-1-c]?=some y)(hl:lt y x=false) : SymR lt L R a mid lo hi (c+1) r:=by
 obtain⟨g1,g2,g3,_,g5⟩:=h;refine⟨by omega,by omega,g3,fun x' y' _ hx' hy'=>?_,g5⟩;rw[show c+1-1-a=c-a by omega,hx] at hx';rw[show mid-(c+1)=mid-1-c by omega,hy] at hy';obtain rfl:=Option.some.inj hx';obtain rfl:=Option.some.inj hy';exact hl
theorem SymR.right {lt:Nat->Nat->Bool}{L R:List Nat}{a mid lo hi s r c x y:Nat}(h:SymR lt L R a mid lo hi s r)(h1:s<=c)(h2:c<r)(hx:L[c-a]?=some x)(hy:R[mid-1-c]?=some y)(hl:lt y x=true) : SymR lt L R a mid lo hi s c:=by
 obtain⟨g1,g2,g3,g4,_⟩:=h;refine⟨g1,h1,by omega,g4,fun x' y' _ hx' hy'=>?_⟩;rw[hx] at hx';rw[hy] at hy';obtain rfl:=Option.some.inj hx';obtain rfl:=Option.some.inj hy';exact hl
theorem Zak {lt:Nat->Nat->Bool}(h:Weak lt){L R:List Nat}{a m b mid lo hi s:Nat}(hl:Srt lt L)(hr:Srt lt R)(hlt:Apart (· < ·) L R)(hL:a+L.length=m)(hR:m+R.length=b)(hs:SymR lt L R a mid lo hi s s)
  (hc:(m<=mid/\lo=a/\hi=m)\/(mid<m/\lo+b=mid+m/\hi=mid)) (hmid:2*mid<=a+b) (ha:a<=lo):Apart (strictly lt) (L.take (s-a)++R.take (mid-s)) (L.drop (s-a)++R.drop (mid-s)):=by
 obtain⟨g1,_,g3,g4,g5⟩:=hs;refine VP h (by rwa [List.take_append_drop]) (by rwa [List.take_append_drop]) (by rwa [List.take_append_drop,List.take_append_drop]) ?_ ?_
 ·intro x y hx hy
  obtain⟨k0,hx⟩:=QY (by omega) hx;rw[List.head?_drop] at hy;have hlen:=(List.getElem?_eq_some_iff.1 hy).1;exact g4 x y (by omega) (by rw[show s-1-a=s-a-1 by omega];exact hx) hy
 ·intro x y hx hy
  obtain⟨k0,hx⟩:=QY (by omega) hx;rw[List.head?_drop] at hy;have hlen:=(List.getElem?_eq_some_iff.1 hy).1;exact g5 y x (by omega) hy (by rw[show mid-1-s=mid-s-1 by omega];exact hx)
theorem Apart.rise {l1 l2:List Nat}(h:(l1++l2).Pairwise (· < ·)) : Apart (· < ·) l1 l2:=(Zs.1 h).2.2
end
section
def Zbz (lt:Nat->Nat->Bool)(a b:Nat) : Bool:=lt a b || (!lt b a&&decide (a<b))
theorem ZhX {lt:Nat->Nat->Bool}{a b:Nat} : Zbz lt a b=true↔strictly lt a b:=by
 unfold Zbz strictly
 cases lt a b<;>cases lt b a<;>simp
def Zy (lt:Nat->Nat->Bool)(l:List Nat)(a:Nat) : Nat:=l.countP fun b=>Zbz lt b a
theorem UI (lt:Nat->Nat->Bool)(l:List Nat)(a b:Nat) : Zy lt (l++[b]) a=Zy lt l a+if Zbz lt b a=true then 1 else 0:=by
 unfold Zy;rw[List.countP_append];simp[List.countP_cons]
theorem Js (lt:Nat->Nat->Bool)(l:List Nat)(a:Nat) : Zy lt l a<=l.length:=List.countP_le_length
def Yp (f:Nat->Nat)(l:List Nat) : Nat->List Int
 | 0=>List.replicate l.length 0
 | k+1=>(Yp f l k).set (f (l.getD k 0)) ((l.getD k 0:Nat):Int)
theorem Y1 (f:Nat->Nat)(l:List Nat) : ∀ m,(Yp f l m).length=l.length
 | 0=>by simp[Yp]
 | m+1=>by simp[Yp,Y1 f l m]
theorem Zb7 {f:Nat->Nat}{l:List Nat}(hf:∀ a b,a∈l->b∈l->f a=f b->a=b)(hn:∀ a∈l,f a<l.length) : ∀ m,m<=l.length->∀ i a,i<m->l[i]?=some a->(Yp f l m)[f a]?=some (a:Int)
 | 0,_,i,a,h,_=>by omega
 | m+1,hm,i,a,h,ha=>by
  unfold Yp;have hmem:=List.mem_of_getElem? ha;have hk:l[m]?=some l[m]:=List.getElem?_eq_getElem (by omega);rw[List.getD_eq_getElem?_getD,hk,Option.getD_some]
  by_cases e:f l[m]=f a
  ·have e':=hf _ _ (List.getElem_mem _) hmem e
   rw[e,List.getElem?_set_self (by rw[Y1];exact hn a hmem),e']
  ·rw[List.getElem?_set_ne e]
   refine Zb7 hf hn m (by omega) i a ?_ ha;rcases Nat.lt_or_eq_of_le (Nat.le_of_lt_succ h) with h' | rfl
   ·exact h'
   ·rw[hk] at ha
    exact absurd (by rw[Option.some.inj ha]) e
def Yh (lt:Nat->Nat->Bool)(l:List Nat) : List Nat:=ZQ lt l.length l
theorem Xa {lt:Nat->Nat->Bool}(h:Weak lt){l:List Nat}(hr:l.Pairwise (· < ·)) : Is lt l (Yh lt l):=⟨Yb _ _ _,Wp h _ _ (by omega) hr⟩
theorem ZaW {lt:Nat->Nat->Bool}(h:Weak lt){l m:List Nat}(hr:l.Pairwise (· < ·))(hm:Is lt l m) : m=Yh lt l:=hm.one h (Xa h hr)
theorem Yz (lt:Nat->Nat->Bool)(l:List Nat) : (Yh lt l).length=l.length:=(Yb _ _ _).length_eq
theorem VQ {lt:Nat->Nat->Bool}(h:Weak lt){l:List Nat}(hr:l.Pairwise (· < ·)){k a:Nat}(ha:(Yh lt l)[k]?=some a) : Zy lt l a=k:=by
 have hs:=Xa h hr;unfold Zy;rw[<-hs.1.countP_eq];exact Zau (R:=strictly lt) (fun x y h1 h2=>h.asymm h1 h2) h.irrefl hs.2 ha fun b=>ZhX
theorem Qm {lt:Nat->Nat->Bool}(h:Weak lt){l:List Nat}(hr:l.Pairwise (· < ·)) : Yp (Zy lt l) l l.length=(Yh lt l).map (fun n:Nat=>(n:Int)):=by
 have at':∀ a∈l,∃ k,(Yh lt l)[k]?=some a/\Zy lt l a=k/\k<l.length:=fun a ha=>by
  obtain⟨k,hk,e⟩:=List.mem_iff_getElem.1 ((Xa h hr).mem.2 ha);have e':(Yh lt l)[k]?=some a:=by rw[List.getElem?_eq_getElem hk,e]
  exact⟨k,e',VQ h hr e',by rwa [Yz] at hk⟩
 have inj:∀ a b,a∈l->b∈l->Zy lt l a=Zy lt l b->a=b:=fun a b ha hb e=>by
  obtain⟨k,h1,h2,_⟩:=at' a ha;obtain⟨j,h3,h4,_⟩:=at' b hb;have:k=j:=by omega
  subst this;rw[h1] at h3;exact Option.some.inj h3
 refine List.ext_getElem? fun k=>?_
 by_cases hk:k<l.length
 ·have hk':k<(Yh lt l).length:=by rw[Yz];exact hk
  have e:(Yh lt l)[k]?=some (Yh lt l)[k]:=List.getElem?_eq_getElem hk';have h1:=VQ h hr e;have hm:(Yh lt l)[k]∈l:=(Xa h hr).mem.1 (List.mem_of_getElem? e);obtain⟨i,hi,ei⟩:=List.mem_iff_getElem.1 hm;have h2:=Zb7 (f:=Zy lt l) inj (fun a ha=>by obtain⟨_,_,_,_⟩:=at' a ha;omega) l.length (Nat.le_refl _) i _ hi (by rw[List.getElem?_eq_getElem hi,ei]);simp only[h1] at h2;rw[h2,List.getElem?_map,e]
  rfl
 ·rw[List.getElem?_eq_none (by rw[Y1];omega),List.getElem?_eq_none (by rw[List.length_map,Yz];omega)]
end
end Go.Proofs.YtnbcmiaaleambaaGreatDoor
