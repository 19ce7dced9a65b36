/- packed and squeezed by programs (see wip/) -/
import Derived.Test.YtmojhhlcocjoaaaGreatDoorCheckBentP7
set_option maxRecDepth 100000
set_option maxHeartbeats 16000000
set_option linter.unusedVariables false
set_option linter.unusedSimpArgs false
namespace Go.Proofs.YtmojhhlcocjoaaaGreatDoor
open Go.RowKit Go.ChangeShapes Go.WideShapes Go.ChangeAt Go.Deep
theorem Ub {i:InstP}{g:Nat}{W0:World}{px:Value}{cost:Int}(H:PV i g W0 px 297 298 296)(f:Nat)(ihk:Zb8 i g W0 161 px cost f) : Qp i g W0 161 px cost (f+1):=by
 intro W P c p r hB hblk hP hne ho hf hr
 cases r with
 | nil =>
  have t2:=hblk.c2;have e:ZK (Zi i) (Zo i) (Zk i) cost (f+1) p []=(6,[]):=rfl;rw[e];go_enter Tryz.func58,Tryz.ntmps58;go_wp2_with (fail);go_ret;exact⟨rfl,hblk,Mod.rf _⟩
 | cons x r =>
  have t2:=hblk.c2;have f2:=hblk.free 2;have EX:(⟨(x::r).toArray⟩:ByteArray).extract 1 (r.length+1)=⟨r.toArray⟩:=by
   apply ByteArray.ext;rw[ByteArray.data_extract];simp
  have hsz:0<(⟨(x::r).toArray⟩:ByteArray).size:=by simp[ByteArray.size]
  have E0:(⟨(x::r).toArray⟩:ByteArray)[0]'hsz=x:=rfl;have hB1:=Hd (hblk.set 2 (.string ⟨r.toArray⟩));have MM:Hid (Mod (fun k=>k=g) W (W.setCell ⟨g,2,none⟩ (.string ⟨r.toArray⟩))):=Mod.set (S:=fun k=>k=g) (Mod.rf W) (p:=⟨g,2,none⟩) (.inl rfl) _;have gl:=hblk.lt;obtain⟨RES,hRES⟩:∃ RES,Hid (ZK (Zi i) (Zo i) (Zk i) cost (f+1) p (x::r)=RES):=⟨_,rfl⟩;rw[hRES.out];have RE:=hRES.out;rw[Vw] at RE;replace RE:=Hd RE;have hBl:=Hd (WJ hB MM.out (by omega));have hPl:=Hd (hP.modW MM.out hne);have mD:∀ (x:Value) (u:World),(callMethod (.iface 161 x) "kurgan/check.depth" #[]).run Tryz.prog u=.ok (.enter 297 #[x]) u:=fun _ _=>by kernel_rfl
  have mB:∀ (x:Value) (u:World),(method 420 161 x "kurgan/check.bound").run Tryz.prog u=.ok (296,x) u:=fun _ _=>by kernel_rfl
  have hlen:=(by omega:p.length<=Zi i);have hr':r.length<=1000:=by simp at hr;omega
  clear hRES;go_enter Tryz.func58,Tryz.ntmps58;go_upto_region 5 with(fail);generalize W.setCell ⟨g,2,none⟩ (.string ⟨r.toArray⟩)=W1 at *;have B1:=Hd (show Blk W1 g 101 #[.iface 161 px,.int .i64 cost,.string ⟨r.toArray⟩] from hB1.out);have t0:=B1.out.c0;clear t2 f2 EX E0 hB1 hsz hblk;go_wp2_with (fail);refine(H.cD _ (hBl.out.trans (Below.refl _ _))).mono ?_;rintro e W2 ⟨rfl,x2⟩;have B2:=Hd (B1.out.ext x2);have M2:=Hd (MM.out.ext x2);have P2:=Hd (hPl.out.ext x2);have hB2:=Hd (hBl.out.trans (Below.mono x2 (by have:=MM.out.size;omega)));clear x2 t0 B1 MM hPl hBl;have gl2:=B2.out.lt;have t0:=B2.out.c0;have t1:=B2.out.c1;have CB:=Hd (fun(W:World) (y:Ext W2 W)=>H.cB W P c p (hB2.out.trans (Below.mono y (by omega))) (P2.out.ext y) ho)
  by_cases hw:p.length=Zi i
  ·have e1:((p.length:Int)==(Zi i:Int))=true:=by simp[hw]
   replace hw:=Hd hw
   by_cases h98:x=98
   ·subst h98
    obtain rfl:RES=(8,r):=by have h:=RE.out;rw[if_pos rfl,if_pos hw.out] at h;exact h.symm
    go_wp2_with (fail);go_ret;exact⟨rfl,B2.out,M2.out⟩
   ·have n98:((x.toNat:Int)==98)=false:=by
     have:x.toNat≠98:=fun h=>h98 (UInt8.toNat_inj.1 h)
     simp;omega
    by_cases h108:x=108
    ·subst h108
     have RB:Hid ((if Zk i p<cost then((13,r):Int×Wd) else(0,r))=RES):=Hd (by
      have h:=RE.out;rw[if_neg h98,if_pos rfl,if_pos hw.out] at h;exact h)
     by_cases hb:Zk i p<cost
     ·obtain rfl:RES=(13,r):=by have h:=RB.out;rw[if_pos hb] at h;exact h.symm
      go_wp2_with (fail);go_region_held3 (fun w'=>w'.cell? ⟨g,0,none⟩=some (.iface 161 px)/\w'.cell? ⟨g,1,none⟩=some (.int .i64 cost)) (go_keep)
       (first | (go_at_call 296;refine(CB.out _ (by(repeat (first | assumption | exact Ext.rf _ | apply Ext.drew | apply Ext.drewN | apply Ext.alloc)))).mono ?_;rintro e W3 ⟨rfl,x3⟩;have y3:=Ext.tr (a:=W2) (by(repeat (first | assumption | exact Ext.rf _ | apply Ext.drew | apply Ext.drewN | apply Ext.alloc))) x3;have s1:=Zc y3 gl2 t0;have s2:=Zc y3 gl2 t1))
      all_goals go_wp2_with (fail)
      all_goals go_ret
      all_goals exact⟨rfl,B2.out.ext y3,M2.out.ext y3⟩
     ·obtain rfl:RES=(0,r):=by have h:=RB.out;rw[if_neg hb] at h;exact h.symm
      go_wp2_with (fail);go_region_held3 (fun w'=>w'.cell? ⟨g,0,none⟩=some (.iface 161 px)/\w'.cell? ⟨g,1,none⟩=some (.int .i64 cost)) (go_keep)
       (first | (go_at_call 296;refine(CB.out _ (by(repeat (first | assumption | exact Ext.rf _ | apply Ext.drew | apply Ext.drewN | apply Ext.alloc)))).mono ?_;rintro e W3 ⟨rfl,x3⟩;have y3:=Ext.tr (a:=W2) (by(repeat (first | assumption | exact Ext.rf _ | apply Ext.drew | apply Ext.drewN | apply Ext.alloc))) x3;have s1:=Zc y3 gl2 t0;have s2:=Zc y3 gl2 t1))
      all_goals go_wp2_with (fail)
      all_goals go_ret
      all_goals exact⟨rfl,B2.out.ext y3,M2.out.ext y3⟩
    ·have n108:((x.toNat:Int)==108)=false:=by
      have:x.toNat≠108:=fun h=>h108 (UInt8.toNat_inj.1 h)
      simp;omega
     by_cases h112:x=112
     ·subst h112
      have RB:Hid ((if Zk i p<cost then((13,r):Int×Wd) else(0,r))=RES):=Hd (by
       have h:=RE.out;rw[if_neg h98,if_neg h108,if_pos rfl] at h;exact h)
      by_cases hb:Zk i p<cost
      ·obtain rfl:RES=(13,r):=by have h:=RB.out;rw[if_pos hb] at h;exact h.symm
       go_wp2_with (fail);go_region_held3 (fun w'=>w'.cell? ⟨g,0,none⟩=some (.iface 161 px)/\w'.cell? ⟨g,1,none⟩=some (.int .i64 cost)) (go_keep)
        (first | (go_at_call 296;refine(CB.out _ (by(repeat (first | assumption | exact Ext.rf _ | apply Ext.drew | apply Ext.drewN | apply Ext.alloc)))).mono ?_;rintro e W3 ⟨rfl,x3⟩;have y3:=Ext.tr (a:=W2) (by(repeat (first | assumption | exact Ext.rf _ | apply Ext.drew | apply Ext.drewN | apply Ext.alloc))) x3;have s1:=Zc y3 gl2 t0;have s2:=Zc y3 gl2 t1))
       all_goals go_wp2_with (fail)
       all_goals go_ret
       all_goals exact⟨rfl,B2.out.ext y3,M2.out.ext y3⟩
      ·obtain rfl:RES=(0,r):=by have h:=RB.out;rw[if_neg hb] at h;exact h.symm
       go_wp2_with (fail);go_region_held3 (fun w'=>w'.cell? ⟨g,0,none⟩=some (.iface 161 px)/\w'.cell? ⟨g,1,none⟩=some (.int .i64 cost)) (go_keep)
        (first | (go_at_call 296;refine(CB.out _ (by(repeat (first | assumption | exact Ext.rf _ | apply Ext.drew | apply Ext.drewN | apply Ext.alloc)))).mono ?_;rintro e W3 ⟨rfl,x3⟩;have y3:=Ext.tr (a:=W2) (by(repeat (first | assumption | exact Ext.rf _ | apply Ext.drew | apply Ext.drewN | apply Ext.alloc))) x3;have s1:=Zc y3 gl2 t0;have s2:=Zc y3 gl2 t1))
       all_goals go_wp2_with (fail)
       all_goals go_ret
       all_goals exact⟨rfl,B2.out.ext y3,M2.out.ext y3⟩
     ·have n112:((x.toNat:Int)==112)=false:=by
       have:x.toNat≠112:=fun h=>h112 (UInt8.toNat_inj.1 h)
       simp;omega
      obtain rfl:RES=(2,r):=by have h:=RE.out;rw[if_neg h98,if_neg h108,if_neg h112] at h;exact h.symm
      go_wp2_with (fail);go_ret;exact⟨rfl,B2.out,M2.out⟩
  ·have e1:((p.length:Int)==(Zi i:Int))=false:=by simp;omega
   by_cases h98:x=98
   ·subst h98
    have RK:Hid (Wr (fun n v=>ZK (Zi i) (Zo i) (Zk i) cost f (p++[n]) v) (Zo i p) r=RES):=Hd (by
     have h:=RE.out;rw[if_pos rfl,if_neg hw] at h;exact h)
    have K:=Hd (ihk W2 P c p r hB2.out B2.out P2.out hne ho (by omega) (by omega) hr');rw[RK.out] at K;go_wp2_with (fail);refine K.out.mono ?_;rintro e W3 ⟨rfl,b3,m3⟩;have M3:=Hd (M2.out.tr m3);replace b3:=Hd b3;clear m3;go_wp2_with (fail);go_ret;exact⟨rfl,b3.out,M3.out⟩
   ·have n98:((x.toNat:Int)==98)=false:=by
     have:x.toNat≠98:=fun h=>h98 (UInt8.toNat_inj.1 h)
     simp;omega
    by_cases h108:x=108
    ·subst h108
     obtain rfl:RES=(8,r):=by have h:=RE.out;rw[if_neg h98,if_pos rfl,if_neg hw] at h;exact h.symm
     go_wp2_with (fail);go_ret;exact⟨rfl,B2.out,M2.out⟩
    ·have n108:((x.toNat:Int)==108)=false:=by
      have:x.toNat≠108:=fun h=>h108 (UInt8.toNat_inj.1 h)
      simp;omega
     by_cases h112:x=112
     ·subst h112
      have RB:Hid ((if Zk i p<cost then((13,r):Int×Wd) else(0,r))=RES):=Hd (by
       have h:=RE.out;rw[if_neg h98,if_neg h108,if_pos rfl] at h;exact h)
      by_cases hb:Zk i p<cost
      ·obtain rfl:RES=(13,r):=by have h:=RB.out;rw[if_pos hb] at h;exact h.symm
       go_wp2_with (fail);go_region_held3 (fun w'=>w'.cell? ⟨g,0,none⟩=some (.iface 161 px)/\w'.cell? ⟨g,1,none⟩=some (.int .i64 cost)) (go_keep)
        (first | (go_at_call 296;refine(CB.out _ (by(repeat (first | assumption | exact Ext.rf _ | apply Ext.drew | apply Ext.drewN | apply Ext.alloc)))).mono ?_;rintro e W3 ⟨rfl,x3⟩;have y3:=Ext.tr (a:=W2) (by(repeat (first | assumption | exact Ext.rf _ | apply Ext.drew | apply Ext.drewN | apply Ext.alloc))) x3;have s1:=Zc y3 gl2 t0;have s2:=Zc y3 gl2 t1))
       all_goals go_wp2_with (fail)
       all_goals go_ret
       all_goals exact⟨rfl,B2.out.ext y3,M2.out.ext y3⟩
      ·obtain rfl:RES=(0,r):=by have h:=RB.out;rw[if_neg hb] at h;exact h.symm
       go_wp2_with (fail);go_region_held3 (fun w'=>w'.cell? ⟨g,0,none⟩=some (.iface 161 px)/\w'.cell? ⟨g,1,none⟩=some (.int .i64 cost)) (go_keep)
        (first | (go_at_call 296;refine(CB.out _ (by(repeat (first | assumption | exact Ext.rf _ | apply Ext.drew | apply Ext.drewN | apply Ext.alloc)))).mono ?_;rintro e W3 ⟨rfl,x3⟩;have y3:=Ext.tr (a:=W2) (by(repeat (first | assumption | exact Ext.rf _ | apply Ext.drew | apply Ext.drewN | apply Ext.alloc))) x3;have s1:=Zc y3 gl2 t0;have s2:=Zc y3 gl2 t1))
       all_goals go_wp2_with (fail)
       all_goals go_ret
       all_goals exact⟨rfl,B2.out.ext y3,M2.out.ext y3⟩
     ·have n112:((x.toNat:Int)==112)=false:=by
       have:x.toNat≠112:=fun h=>h112 (UInt8.toNat_inj.1 h)
       simp;omega
      obtain rfl:RES=(2,r):=by have h:=RE.out;rw[if_neg h98,if_neg h108,if_neg h112] at h;exact h.symm
      go_wp2_with (fail);go_ret;exact⟨rfl,B2.out,M2.out⟩
theorem JO {i:InstP}{g:Nat}{W0:World}{px:Value}{cost:Int}(H:PV i g W0 px 297 298 296)(f:Nat)(ihn:Qp i g W0 161 px cost f) : Zb8 i g W0 161 px cost f:=by
 intro W P c p r hB hblk hP hne ho hf hlt0 hr;have n64:=H.n64;have t0:=hblk.c0;have gl:=hblk.lt;have mK:∀ (x a:Value) (u:World),(callMethod (.iface 161 x) "kurgan/check.kids" #[a]).run Tryz.prog u=.ok (.enter 298 #[x,a]) u:=fun _ _ _=>by kernel_rfl
 have CK:=Hd (fun(W':World) (y:Ext W W')=>H.cK W' P c p (hB.trans (Below.mono y (by omega))) (hP.ext y) ho hlt0);have KID:=Hd ((Wt H.chk).kid p ho hlt0);obtain⟨RES,hRES⟩:∃ RES,Hid (Wr (fun n v=>ZK (Zi i) (Zo i) (Zk i) cost f (p++[n]) v) (Zo i p) r=RES):=⟨_,rfl⟩;rw[hRES.out];have KL:(Zo i p).length<=64:=by
  have:=We H.chk p ho hlt0;split at this<;>omega
 have S0:Hid (Wr (fun n v=>ZK (Zi i) (Zo i) (Zk i) cost f (p++[n]) v) ((Zo i p).drop 0) r=RES):=hRES;generalize Zo i p=l at *;replace hblk:=Hd hblk;replace hP:=Hd hP;replace hB:=Hd hB;replace hf:=Hd hf;replace hlt0:=Hd hlt0;clear hRES;unfold Zcz at CK;go_enter Tryz.func105,Tryz.ntmps105;go_wp2_with (fail);refine(CK.out _ (by(repeat (first | assumption | exact Ext.rf _ | apply Ext.drew | apply Ext.drewN | apply Ext.alloc)))).mono ?_;rintro e W2 ⟨A,ac,rfl,oA,x2⟩;have X2:=Ext.tr (a:=W) (by(repeat (first | assumption | exact Ext.rf _ | apply Ext.drew | apply Ext.drewN | apply Ext.alloc))) x2;have B2:=Hd (hblk.out.ext X2);have M2:Hid (Mod (fun k=>k=g) W W2):=Mod.of_ext X2;have RA:=Hd oA.read;have neA:Hid (∀ b,bl A=some b->b≠g):=fun b hb=>by have:=(oA.lt b hb).1;omega
 clear x2 X2 oA CK t0;go_wp2_with (fail);go_loopw [16] (fun v16 wr=>∃ (m:Nat) (r':Wd),v16=.int .i64 m/\m<=l.length/\r'.length<=1000/\Hid (Wr (fun n v=>ZK (Zi i) (Zo i) (Zk i) cost f (p++[n]) v) (l.drop m) r'=RES)/\Hid (Blk wr g 101 #[.iface 161 px,.int .i64 cost,.string ⟨r'.toArray⟩])/\Hid (RdI wr A l)/\Hid (Mod (fun k=>k=g) W wr)) (fun v _=>l.length-(intOf v).toNat)
 case atStart=>exact⟨0,r,rfl,by omega,hr,S0,B2,RA,M2⟩
 case round =>
  obtain⟨wo,rfl⟩:∃ wo:World,wo=wr:=⟨_,rfl⟩;clear S0 B2 RA M2;obtain⟨m,r',rfl,hm,hr',hS,BB,RA,MM⟩:=hrel;have zo:=MM.out.size
  by_cases hmt:m<l.length
  ·obtain⟨pb,po,n,rfl,zn,cn,en,dn⟩:=RA.out.at (k:=m) hmt
   have q1:(m:Int)<(l.length:Int):=by omega
   have RP:=Hd (hP.out.modW MM.out hne);have OKN:=Hd (KID.out n (List.mem_of_getElem? en.out));have p64:p.length<=64:=by have:=hlt0.out;omega
   have el:(p++[n]).length=p.length+1:=by simp
   have SD:=hS.out;rw[dn.out,Wr] at SD;replace SD:=Hd SD;clear en dn hS;go_wp2_with (first
    | (at_builtin;refine Vn _ rfl _ _ rfl wo.heap.size _ p P c rfl rfl ?_ ?_ ?_ ?_ ?_;(first | exact .new (by simp) | exact .drew (.new (by simp)) | exact .alloc (.new (by simp)) _ | exact .drew (.alloc (.new (by simp)) _) | exact .alloc (.alloc (.new (by simp)) _) _ | exact .drew (.alloc (.alloc (.new (by simp)) _) _) | (repeat (first | assumption | (refine Blk.new ?_;(focus (simp;done))) | apply Blk.drew | apply Blk.drewN | apply Blk.alloc)));(first | exact Nat.le_refl _ | omega | (focus (simp;try omega)));(refine RP.out.ext ?_;(repeat (first | assumption | exact Ext.rf _ | apply Ext.drew | apply Ext.drewN | apply Ext.alloc)));omega;rintro A7 c7 w7 o7 x7;have y7:=Ext.tr (a:=wo) (by(repeat (first | assumption | exact Ext.rf _ | apply Ext.drew | apply Ext.drewN | apply Ext.alloc))) x7;have zw7:=y7.size)
    | (at_builtin;refine ZG _ rfl _ _ rfl wo.heap.size A7 p.length c7 p [n] (some ⟨w7.heap.size,0,none⟩) 1 rfl rfl rfl (o7.ext ((Ext.rf _).alloc _)) (.blk (.new rfl) rfl) (by simp;omega) (by simp;omega) ?_;rintro A8 c8 w8 o8 g8 _))
   have y8:Ext wo (w7.alloc (.cells #[.int .i64 n] 3)):=y7.alloc _;have X8:=y8.modT (QK (o7.ext ((Ext.rf w7).alloc (.cells #[.int .i64 n] 3))) g8) (Nat.le_refl _);have B8:=BB.out.ext X8;have M8:=MM.out.ext X8;have ne8:∀ b,bl A8=some b->b≠g:=fun b hb=>by have:=(o8.lt b hb).1;omega
   have hB8:=WJ hB.out M8 (by omega);have CN:=ihn w8 A8 c8 (p++[n]) r' hB8 B8 o8.read ne8 OKN.out (by rw[el];have:=hf.out;omega) hr';rw[el] at CN;have RL:(ZK (Zi i) (Zo i) (Zk i) cost f (p++[n]) r').2.length<=1000:=Nat.le_trans (Vx f _ _) hr';generalize ZK (Zi i) (Zo i) (Zk i) cost f (p++[n]) r'=res at *;obtain⟨re,rr⟩:=res;have RA8:=Hd (RA.out.ext X8);have z8:=M8.size;replace CN:=Hd CN;replace M8:=Hd M8;unfold Zb7 at CN;clear y8 X8 B8 o8 g8 o7 y7 zw7 ne8 hB8 x7 OKN RP el;go_wp2_with (fail);refine CN.out.mono ?_;rintro e w9 ⟨rfl,b9,m9⟩;have M9:=Hd (M8.out.tr m9);have RA9:=Hd (RA8.out.modW m9 neA.out);replace b9:=Hd b9;clear m9 CN RA8 M8 BB RA MM
   try simp only at SD
   try simp only at b9
   try simp only at RL
   by_cases he:re=0
   ·subst he
    have SD2:Hid (Wr (fun n v=>ZK (Zi i) (Zo i) (Zk i) cost f (p++[n]) v) (l.drop (m+1)) rr=RES):=by
     have h:=SD.out;rw[if_pos rfl] at h;exact h
    clear SD;go_wp2_with (fail);go_roundw
    case rel=>exact⟨m+1,rr,by go_num,by omega,RL,SD2,b9,RA9,M9⟩
    case measure=>simp[intOf];omega
   ·have e1:(re != 0)=true:=by simpa using he
    obtain rfl:RES=(re,rr):=by have h:=SD.out;rw[if_neg he] at h;exact h.symm
    clear SD;go_wp2_with (fail);go_ret;exact⟨rfl,b9.out,M9.out⟩
  ·have q1:¬(m:Int)<(l.length:Int):=by omega
   obtain rfl:RES=(0,r'):=by
    have h:=hS.out;rw[List.drop_of_length_le (by omega)] at h;exact h.symm
   go_wp2_with (fail);go_ret;exact⟨rfl,BB.out,MM.out⟩
theorem UB {i:InstP}{g:Nat}{W0:World}{px:Value}{cost:Int}(H:PV i g W0 px 297 298 296) : ∀ f,Qp i g W0 161 px cost (f+1)
 | 0=>Ub H 0 (fun W P c p r _ _ _ _ _ hf hl _=>by omega)
 | f+1=>Ub H (f+1) (JO H (f+1) (UB H f))
theorem pv1 {i:InstP}(hc:Zh i=0)(hk:i.kind=1){W0:World}{g:Nat}(H:KnB W0 g i.cap (wsP i) (vsP i)) : PV i W0.heap.size W0 (.pointer (some ⟨g,0,none⟩)) 288 289 287:=by
 have ok:=ZR hc hk;obtain⟨f1,f2,f3,f4,f5⟩:=Ur ok;have n2:=ok.n2;have hd:Zi i=(wsP i).length:=by unfold Zi;rw[if_neg (by omega)];omega
 have sw:=Xb (l:=ZS i) ok.sw;have sv:=Xb (l:=ZS i) ok.sv;have hlen:∀ p q,stP i.cap 0 (wsP i) (vsP i) p=some q->p.length<=(wsP i).length:=fun p q h=>by
  have:=(Wt hc).len p (by unfold okI;rw[if_pos hk];exact⟨q,h⟩);omega
 refine⟨hc,by omega,fun W x=>?_,fun W P c p x hP ho hl=>?_,fun W P c p x hP ho=>?_⟩
 ·rw[hd]
  exact J6 W g i.cap (wsP i) (vsP i) (H.ext x)
 ·unfold okI at ho
  rw[if_pos hk] at ho;obtain⟨⟨r,o⟩,hs⟩:=ho;have e:Zo i p=U1 i.cap (wsP i) p:=by unfold Zo;rw[if_pos hk]
  rw[e];exact ZeZ W g i.cap (wsP i) (vsP i) (H.ext x) sw f1 ok.cap P c p hP r o hs (by omega) (by omega)
 ·unfold okI at ho
  rw[if_pos hk] at ho;obtain⟨⟨r,o⟩,hs⟩:=ho;have e:Zk i p=(YO i.cap (wsP i) (vsP i) p).1:=by unfold Zk;rw[if_pos hk]
  rw[e];exact ZdO W g i.cap (wsP i) (vsP i) (H.ext x) sw sv f1 ok.cap P c p hP r o hs (hlen _ _ hs) (by omega)
theorem pv2 {i:InstP}(hc:Zh i=0)(hk:i.kind=2){W0:World}{g:Nat}(H:RwB W0 g i.cost) : PV i W0.heap.size W0 (.pointer (some ⟨g,0,none⟩)) 292 293 291:=by
 have sq:=Zp hc (by omega);have rok:=ZF sq;have l2:=rok.n2;have hd:Zi i=i.cost.length:=by unfold Zi;rw[if_neg (by omega)];have:=sq.len;omega
 have hok:∀ p,okI i p->∃ m,Z1 i.cost.length p=some m:=fun p ho=>by
  unfold okI at ho;rw[if_neg (by omega),if_pos hk] at ho;exact ho
 refine⟨hc,by omega,fun W x=>?_,fun W P c p x hP ho hl=>?_,fun W P c p x hP ho=>?_⟩
 ·rw[hd]
  exact ZdU W g i.cost (H.ext x)
 ·obtain⟨m,hm⟩:=hok p ho
  have e:Zo i p=Ws 0 i.cost.length p:=by unfold Zo;rw[if_neg (by omega),if_pos hk]
  rw[e];exact Za2 W g i.cost (H.ext x) (by omega) P c p hP (by have:=(XD l2 hm).1;omega)
 ·obtain⟨m,hm⟩:=hok p ho
  have e:Zk i p=(Yz i.cost p).1:=by unfold Zk;rw[if_neg (by omega),if_pos hk]
  rw[e];exact ZdW W g i.cost (H.ext x) rok P c p hP m hm
theorem pv3 {i:InstP}(hc:Zh i=0)(hk:i.kind=3){W0:World}{g:Nat}(H:CiB W0 g (WX i.cost) i.cost) : PV i W0.heap.size W0 (.pointer (some ⟨g,0,none⟩)) 297 298 296:=by
 have sq:=Zp hc (by omega);have rok:=ZF sq;have l1:=rok.n1;have l2:=rok.n2;have hd:Zi i=i.cost.length-1:=by unfold Zi;rw[if_pos hk];have:=sq.len;omega
 have hok:∀ p,okI i p->∃ s,Z5 i.cost p=some s:=fun p ho=>by
  unfold okI at ho;rw[if_neg (by omega),if_neg (by omega)] at ho;exact ho
 refine⟨hc,by omega,fun W x=>?_,fun W P c p x hP ho hl=>?_,fun W P c p x hP ho=>?_⟩
 ·rw[hd]
  exact ZdX W g (WX i.cost) i.cost (H.ext x) l1 l2
 ·have e:Zo i p=Ws 1 i.cost.length p:=by unfold Zo;rw[if_neg (by omega),if_neg (by omega)]
  rw[e];exact Za3 W g (WX i.cost) i.cost (H.ext x) (by omega) P c p hP (by omega)
 ·obtain⟨⟨m,last,cost⟩,hm⟩:=hok p ho
  have e:Zk i p=(YD i.cost (WX i.cost) p).1:=by unfold Zk;rw[if_neg (by omega),if_neg (by omega)]
  rw[e];exact ZdZ W g (WX i.cost) i.cost (H.ext x) rok P c p hP m last cost hm
def Xm (i:InstP)(x:List Int)(v:Int)(tr:Wd) : Int:=if Zh i≠0 then Zh i else if (ZV i x).2.2≠0 then(ZV i x).2.2 else if (ZV i x).2.1≠v then 13 else UZ (Zi i) (Zo i) (Zk i) (ZV i x).1 tr
def Za6 (i:InstP)(T:TypeId)(w:World)(e:Ending)(w':World) : Prop:=∃ px,e=.returned (.iface T px)/\(∀ cost f,Qp i w'.heap.size w' T px cost (f+1))/\Ext w w'
theorem Zjc (i:InstP)(us:List Value)(w:World)(H:RInst w us i)(hc:Zh i=0)(hk:i.kind=1) : Calls Tryz.prog 57 #[.agg (List.toArray us)] w (Za6 i 156 w):=by
 refine(Ziv i us w H hc hk).mono ?_;rintro e w' ⟨g,rfl,h,x⟩;exact⟨_,rfl,fun cost f=>VM (pv1 hc hk h) f,x⟩
theorem Zjd (i:InstP)(us:List Value)(w:World)(H:RInst w us i)(hc:Zh i=0)(hk:i.kind=2) : Calls Tryz.prog 57 #[.agg (List.toArray us)] w (Za6 i 158 w):=by
 refine(Ziw i us w H hk).mono ?_;rintro e w' ⟨g,rfl,h,x⟩;exact⟨_,rfl,fun cost f=>Qq (pv2 hc hk h) f,x⟩
theorem Zje (i:InstP)(us:List Value)(w:World)(H:RInst w us i)(hc:Zh i=0)(hk:i.kind=3) : Calls Tryz.prog 57 #[.agg (List.toArray us)] w (Za6 i 161 w):=by
 refine(Zix i us w H hc hk).mono ?_;rintro e w' ⟨g,rfl,h,x⟩;exact⟨_,rfl,fun cost f=>UB (pv3 hc hk h) f,x⟩
theorem JP (i:InstP)(us:List Value)(v:Int)(X:Option Addr)(xc:Nat)(x:List Int)(tr:Wd)(T:TypeId)(w:World)(H:RInst w us i)(hc:Zh i=0)(lw:i.weight.length<=1000000000)(lv:i.value.length<=1000000000)(hX:RdI w X x)(lx:x.length<=xc)(mx:xc<=maxLen)(lt:tr.length<=1000)
  (OF:∀ W,Ext w W->Calls Tryz.prog 57 #[.agg (List.toArray us)] W (Za6 i T W)) :
  Calls Tryz.prog 25 #[.agg (List.toArray us),.agg #[.int .i64 v,.slice X x.length xc,.string ⟨tr.toArray⟩]] w fun e w'=>e=.returned (.int .i64 (Xm i x v tr))/\Ext w w':=by
 have CH:=fun(W:World) (y:Ext w W)=>YM i us W (H.ext y) lw lv
 rw[hc] at CH;have AN:=Hd (fun(W:World) (y:Ext w W)=>Zd0 i us X xc x W (H.ext y) hc (hX.ext y) lx mx);have e:Xm i x v tr=if (ZV i x).2.2≠0 then(ZV i x).2.2 else if (ZV i x).2.1≠v then 13 else UZ (Zi i) (Zo i) (Zk i) (ZV i x).1 tr:=by
  unfold Xm;rw[if_neg (by simpa using hc)]
 obtain⟨RES,hR⟩:∃ RES,Hid (Xm i x v tr=RES):=⟨_,rfl⟩;rw[hR.out] at e ⊢;replace e:=Hd e;clear hR;have OKN:=Hd (Ql hc);unfold Za6 at OF;replace OF:=Hd OF;replace CH:=Hd CH;obtain⟨AR,hans⟩:∃ AR,Hid (ZV i x=AR):=⟨_,rfl⟩;rw[hans.out] at e AN;clear hans hc lx mx hX;obtain⟨a1,a2,a3⟩:=AR;simp only at e AN;obtain⟨A,a,B,b,D,d,rfl,-,-,-⟩:=H;obtain⟨kind,hkd⟩:∃ q,Hid (q=i.kind):=⟨_,rfl⟩;obtain⟨nn,hnn⟩:∃ q,Hid (q=i.n):=⟨_,rfl⟩;obtain⟨cap,hcap⟩:∃ q,Hid (q=i.cap):=⟨_,rfl⟩;obtain⟨lxw,hxw⟩:∃ q,Hid (q=i.weight.length):=⟨_,rfl⟩;obtain⟨lxv,hxv⟩:∃ q,Hid (q=i.value.length):=⟨_,rfl⟩;obtain⟨lco,hco⟩:∃ q,Hid (q=i.cost.length):=⟨_,rfl⟩;rw[<-hkd.out,<-hnn.out,<-hcap.out,<-hxw.out,<-hxv.out,<-hco.out] at CH AN OF ⊢;clear hkd hnn hcap hxw hxv hco lw lv;obtain⟨wb,hwb⟩:∃ wb,Hid (wb=(w.alloc (.cells #[.int .i64 kind,.int .i64 nn,.int .i64 cap,.slice A lxw a,.slice B lxv b,.slice D lco d] 25)).alloc (.cells #[.int .i64 v,.slice X x.length xc,.string ⟨tr.toArray⟩] 51)):=⟨_,rfl⟩;have XB:Hid (Ext w wb):=Hd (by rw[hwb.out];exact((Ext.rf w).alloc _).alloc _);have B1:Hid (Blk wb w.heap.size 25 #[.int .i64 kind,.int .i64 nn,.int .i64 cap,.slice A lxw a,.slice B lxv b,.slice D lco d]):=Hd (by rw[hwb.out];exact .alloc (.new rfl) _);have B2:Hid (Blk wb (w.heap.size+1) 51 #[.int .i64 v,.slice X x.length xc,.string ⟨tr.toArray⟩]):=Hd (by rw[hwb.out];exact .new (by simp));go_enter Tryz.func25,Tryz.ntmps25;go_upto_region 1 with(fail);rw[<-hwb.out];have d0:=B1.out.c0;have d1:=B1.out.c1;have d2:=B1.out.c2;have d3:=B1.out.c3;have d4:=B1.out.c4;have d5:=B1.out.c5;go_wp2_with (fail);refine(CH.out _ (XB.out.tr (by(repeat (first | assumption | exact Ext.rf _ | apply Ext.drew | apply Ext.drewN | apply Ext.alloc))))).mono ?_;rintro e w1 ⟨rfl,x1⟩;have Y1:=Hd (Ext.tr (a:=wb) (by(repeat (first | assumption | exact Ext.rf _ | apply Ext.drew | apply Ext.drewN | apply Ext.alloc))) x1);have B11:=Hd (B1.out.ext Y1.out);have B21:=Hd (B2.out.ext Y1.out);clear x1 d0 d1 d2 d3 d4 d5;have d0:=B11.out.c0;have d1:=B11.out.c1;have d2:=B11.out.c2;have d3:=B11.out.c3;have d4:=B11.out.c4;have d5:=B11.out.c5;have c1:=B21.out.c1;go_wp2_with (fail);refine(AN.out _ (XB.out.tr (Y1.out.tr (by(repeat (first | assumption | exact Ext.rf _ | apply Ext.drew | apply Ext.drewN | apply Ext.alloc)))))).mono ?_;rintro e w2 ⟨rfl,x2⟩;have Y2:=Hd (Y1.out.tr (Ext.tr (by(repeat (first | assumption | exact Ext.rf _ | apply Ext.drew | apply Ext.drewN | apply Ext.alloc))) x2));have B12:=Hd (B1.out.ext Y2.out);have B22:=Hd (B2.out.ext Y2.out);clear x2 d0 d1 d2 d3 d4 d5 c1
 by_cases h3:a3=0
 ·subst h3
  have c0:=B22.out.c0
  by_cases h2:a2=v
  ·subst h2
   have E:Hid (RES=UZ (Zi i) (Zo i) (Zk i) a1 tr):=by
    have h:=e.out;rw[if_neg (by simp),if_neg (by simp)] at h;exact h
   clear e;have d0:=B12.out.c0;have d1:=B12.out.c1;have d2:=B12.out.c2;have d3:=B12.out.c3;have d4:=B12.out.c4;have d5:=B12.out.c5;have c2:=B22.out.c2;have zw:=B12.out.lt;have zc:=B22.out.lt;go_wp2_with (fail);go_region_held3 (fun w'=>w'.cell? ⟨w.heap.size,0,none⟩=some (.int .i64 kind)/\w'.cell? ⟨w.heap.size,1,none⟩=some (.int .i64 nn)/\w'.cell? ⟨w.heap.size,2,none⟩=some (.int .i64 cap)/\w'.cell? ⟨w.heap.size,3,none⟩=some (.slice A lxw a)/\w'.cell? ⟨w.heap.size,4,none⟩=some (.slice B lxv b)/\w'.cell? ⟨w.heap.size,5,none⟩=some (.slice D lco d)/\w'.cell? ⟨w.heap.size+1,2,none⟩=some (.string ⟨tr.toArray⟩)) (go_keep)
    (first | (go_at_call 57;refine(OF.out _ (XB.out.tr (Y2.out.tr (by(repeat (first | assumption | exact Ext.rf _ | apply Ext.drew | apply Ext.drewN | apply Ext.alloc)))))).mono ?_;rintro e w3 ⟨px,rfl,ND,x3⟩;have Y3:=Ext.tr (a:=w2) (by(repeat (first | assumption | exact Ext.rf _ | apply Ext.drew | apply Ext.drewN | apply Ext.alloc))) x3;have s1:=Zc Y3 zw d0;have s2:=Zc Y3 zw d1;have s3:=Zc Y3 zw d2;have s4:=Zc Y3 zw d3;have s5:=Zc Y3 zw d4;have s6:=Zc Y3 zw d5;have s7:=Zc Y3 zc c2))
   all_goals
    have X3:=Hd (XB.out.tr (Y2.out.tr Y3));clear s1 s2 s3 s4 s5 s6 s7 d0 d1 d2 d3 d4 d5 c2 c0 x3 Y3;have BW:∀ (W:World),W=w3.alloc (.cells #[.iface T px,.int .i64 a1,.string ⟨tr.toArray⟩] 101)->Blk W w3.heap.size 101 #[.iface T px,.int .i64 a1,.string ⟨tr.toArray⟩]:=fun W h=>by rw[h];exact .new rfl
    replace BW:=Hd BW;have ND1:=Hd (ND a1 (Zi i));clear ND;obtain⟨res,hres⟩:∃ res,Hid (ZK (Zi i) (Zo i) (Zk i) a1 (Zi i+1) [] tr=res):=⟨_,rfl⟩;have ND2:=Hd (fun(W:World) (x:Ext w3 W) (hb:Blk W w3.heap.size 101 #[.iface T px,.int .i64 a1,.string ⟨tr.toArray⟩])=>ND1.out W none 0 [] tr x hb (.inl rfl) (fun b h=>by simp[bl] at h) OKN.out (by simp) lt);unfold Zb7 at ND2;rw[hres.out] at ND2;have E2:Hid (RES=if res.1=0 then(if res.2=[] then 0 else 7) else res.1):=by
     have h:=E.out;unfold UZ at h;rw[hres.out] at h;exact h
    clear ND1 E hres OKN;obtain⟨re,rr⟩:=res;go_wp2_with (fail);refine(ND2.out _ (by(repeat (first | assumption | exact Ext.rf _ | apply Ext.drew | apply Ext.drewN | apply Ext.alloc))) (.new rfl)).mono ?_;rintro e w5 ⟨rfl,b5,m5⟩;have X5:Hid (Ext w w5):=X3.out.mod (((Mod.rf w3).alloc _).tr m5) (fun k hk e=>by have:=X3.out.size;omega);have c2:=b5.c2;clear m5 ND2
    try simp only at E2
    by_cases hre:re=0
    ·subst hre
     cases rr with
     | nil =>
      have E3:Hid (RES=0):=by
       have h:=E2.out;rw[if_pos rfl,if_pos rfl] at h;exact h
      clear E2;go_wp2_with (fail);go_ret;exact⟨ZM E3.out.symm,X5.out.tr (by(repeat (first | assumption | exact Ext.rf _ | apply Ext.drew | apply Ext.drewN | apply Ext.alloc)))⟩
     | cons y r =>
      have E3:Hid (RES=7):=by
       have h:=E2.out;rw[if_pos rfl,if_neg (by simp)] at h;exact h
      have hne:(⟨(y::r).toArray⟩:ByteArray)≠⟨#[]⟩:=by simp
      clear E2;go_wp2_with (fail);go_ret;exact⟨ZM E3.out.symm,X5.out.tr (by(repeat (first | assumption | exact Ext.rf _ | apply Ext.drew | apply Ext.drewN | apply Ext.alloc)))⟩
    ·have E3:Hid (RES=re):=by
      have h:=E2.out;rw[if_neg hre] at h;exact h
     have hre1:(re==0)=false:=by simpa using hre
     clear E2;go_wp2_with (fail);go_ret;exact⟨ZM E3.out.symm,X5.out.tr (by(repeat (first | assumption | exact Ext.rf _ | apply Ext.drew | apply Ext.drewN | apply Ext.alloc)))⟩
  ·have E:Hid (RES=13):=by
    have h:=e.out;rw[if_neg (by simp),if_pos h2] at h;exact h
   have h21:(a2==v)=false:=by simpa using h2
   clear e;go_wp2_with (fail);go_ret;exact⟨ZM E.out.symm,XB.out.tr (Y2.out.tr (by(repeat (first | assumption | exact Ext.rf _ | apply Ext.drew | apply Ext.drewN | apply Ext.alloc))))⟩
 ·have E:Hid (RES=a3):=by
   have h:=e.out;rw[if_pos h3] at h;exact h
  have h31:(a3==0)=false:=by simpa using h3
  clear e;go_wp2_with (fail);go_ret;exact⟨ZM E.out.symm,XB.out.tr (Y2.out.tr (by(repeat (first | assumption | exact Ext.rf _ | apply Ext.drew | apply Ext.drewN | apply Ext.alloc))))⟩
theorem Zhz (i:InstP)(us:List Value)(v:Int)(X:Option Addr)(xc:Nat)(x:List Int)(tr:Wd)(w:World)(H:RInst w us i)(hc:Zh i≠0)(lw:i.weight.length<=1000000000)(lv:i.value.length<=1000000000) :
  Calls Tryz.prog 25 #[.agg (List.toArray us),.agg #[.int .i64 v,.slice X x.length xc,.string ⟨tr.toArray⟩]] w fun e w'=>e=.returned (.int .i64 (Xm i x v tr))/\Ext w w':=by
 have CH:=fun(W:World) (y:Ext w W)=>YM i us W (H.ext y) lw lv
 have e:Xm i x v tr=Zh i:=by
  unfold Xm;rw[if_pos hc]
 rw[e];generalize Zh i=q at *;have h1:(q==0)=false:=by simpa using hc
 replace CH:=Hd CH;obtain⟨A,a,B,b,D,d,rfl,-,-,-⟩:=H;clear e hc;go_enter Tryz.func25,Tryz.ntmps25;go_wp2_with (fail);refine(CH.out _ (by(repeat (first | assumption | exact Ext.rf _ | apply Ext.drew | apply Ext.drewN | apply Ext.alloc)))).mono ?_;rintro e w1 ⟨rfl,x1⟩;have Y1:=Hd (Ext.tr (a:=w) (by(repeat (first | assumption | exact Ext.rf _ | apply Ext.drew | apply Ext.drewN | apply Ext.alloc))) x1);clear x1;go_wp2_with (fail);go_ret;exact⟨rfl,Y1.out.tr (by(repeat (first | assumption | exact Ext.rf _ | apply Ext.drew | apply Ext.drewN | apply Ext.alloc)))⟩
theorem QM (i:InstP)(us:List Value)(v:Int)(X:Option Addr)(xc:Nat)(x:List Int)(tr:Wd)(w:World)(H:RInst w us i)(lw:i.weight.length<=1000000000)(lv:i.value.length<=1000000000)(hX:RdI w X x)(lx:x.length<=xc)(mx:xc<=maxLen)(lt:tr.length<=1000) :
  Calls Tryz.prog 25 #[.agg (List.toArray us),.agg #[.int .i64 v,.slice X x.length xc,.string ⟨tr.toArray⟩]] w fun e w'=>e=.returned (.int .i64 (Xm i x v tr))/\Ext w w':=by
 by_cases hc:Zh i=0
 ·rcases ZU hc with h | h | h
  ·exact JP i us v X xc x tr _ w H hc lw lv hX lx mx lt fun W y=>Zjc i us W (H.ext y) hc h
  ·exact JP i us v X xc x tr _ w H hc lw lv hX lx mx lt fun W y=>Zjd i us W (H.ext y) hc h
  ·exact JP i us v X xc x tr _ w H hc lw lv hX lx mx lt fun W y=>Zje i us W (H.ext y) hc h
 ·exact Zhz i us v X xc x tr w H hc lw lv
section
variable {H:Type} {enc:TypeId×Value->H} {W:World}
end
def exC : InstP:=⟨1,1,1,[1],[5],[]⟩
theorem Ziy : Xm exC [1] 5 [98,112,108]=0:=by decide +kernel
theorem Zi2 : Xm exC [0] 0 [98,108,108]=13:=by decide +kernel
theorem Zgt {w1:World}{a b:Nat}(b0:Blk w1 a 3 #[.int .i64 1])(b1:Blk w1 b 3 #[.int .i64 5]) :
  RInst w1 [.int .i64 1,.int .i64 1,.int .i64 1,.slice (some ⟨a,0,none⟩) 1 1,.slice (some ⟨b,0,none⟩) 1 1,.slice none 0 0] exC:=by
 have hz:1<=maxLen:=by simp[maxLen]
 have hi:∀ z:Int,0<=z/\z<=10->Ints [z]:=fun z h x hx=>by simp at hx;omega
 exact⟨some ⟨a,0,none⟩,1,some ⟨b,0,none⟩,1,none,0,rfl,⟨.blk b0 rfl,hi 1 (by omega),Nat.le_refl 1,hz⟩,⟨.blk b1 rfl,hi 5 (by omega),Nat.le_refl 1,hz⟩,⟨.inl rfl,Nat.le_refl 0,YL⟩⟩
theorem Za7 (w:World) : Calls Tryz.prog 22 #[] w fun e w'=>e=.returned (.bool true)/\Ext w w':=by
 have C1:=fun(us:List Value) (X:Option Addr) (W:World) (H:RInst W us exC) (hX:RdI W X [1])=>QM exC us 5 X 1 [1] [98,112,108] W H (by simp[exC]) (by simp[exC]) hX (Nat.le_refl 1) (by simp[maxLen]) (by simp)
 have C2:=fun(us:List Value) (X:Option Addr) (W:World) (H:RInst W us exC) (hX:RdI W X [0])=>QM exC us 0 X 1 [0] [98,108,108] W H (by simp[exC]) (by simp[exC]) hX (Nat.le_refl 1) (by simp[maxLen]) (by simp)
 rw[Ziy] at C1;rw[Zi2] at C2;simp only[List.length_cons,List.length_nil,Nat.reduceAdd] at C1 C2;replace C1:=Hd C1;replace C2:=Hd C2;obtain⟨w1,hw1⟩:∃ w1,Hid (w1=((w.alloc (.cells #[.int .i64 1] 3)).alloc (.cells #[.int .i64 5] 3)).alloc (.cells #[.int .i64 1,.int .i64 1,.int .i64 1,.slice (some ⟨w.heap.size,0,none⟩) 1 1,.slice (some ⟨w.heap.size+1,0,none⟩) 1 1,.slice none 0 0] 25)):=⟨_,rfl⟩;have b0:Blk w1 w.heap.size 3 #[.int .i64 1]:=by rw[hw1.out];exact .alloc (.alloc (.new rfl) _) _
 have b1:Blk w1 (w.heap.size+1) 3 #[.int .i64 5]:=by rw[hw1.out];exact .alloc (.new (by simp)) _
 have b4:Hid (Blk w1 (w.heap.size+1+1) 25 #[.int .i64 1,.int .i64 1,.int .i64 1,.slice (some ⟨w.heap.size,0,none⟩) 1 1,.slice (some ⟨w.heap.size+1,0,none⟩) 1 1,.slice none 0 0]):=Hd (by rw[hw1.out];exact .new (by simp));have R:=Hd (Zgt b0 b1);have X1:Hid (Ext w w1):=Hd (by rw[hw1.out];exact(((Ext.rf w).alloc _).alloc _).alloc _);clear b0 b1;go_enter Tryz.func22,Tryz.ntmps22;go_upto_region 2 with(fail);rw[<-hw1.out];have t0:=b4.out.c0;have t1:=b4.out.c1;have t2:=b4.out.c2;have t3:=b4.out.c3;have t4:=b4.out.c4;have t5:=b4.out.c5;go_wp2_with (fail);have y:=Ext.alloc (Ext.rf w1) (.cells #[.int .i64 1] 3);refine(C1.out _ _ _ (R.out.ext y) (.blk (.new rfl) rfl)).mono ?_;rintro e w2 ⟨rfl,x2⟩;have Y2:=Hd (y.tr x2);have B2:=Hd (b4.out.ext Y2.out);clear x2 y t0 t1 t2 t3 t4 t5;have t0:=B2.out.c0;have t1:=B2.out.c1;have t2:=B2.out.c2;have t3:=B2.out.c3;have t4:=B2.out.c4;have t5:=B2.out.c5;go_wp2_with (fail);have y:=Ext.alloc (Ext.rf w2) (.cells #[.int .i64 0] 3);refine(C2.out _ _ _ (R.out.ext (Y2.out.tr y)) (.blk (.new rfl) rfl)).mono ?_;rintro e w3 ⟨rfl,x3⟩;have Y3:=Hd (Y2.out.tr (y.tr x3));clear x3 y t0 t1 t2 t3 t4 t5;go_wp2_with (fail);go_ret;exact⟨rfl,X1.out.tr (Y3.out.tr (by(repeat (first | assumption | exact Ext.rf _ | apply Ext.drew | apply Ext.drewN | apply Ext.alloc))))⟩
end Go.Proofs.YtmojhhlcocjoaaaGreatDoor
namespace Go.Proofs.YtmojhhlcocjoaaaGreatDoor
open Go.RowKit Go.ChangeShapes Go.WideShapes Go.ChangeAt Go.Deep
theorem Ze5 (i:InstP)(us:List Value)(w:World)(H:RInst w us i)(hc:Zh i=0) :
  Calls Tryz.prog 28 #[.agg (List.toArray us),.slice none 0 0] w fun e w'=>e=.returned (.int .i64 (Xx i))/\Ext w w':=by
 rcases ZU hc with hk | hk | hk
 ·have ok:=ZR hc hk
  have k1:=ok.n1;have h:=ZbL i us hc hk i.n.toNat (by omega) i.n.toNat none 0 [] w (by simp) (by simp) H (.inl rfl);have e:Xx i=XG i.cap i.weight i.value i.n.toNat []:=by unfold Xx;rw[if_pos hk]
  rw[e];exact h
 ·have h:=ZbG i us hc hk i.cost.length none 0 [] _ w XT (by simp) H (.inl rfl)
  have e:Xx i=Xk i.cost i.cost.length i.cost.length []:=by
   unfold Xx bxI;rw[if_neg (by omega),if_neg (by omega),if_pos hk]
   rfl
  rw[e];exact h
 ·have sq:=Zp hc (by omega)
  have rok:=ZF sq;have h1:=rok.n1;have h2:=rok.n2;have num:∀ a b,a<i.cost.length->b<i.cost.length->0<=Za i.cost a b:=fun a b ha hb=>(Yl rok a b ha hb).1
  obtain⟨l,W⟩:=YK h1 h2 (YX (rows:=i.cost));have hl:l=[]:=List.eq_nil_of_length_eq_zero (by have:=congrArg List.length W.eq;rw[Zg] at this;exact this.symm);subst hl;obtain⟨q,a1,a2⟩:=Vu h1 h2 num (i.cost.length-1) [] _ _ _ [] YX W (by simp);have e:Xx i=YS i.cost (i.cost.length-1) []:=by
   unfold Xx bxI;rw[if_neg (by omega),if_neg (by omega),if_neg (by omega)]
   rfl
  have hb:0<=YS i.cost (i.cost.length-1) []:=by
   rw[a2];exact V5 num _ _ (by omega) fun y hy=>((W.rest y).1 (a1.mem_iff.1 hy)).1.1
  have h:=ZeK i us none 0 [] w H hk (.inl rfl) (by simp) rfl i.cost.length sq.len.symm h1 (by omega) (by simp;omega) (fun _=>YS i.cost (i.cost.length-1) []) (fun k A d q hk0 hq W y hr=>by
   subst hk0 hq;exact ZbI i us hc hk (i.cost.length-1) A d [] _ _ _ W YX (by simp) (H.ext y) hr)
  have e2:pkB (-1) (YS i.cost (i.cost.length-1) [])=YS i.cost (i.cost.length-1) []:=by
   unfold pkB;split<;>omega
  rw[e2] at h;rw[e];exact h
theorem ZhA (l:List Int)(x y:Nat) : Zbe (ltK l) x y=(decide (l.getD x 0<l.getD y 0) || (decide (l.getD x 0=l.getD y 0)&&decide (x<y))):=by
 unfold Zbe ltK;rw[Bool.eq_iff_iff];simp only[Bool.or_eq_true,Bool.and_eq_true,Bool.not_eq_true',decide_eq_true_eq,decide_eq_false_iff_not];omega
def ahK (l:List Int)(j x:Nat) : Nat:=ZA (ltK l) (List.range j) x
theorem ZhB (l:List Int)(j x:Nat) : ahK l (j+1) x=ahK l j x+if (decide (l.getD j 0<l.getD x 0) || (decide (l.getD j 0=l.getD x 0)&&decide (j<x)))=true then 1 else 0:=by
 unfold ahK;rw[List.range_succ,UR,ZhA]
def plK (l:List Int)(k:Nat) : List Int:=Yk (ahK l l.length) (List.range l.length) k
theorem ZhC (l:List Int)(k:Nat)(h:k<l.length) : plK l (k+1)=(plK l k).set (ahK l l.length k) (k:Int):=by
 have e:(List.range l.length).getD k 0=k:=by simp[List.getD,h]
 show (Yk (ahK l l.length) (List.range l.length) k).set (ahK l l.length ((List.range l.length).getD k 0)) (((List.range l.length).getD k 0:Nat):Int)=_;rw[e]
 rfl
theorem Ziz (l:List Int)(k:Nat) : (plK l k).length=l.length:=by unfold plK;rw[Xg,List.length_range]
theorem ZhD (l:List Int) : plK l l.length=Zd (Ua l):=by
 have h:=QB (Jf l) (List.pairwise_lt_range (n:=l.length));rw[List.length_range] at h;exact h
theorem Zi3 (l:List Int){k:Nat}(h:k<l.length) : ahK l l.length k<l.length:=by
 have W:=Jf l;have hs:=List.pairwise_lt_range (n:=l.length);obtain⟨k',hk',e'⟩:=List.mem_iff_getElem.1 ((WV W hs).mem.2 (List.mem_range.2 h));unfold ahK;rw[VZ W hs (by rw[List.getElem?_eq_getElem hk',e'])]
 rwa [Xs,List.length_range] at hk'
theorem Zi4 (l:List Int)(j x:Nat) : ahK l j x<=j:=by
 have:=Jy (ltK l) (List.range j) x
 rwa [List.length_range] at this
def ZcH (l:List Int)(w:World)(e:Ending)(w':World) : Prop:=∃ (A:Option Addr) (c:Nat),e=.returned (.slice A l.length c)/\OwI w' w.heap.size A c l/\Ext w w'
theorem Zb9 (A1:Option Addr)(c1:Nat)(l:List Int)(w:World)(hA:RdI w A1 l)(hl:l.length<=1000) :
  Calls Tryz.prog 101 #[.slice A1 l.length c1] w (ZcH (Zd (Ua l)) w):=by
 unfold ZcH;rw[Zg,Vl];have PS:=Hd (fun k=>ZhC l k);have PL:=Hd (fun k=>Ziz l k);have PF:=Hd (ZhD l);have AS:=Hd (fun j x=>ZhB l j x);have AL:=Hd (fun k=>Zi3 l (k:=k));have AE:=Hd (fun j x=>Zi4 l j x);have P0:Hid (plK l 0=List.replicate l.length 0):=Hd (by
  show List.replicate (List.range l.length).length (0:Int)=_;rw[List.length_range])
 replace hA:=Hd hA;go_enter Tryz.func101,Tryz.ntmps101;go_wp2_with (at_make;refine Xd _ rfl _ _ rfl w.heap.size _ _ l.length rfl rfl rfl rfl (by omega) (Nat.le_refl _) ?_;rintro w3 o3 g3);have x3:Ext w w3:=(Ext.rf _).grownNone g3;rw[<-P0.out] at o3;have S3:Hid (OwI w3 w.heap.size (some ⟨w.heap.size,0,none⟩) l.length (plK l 0)/\Ext w w3):=⟨o3,x3⟩;clear o3 g3 x3;go_wp2_with (fail);go_loopw [4] (fun v wr=>∃ k:Nat,v=.int .i64 k/\k<=l.length/\Hid (OwI wr w.heap.size (some ⟨w.heap.size,0,none⟩) l.length (plK l k)/\Ext w wr)) (fun v _=>l.length-(intOf v).toNat)
 case atStart=>exact⟨0,rfl,by omega,S3⟩
 case round =>
  obtain⟨wo,rfl⟩:∃ wo:World,wo=wr:=⟨_,rfl⟩;obtain⟨k,rfl,hk,HS⟩:=hrel;clear S3
  by_cases hlt:k<l.length
  ·have q2:(k:Int)<(l.length:Int):=by omega
   have HPK:=Hd (PS.out k hlt);have hal:=AL.out k hlt;obtain⟨O,Y⟩:=HS.out;clear HS;replace O:=Hd O;replace Y:=Hd Y;have A0:Hid (ahK l 0 k=0):=rfl;go_wp2_with (fail);go_loopw [6,5] (fun v nv wr=>∃ j ah:Nat,v=.int .i64 j/\nv=.int .i64 ah/\j<=l.length/\Hid (ahK l j k=ah)/\Hid (Ext wo wr)) (fun v _ _=>l.length-(intOf v).toNat)
   case atStart=>exact⟨0,0,rfl,rfl,by omega,A0,Ext.rf _⟩
   case round =>
    obtain⟨wi,rfl⟩:∃ wi:World,wi=wr:=⟨_,rfl⟩;clear A0;obtain⟨j,ah,rfl,rfl,hj,HA,YI⟩:=hrel;have hale:=AE.out j k;rw[HA.out] at hale;have rl:RdI wi A1 l:=(hA.out.ext Y.out).ext YI.out;obtain⟨lb,lo,yk,rfl,_,ck,exk,_⟩:=rl.at (k:=k) hlt
    by_cases hjl:j<l.length
    ·have q3:(j:Int)<(l.length:Int):=by omega
     obtain⟨lb2,lo2,yj,hq,_,cj,exj,_⟩:=rl.at (k:=j) hjl;obtain⟨rfl,rfl⟩:lb=lb2/\lo=lo2:=by simpa using hq
     have HA2:Hid (ahK l (j+1) k=ah+if (decide (yj<yk) || (decide (yj=yk)&&decide (j<k)))=true then 1 else 0):=by
      have h:=AS.out j k;rw[HA.out,getD_some exk.out,getD_some exj.out] at h;exact h
     clear HA exk exj hq rl
     by_cases t1:yj<yk
     ·have d1:decide (yj<yk)=true:=decide_eq_true t1
      have HA3:Hid (ahK l (j+1) k=ah+1):=by
       have h:=HA2.out;rw[d1,Bool.true_or,if_pos rfl] at h;exact h
      clear HA2;go_wp2_with (fail);go_quiet (fail);go_wp2_with (fail);go_roundw
      case rel=>exact⟨j+1,ah+1,by go_num,by go_num,by omega,HA3,YI.out.drewN _⟩
      case measure=>simp[intOf];omega
     ·have d1:decide (yj<yk)=false:=decide_eq_false t1
      by_cases t2:yj=yk
      ·have d2:(yj==yk)=true:=by rw[beq_iff_eq];exact t2
       have d2':decide (yj=yk)=true:=decide_eq_true t2;replace t2:=Hd t2
       by_cases t3:j<k
       ·have d3:decide (j<k)=true:=decide_eq_true t3
        have HA3:Hid (ahK l (j+1) k=ah+1):=by
         have h:=HA2.out;rw[d1,d2',d3] at h;exact h
        clear HA2 d2';go_wp2_with (fail);go_quiet (fail);go_wp2_with (fail);go_roundw
        case rel=>exact⟨j+1,ah+1,by go_num,by go_num,by omega,HA3,YI.out.drewN _⟩
        case measure=>simp[intOf];omega
       ·have d3:decide (j<k)=false:=decide_eq_false t3
        have HA3:Hid (ahK l (j+1) k=ah):=by
         have h:=HA2.out;rw[d1,d2',d3] at h;exact h
        clear HA2 d2';go_wp2_with (fail);go_quiet (fail);go_wp2_with (fail);go_roundw
        case rel=>exact⟨j+1,ah,by go_num,rfl,by omega,HA3,YI.out.drewN _⟩
        case measure=>simp[intOf];omega
      ·have d2:(yj==yk)=false:=by rw[beq_eq_false_iff_ne];exact t2
       have d2':decide (yj=yk)=false:=decide_eq_false t2;have HA3:Hid (ahK l (j+1) k=ah):=by
        have h:=HA2.out;rw[d1,d2'] at h;exact h
       clear HA2 d2';go_wp2_with (fail);go_quiet (fail);go_wp2_with (fail);go_roundw
       case rel=>exact⟨j+1,ah,by go_num,rfl,by omega,HA3,YI.out.drewN _⟩
       case measure=>simp[intOf];omega
    ·obtain rfl:j=l.length:=by omega
     have q3:¬(l.length:Int)<(l.length:Int):=by omega
     rw[HA.out] at hal HPK;obtain⟨v9,c9,f9,_,_,s9⟩:=OwI.cell (OwI.ext O.out YI.out) (k:=ah) (by rw[PL.out];exact hal);have q4:(ah:Int)<(l.length:Int):=by omega
     have NX:Hid (∀ W2,Ext wi W2->OwI (W2.setCell ⟨w.heap.size,ah,none⟩ (.int .i64 k)) w.heap.size (some ⟨w.heap.size,0,none⟩) l.length (plK l (k+1))/\Ext w (W2.setCell ⟨w.heap.size,ah,none⟩ (.int .i64 k))):=by
      intro W2 x2;rw[HPK.out];obtain⟨_,_,_,_,_,s8⟩:=OwI.cell (OwI.ext (OwI.ext O.out YI.out) x2) (k:=ah) (by rw[PL.out];exact hal);exact⟨s8.out _,((Y.out.tr YI.out).tr x2).setNew (p:=⟨w.heap.size,ah,none⟩) (Nat.le_refl _) _⟩
     clear s9 HPK rl HA exk;go_wp2_with (first | go_quiet (fail) | go_region);go_roundw
     case rel=>exact⟨k+1,by go_num,by omega,NX.out _ (by(repeat (first | assumption | exact Ext.rf _ | apply Ext.drew | apply Ext.drewN | apply Ext.alloc)))⟩
     case measure=>simp[intOf];omega
  ·obtain rfl:k=l.length:=by omega
   have q2:¬(l.length:Int)<(l.length:Int):=by omega
   obtain⟨O,Y⟩:=HS.out;rw[PF.out] at O;replace O:=Hd O;replace Y:=Hd Y;clear HS;go_wp2_with (fail);go_ret;exact⟨_,_,rfl,O.out,Y.out⟩
theorem Ze6 (P:Option Addr)(pc:Nat)(l:List Int)(w:World)(hP:RdI w P l)(hl:l.length<=1000) :
  Calls Tryz.prog 67 #[.slice P l.length pc] w (ZcH (WH l) w):=by
 have BK:=fun(W:World) (x:Ext w W)=>Zb9 P pc l W (hP.ext x) hl
 unfold ZcH at BK ⊢;rw[Zg,Vl] at BK;have bl1:=Vl l;have BL:Hid (∀ k a,(Ua l)[k]?=some a->a<l.length):=fun k a h=>Zd1 h
 have RL:=Ux l;have RE:WH l=(Ua l).map fun a=>l.getD a 0:=rfl
 obtain⟨R,hR⟩:∃ R,Hid (WH l=R):=⟨_,rfl⟩;rw[hR.out] at RE RL ⊢;replace RE:=Hd RE;rw[RL];replace BK:=Hd BK;generalize Ua l=o at *;replace hP:=Hd hP;replace RL:=Hd RL;replace bl1:=Hd bl1;clear hR;go_enter Tryz.func67,Tryz.ntmps67;go_wp2_with (fail);refine(BK.out _ (by(repeat (first | assumption | exact Ext.rf _ | apply Ext.drew | apply Ext.drewN | apply Ext.alloc)))).mono ?_;rintro e w1 ⟨A1,c1,rfl,o1,x1⟩;have X1:=Hd (Ext.tr (a:=w) (by(repeat (first | assumption | exact Ext.rf _ | apply Ext.drew | apply Ext.drewN | apply Ext.alloc))) x1);have r1:=Hd o1.read;have z1:=X1.out.size;clear x1 o1 BK;have S0:Hid (OwI (w1.alloc (.cells #[] 3)) w1.heap.size (some ⟨w1.heap.size,0,none⟩) 0 []):=OwI.empty (.new rfl) (Nat.le_refl _);go_wp2_with (fail);go_loopw [4,5] (fun v4 v wr=>∃ (k:Nat) (B:Option Addr) (bc:Nat) (xs:List Int),v=.int .i64 k/\v4=.slice B xs.length bc/\k<=l.length/\Hid (xs=(o.take k).map fun a=>l.getD a 0)/\Hid (OwI wr w1.heap.size B bc xs)/\Hid (Ext w1 wr)) (fun _ v _=>l.length-(intOf v).toNat)
 case atStart=>exact⟨0,_,0,[],rfl,rfl,by omega,rfl,S0.out.ext (by(repeat (first | assumption | exact Ext.rf _ | apply Ext.drew | apply Ext.drewN | apply Ext.alloc))),by(repeat (first | assumption | exact Ext.rf _ | apply Ext.drew | apply Ext.drewN | apply Ext.alloc))⟩
 case round =>
  obtain⟨wo,rfl⟩:∃ wo:World,wo=wr:=⟨_,rfl⟩;clear S0;obtain⟨k,B,bc,xs,rfl,rfl,hk,hx,oB,Y⟩:=hrel;have lk:xs.length<=l.length:=by rw[hx.out,List.length_map,List.length_take,bl1.out];omega
  by_cases hlt:k<l.length
  ·obtain⟨a,ha⟩:∃ a,Hid (o[k]?=some a):=⟨o[k]'(by rw[bl1.out];exact hlt),List.getElem?_eq_getElem _⟩
   have hal:=BL.out k a ha.out;obtain⟨ob,oo,av,rfl,zo,co,eo,_⟩:=(r1.out.ext Y.out).at (k:=k) (by rw[Zg,bl1.out];exact hlt);obtain rfl:av=(a:Int):=by
    have h:=eo.out;rw[ZD ha.out] at h;exact(Option.some.inj h).symm
   obtain⟨lb,lo,x,rfl,zl,cl,el,_⟩:=((hP.out.ext X1.out).ext Y.out).at (k:=a) hal;have q1:(k:Int)<(l.length:Int):=by omega
   have q2:(a:Int)<(l.length:Int):=by omega
   have NX:Hid (xs++[x]=(o.take (k+1)).map fun a=>l.getD a 0):=Hd (by
    rw[List.take_add_one,ha.out,List.map_append,hx.out];simp[List.getD,el.out])
   clear eo el hx;go_wp2_with (at_builtin;(refine ZG _ rfl _ _ rfl w1.heap.size B xs.length bc xs [x] (some ⟨wo.heap.size,0,none⟩) 1 rfl rfl rfl ?_ ?_ ?_ ?_ ?_;(exact oB.out.ext ((Ext.rf _).alloc _));(exact .blk (.new (by simp)) rfl);(simp;omega);(have:=Y.out.size;simp;omega);rintro A7 c7 w7 o7 g7 _;have Y7:Ext w1 w7:=Ext.grow (a:=w1) (Y.out.alloc _) g7 (fun kk hkk=>(oB.out.lt kk hkk).1)));have O7:Hid (OwI w7 w1.heap.size A7 c7 (xs++[x])):=o7;replace Y7:=Hd Y7;clear o7 g7;go_wp2_with (fail);go_roundw
   case rel=>exact⟨k+1,A7,c7,xs++[x],by go_num,by first | rfl | simp,by omega,NX,OwI.ext O7.out (by(repeat (first | assumption | exact Ext.rf _ | apply Ext.drew | apply Ext.drewN | apply Ext.alloc))),Ext.tr Y7.out (by(repeat (first | assumption | exact Ext.rf _ | apply Ext.drew | apply Ext.drewN | apply Ext.alloc)))⟩
   case measure=>simp[intOf];omega
  ·obtain rfl:k=l.length:=by omega
   have E:Hid (xs=R):=by
    have h:=hx.out;rw[<-bl1.out,List.take_length,<-RE.out] at h;exact h
   have E2:Hid (OwI wo w.heap.size B bc R):=by
    have h:=oB.out;rw[E.out] at h;exact h.more z1
   have E3:Hid (Value.slice B xs.length bc=.slice B l.length bc):=Hd (by rw[E.out,RL.out]);rw[E3.out];go_wp2_with (fail);go_ret;exact⟨B,bc,rfl,E2.out.ext (by(repeat (first | assumption | exact Ext.rf _ | apply Ext.drew | apply Ext.drewN | apply Ext.alloc))),(X1.out.tr Y.out).tr (by(repeat (first | assumption | exact Ext.rf _ | apply Ext.drew | apply Ext.drewN | apply Ext.alloc)))⟩
theorem Zgu (i:InstP)(us:List Value)(P:Option Addr)(c:Nat)(p:List Int)(w:World)(H:RInst w us i)(ok:KnapOk i)(hP:RdI w P p)(lp:p.length<=1000000000) :
  Calls Tryz.prog 115 #[.agg (List.toArray us),.slice P p.length c] w (Zds (VJ i.cap (wsP i) (vsP i) p).1 (VJ i.cap (wsP i) (vsP i) p).2 w):=by
 have K:=kok ok;have lN:=WG ok;have ST:=fun(W:World) (x:Ext w W)=>ZaV i us P c p W (H.ext x) ok (hP.ext x) lp
 have LM:∀ k q,(ZS i)[k]?=some q->q<i.weight.length:=fun k q h=>by
  have h1:=Qc h;have:=ok.w;have:=ok.v;omega
 have EW:∀ k q x,(ZS i)[k]?=some q->i.weight[q]?=some x->(wsP i)[k]?=some x:=fun k q x h1 h2=>WZ h1 h2
 have K2:=K.l64;have K3:=K.lw;generalize ZS i=l at *;generalize wsP i=ws at *;generalize vsP i=vs at *;clear K ok;obtain⟨kind,nn,cap,xw,xv,co⟩:=i;obtain⟨A,a,B,b,D,d,rfl,⟨rA,iA,lA,mA⟩,-,-⟩:=H;simp only at *;obtain⟨n,rfl⟩:∃ n:Nat,nn=(n:Int):=⟨nn.toNat,by omega⟩;have hn:l.length=n:=by omega
 clear lN;have hn2:n<=64:=by omega
 replace ST:=Hd ST;replace LM:=Hd LM;replace EW:=Hd EW;replace K3:=Hd K3;replace rA:=Hd rA;replace iA:=Hd iA;replace mA:=Hd mA;replace hn:=Hd hn;have B1:Hid (Blk (w.alloc (.cells #[.int .i64 kind,.int .i64 n,.int .i64 cap,.slice A xw.length a,.slice B xv.length b,.slice D co.length d] 25)) w.heap.size 25 #[.int .i64 kind,.int .i64 n,.int .i64 cap,.slice A xw.length a,.slice B xv.length b,.slice D co.length d]):=.new rfl;obtain⟨ks,hks⟩:∃ ks,Hid (VJ cap ws vs p=ks):=⟨_,rfl⟩;rw[hks.out];have HK:∀ o,stP cap 0 ws vs p=o->ks=(match o with
  | none=>([],1)
  | some (room,_)=>match ws.drop p.length with
   | []=>([],0)
   | u::_=>if u<=room then([1,0],0) else([0],0)):=fun o ho=>by subst ho;exact hks.out.symm
 have HL:Hid (∀ q,stP cap 0 ws vs p=some q->p.length<=n):=fun q hq=>by
  by_cases h:ws.length<p.length
  ·rw[QT h] at hq;cases hq
  ·have h3:=K3.out;have h4:=hn.out;omega
 replace HK:=Hd HK;obtain⟨st,hst⟩:∃ st,Hid (stP cap 0 ws vs p=st):=⟨_,rfl⟩;rw[hst.out] at ST;have HK2:=HK.out _ hst.out;clear HK hks;rcases st with _ | ⟨room,out⟩
 ·simp only at HK2
  subst HK2;go_enter Tryz.func115,Tryz.ntmps115;go_wp2_with (fail);refine(ST.out _ (by(repeat (first | assumption | exact Ext.rf _ | apply Ext.drew | apply Ext.drewN | apply Ext.alloc)))).mono ?_;rintro e w1 ⟨x1,rfl⟩;have X1:=Ext.tr (a:=w) (by(repeat (first | assumption | exact Ext.rf _ | apply Ext.drew | apply Ext.drewN | apply Ext.alloc))) x1;go_wp2;go_ret2;exact⟨none,0,rfl,.inl rfl,by simp,by omega,X1⟩
 ·have hle:=HL.out _ hst.out
  simp only at HK2
  by_cases hpl:p.length=n
  ·have hd:ws.drop p.length=[]:=List.drop_of_length_le (by have h3:=K3.out;have h4:=hn.out;omega)
   rw[hd] at HK2;simp only at HK2;subst HK2;have hpl':((p.length:Int)==(n:Int))=true:=by rw[beq_iff_eq];omega
   clear hd hpl;go_enter Tryz.func115,Tryz.ntmps115;go_wp2_with (fail);refine(ST.out _ (by(repeat (first | assumption | exact Ext.rf _ | apply Ext.drew | apply Ext.drewN | apply Ext.alloc)))).mono ?_;rintro e w1 ⟨x1,LA,lc,rfl,rL⟩;have X1:=Ext.tr (a:=w) (by(repeat (first | assumption | exact Ext.rf _ | apply Ext.drew | apply Ext.drewN | apply Ext.alloc))) x1;have d1:w1.cell? ⟨w.heap.size,1,none⟩=some (.int .i64 n):=(B1.out.ext x1).cell 1;go_wp2;go_ret2;exact⟨none,0,rfl,.inl rfl,by simp,by omega,X1⟩
  ·have hpn:p.length<n:=by omega
   have hpl':((p.length:Int)==(n:Int))=false:=by rw[beq_eq_false_iff_ne];omega
   have hkl:p.length<l.length:=by rw[hn.out];exact hpn
   obtain⟨q,hq0⟩:∃ q,Hid (l[p.length]?=some q):=⟨l[p.length],List.getElem?_eq_getElem hkl⟩;have hqw:=LM.out _ q hq0.out;obtain⟨wb,wo,u,rfl,zu,cu,eu,_⟩:=rA.out.at hqw;have du:ws.drop p.length=u::ws.drop (p.length+1):=by
    obtain⟨h1,h2⟩:=List.getElem?_eq_some_iff.1 (EW.out _ q u hq0.out eu.out);rw[List.drop_eq_getElem_cons h1,h2]
   rw[du] at HK2;simp only at HK2;have qi1:(q:Int)<(xw.length:Int):=by omega
   have qi3:(p.length:Int)<(l.length:Int):=by omega
   clear du hpl eu;have step:∀ (W:World),W.cell? ⟨w.heap.size,1,none⟩=some (.int .i64 n)->True:=fun _ _=>trivial
   clear step
   by_cases hu:u<=room
   ·rw[if_pos hu] at HK2
    subst HK2;go_enter Tryz.func115,Tryz.ntmps115;go_wp2_with (fail);refine(ST.out _ (by(repeat (first | assumption | exact Ext.rf _ | apply Ext.drew | apply Ext.drewN | apply Ext.alloc)))).mono ?_;rintro e w1 ⟨x1,LA,lc,rfl,rL⟩;have X1:=Ext.tr (a:=w) (by(repeat (first | assumption | exact Ext.rf _ | apply Ext.drew | apply Ext.drewN | apply Ext.alloc))) x1;have d1:w1.cell? ⟨w.heap.size,1,none⟩=some (.int .i64 n):=(B1.out.ext x1).cell 1;have d3:w1.cell? ⟨w.heap.size,3,none⟩=some (.slice (some ⟨wb,wo,none⟩) xw.length a):=(B1.out.ext x1).cell 3;obtain⟨qb,qo,qi,rfl,zq,cq,eq,_⟩:=rL.at (k:=p.length) (by rw[Zcu];exact hkl);obtain rfl:qi=(q:Int):=by
     have h1:=Zcv hq0.out;rw[eq.out] at h1;exact Option.some.inj h1
    have ku:=Zc X1 zu cu;clear eq rL;go_wp2_with (go_quiet (fail))
    all_goals go_ret2
    all_goals exact⟨some ⟨w1.heap.size,0,none⟩,2,rfl,.blk (by(first | exact .new (by simp) | exact .drew (.new (by simp)) | exact .alloc (.new (by simp)) _ | exact .drew (.alloc (.new (by simp)) _) | exact .alloc (.alloc (.new (by simp)) _) _ | exact .drew (.alloc (.alloc (.new (by simp)) _) _) | (repeat (first | assumption | (refine Blk.new ?_;(focus (simp;done))) | apply Blk.drew | apply Blk.drewN | apply Blk.alloc)))) rfl,by simp,by omega,by(repeat (first | assumption | exact Ext.rf _ | apply Ext.drew | apply Ext.drewN | apply Ext.alloc))⟩
   ·rw[if_neg hu] at HK2
    subst HK2;go_enter Tryz.func115,Tryz.ntmps115;go_wp2_with (fail);refine(ST.out _ (by(repeat (first | assumption | exact Ext.rf _ | apply Ext.drew | apply Ext.drewN | apply Ext.alloc)))).mono ?_;rintro e w1 ⟨x1,LA,lc,rfl,rL⟩;have X1:=Ext.tr (a:=w) (by(repeat (first | assumption | exact Ext.rf _ | apply Ext.drew | apply Ext.drewN | apply Ext.alloc))) x1;have d1:w1.cell? ⟨w.heap.size,1,none⟩=some (.int .i64 n):=(B1.out.ext x1).cell 1;have d3:w1.cell? ⟨w.heap.size,3,none⟩=some (.slice (some ⟨wb,wo,none⟩) xw.length a):=(B1.out.ext x1).cell 3;obtain⟨qb,qo,qi,rfl,zq,cq,eq,_⟩:=rL.at (k:=p.length) (by rw[Zcu];exact hkl);obtain rfl:qi=(q:Int):=by
     have h1:=Zcv hq0.out;rw[eq.out] at h1;exact Option.some.inj h1
    have ku:=Zc X1 zu cu;clear eq rL;go_wp2_with (go_quiet (fail))
    all_goals go_ret2
    all_goals exact⟨some ⟨w1.heap.size,0,none⟩,1,rfl,.blk (by(first | exact .new (by simp) | exact .drew (.new (by simp)) | exact .alloc (.new (by simp)) _ | exact .drew (.alloc (.new (by simp)) _) | exact .alloc (.alloc (.new (by simp)) _) _ | exact .drew (.alloc (.alloc (.new (by simp)) _) _) | (repeat (first | assumption | (refine Blk.new ?_;(focus (simp;done))) | apply Blk.drew | apply Blk.drewN | apply Blk.alloc)))) rfl,by simp,by omega,by(repeat (first | assumption | exact Ext.rf _ | apply Ext.drew | apply Ext.drewN | apply Ext.alloc))⟩
theorem Ze7 (i:InstP)(us:List Value)(P:Option Addr)(c:Nat)(p:List Int)(w:World)(H:RInst w us i)(ok:KnapOk i)(hP:RdI w P p)(lp:p.length<=1000000000) :
  Calls Tryz.prog 97 #[.agg (List.toArray us),.slice P p.length c] w fun e w'=>e=.returned (Q7 (YO i.cap (wsP i) (vsP i) p))/\Ext w w':=by
 have K:=kok ok;have lN:=WG ok;have ST:=fun(W:World) (x:Ext w W)=>ZaV i us P c p W (H.ext x) ok (hP.ext x) lp
 have LM:∀ k q,(ZS i)[k]?=some q->q<i.weight.length/\q<i.value.length:=fun k q h=>by
  have h1:=Qc h;have:=ok.w;have:=ok.v;omega
 have EW:∀ k q x,(ZS i)[k]?=some q->i.weight[q]?=some x->(wsP i)[k]?=some x:=fun k q x h1 h2=>WZ h1 h2
 have EV:∀ k q x,(ZS i)[k]?=some q->i.value[q]?=some x->(vsP i)[k]?=some x:=fun k q x h1 h2=>WZ h1 h2
 have K1:=K.cap;have K2:=K.l64;have K3:=K.lw;have K4:=K.lv;have K5:=K.sw;have K6:=K.sv;generalize ZS i=l at *;generalize wsP i=ws at *;generalize vsP i=vs at *;clear K ok;obtain⟨kind,nn,cap,xw,xv,co⟩:=i;obtain⟨A,a,B,b,D,d,rfl,⟨rA,iA,lA,mA⟩,⟨rB,iB,lB,mB⟩,-⟩:=H;simp only at *;obtain⟨n,rfl⟩:∃ n:Nat,nn=(n:Int):=⟨nn.toNat,by omega⟩;have hn:l.length=n:=by omega
 clear lN;have hn2:n<=64:=by omega
 replace ST:=Hd ST;replace LM:=Hd LM;replace EW:=Hd EW;replace EV:=Hd EV;replace K3:=Hd K3;replace K4:=Hd K4;replace K5:=Hd K5;replace K6:=Hd K6;replace rA:=Hd rA;replace rB:=Hd rB;replace iA:=Hd iA;replace iB:=Hd iB;replace mA:=Hd mA;replace mB:=Hd mB;replace hn:=Hd hn;have B1:Hid (Blk (w.alloc (.cells #[.int .i64 kind,.int .i64 n,.int .i64 cap,.slice A xw.length a,.slice B xv.length b,.slice D co.length d] 25)) w.heap.size 25 #[.int .i64 kind,.int .i64 n,.int .i64 cap,.slice A xw.length a,.slice B xv.length b,.slice D co.length d]):=.new rfl;obtain⟨bd,hbd⟩:∃ bd,Hid (YO cap ws vs p=bd):=⟨_,rfl⟩;rw[hbd.out];have HK:∀ o,stP cap 0 ws vs p=o->bd=(match o with
  | none=>(0,1)
  | some (room,out)=>(out+Zj (vs.drop p.length)-Zz room (ws.drop p.length) (vs.drop p.length),0)):=fun o ho=>by subst ho;exact hbd.out.symm
 have HL:Hid (∀ q,stP cap 0 ws vs p=some q->p.length<=n):=fun q hq=>by
  by_cases h:ws.length<p.length
  ·rw[QT h] at hq;cases hq
  ·have h3:=K3.out;have h4:=hn.out;omega
 replace HK:=Hd HK;obtain⟨st,hst⟩:∃ st,Hid (stP cap 0 ws vs p=st):=⟨_,rfl⟩;rw[hst.out] at ST;have HK2:=HK.out _ hst.out;clear HK hbd;rcases st with _ | ⟨room,out⟩
 ·simp only at HK2
  subst HK2;go_enter Tryz.func97,Tryz.ntmps97;go_wp2_with (fail);refine(ST.out _ (by(repeat (first | assumption | exact Ext.rf _ | apply Ext.drew | apply Ext.drewN | apply Ext.alloc)))).mono ?_;rintro e w1 ⟨x1,rfl⟩;have X1:=Ext.tr (a:=w) (by(repeat (first | assumption | exact Ext.rf _ | apply Ext.drew | apply Ext.drewN | apply Ext.alloc))) x1;go_wp2;go_ret2;exact⟨rfl,X1⟩
 ·simp only at HK2
  have hle:=HL.out _ hst.out;have bR:=UN (fun x hx=>(K5.out x hx).1) K1.1 hst.out;have bO:=Zak K6.out hst.out;obtain⟨T,hT⟩:∃ T,Hid (T=Zj (vs.drop p.length)):=⟨_,rfl⟩;obtain⟨G,hG⟩:∃ G,Hid (G=Zz room (ws.drop p.length) (vs.drop p.length)):=⟨_,rfl⟩;rw[<-hT.out,<-hG.out] at HK2;subst HK2;have bT:=Zih K6.out p.length;have b0:0<=G:=by
   rw[hG.out];exact UO bR.1 (fun x hx=>(K5.out x (List.mem_of_mem_drop hx)).1) (fun x hx=>(K6.out x (List.mem_of_mem_drop hx)).1)
  have b9:G<=T:=by
   rw[hG.out,hT.out];exact Qx bR.1 (fun x hx=>(K5.out x (List.mem_of_mem_drop hx)).1) (fun x hx=>(K6.out x (List.mem_of_mem_drop hx)).1)
  have bT2:T<=137438953408:=by
   have h3:=K4.out;have h4:=hn.out;rw[<-hT.out] at bT;have:=bT.2;omega
  clear bT;obtain⟨bR1,bR2⟩:=bR;obtain⟨bO1,bO2⟩:=bO;obtain⟨kc1,kc2⟩:=K1;go_enter Tryz.func97,Tryz.ntmps97;go_wp2_with (fail);refine(ST.out _ (by(repeat (first | assumption | exact Ext.rf _ | apply Ext.drew | apply Ext.drewN | apply Ext.alloc)))).mono ?_;rintro e w1 ⟨x1,LA,lc,rfl,rL⟩;have X1:=Hd (Ext.tr (a:=w) (by(repeat (first | assumption | exact Ext.rf _ | apply Ext.drew | apply Ext.drewN | apply Ext.alloc))) x1);have BB:=Hd (B1.out.ext x1);have d1:=BB.out.c1;have d3:=BB.out.c3;have d4:=BB.out.c4;have zb:=BB.out.lt;replace rL:=Hd rL;clear x1;go_wp2_with (fail);go_loopw [7,10,11,12,13] (fun r t u m i wr=>∃ (k:Nat) (rm rest up:Int) (more:Bool),i=.int .i64 k/\r=.int .i64 rm/\t=.int .i64 rest/\u=.int .i64 up/\m=.bool more/\k<=n/\0<=rm/\rm<=2147483647/\0<=rest/\rest<=2147483647*(k:Int)/\0<=up/\up<=rest /\
    Hid (T=rest+Zj (vs.drop k))/\Hid (if more=true then G=up+Zz rm (ws.drop k) (vs.drop k) else G=up)/\Ext w1 wr) (fun _ _ _ _ i _=>n-(intOf i).toNat)
  case atStart=>exact⟨p.length,room,0,0,true,rfl,rfl,rfl,rfl,rfl,hle,bR1,by omega,by omega,by omega,by omega,by omega,by rw[Int.zero_add];exact hT,by
   have h:G=0+Zz room (ws.drop p.length) (vs.drop p.length):=by rw[Int.zero_add];exact hG.out
   exact h,Ext.rf _⟩
  case round =>
   obtain⟨wo,rfl⟩:∃ wo:World,wo=wr:=⟨_,rfl⟩;obtain⟨k,rm,rest,up,more,rfl,rfl,rfl,rfl,rfl,hk,q1,q2,q3,q4,q5,q6,HT,HG,Y⟩:=hrel;have e1:=Zc Y zb d1
   by_cases hlt:k<n
   ·have hkl:k<l.length:=by rw[hn.out];exact hlt
    obtain⟨q,hq0⟩:∃ q,Hid (l[k]?=some q):=⟨l[k],List.getElem?_eq_getElem hkl⟩;obtain⟨qb,qo,qi,rfl,zq,cq,eq,_⟩:=(rL.out.ext Y).at (k:=k) (by rw[Zcu];exact hkl);obtain rfl:qi=(q:Int):=by
     have h1:=Zcv hq0.out;rw[eq.out] at h1;exact Option.some.inj h1
    obtain⟨hqw,hqv⟩:=LM.out k q hq0.out;obtain⟨wb,wo',u,rfl,zu,cu,eu,_⟩:=(rA.out.ext (X1.out.tr Y)).at hqw;obtain⟨vb,vo',v,rfl,zv,cv,ev,_⟩:=(rB.out.ext (X1.out.tr Y)).at hqv;have du:Hid (ws.drop k=u::ws.drop (k+1)):=by
     obtain⟨h1,h2⟩:=List.getElem?_eq_some_iff.1 (EW.out k q u hq0.out eu.out);exact(by rw[List.drop_eq_getElem_cons h1,h2]:ws.drop k=u::ws.drop (k+1))
    have dv:Hid (vs.drop k=v::vs.drop (k+1)):=by
     obtain⟨h1,h2⟩:=List.getElem?_eq_some_iff.1 (EV.out k q v hq0.out ev.out);exact(by rw[List.drop_eq_getElem_cons h1,h2]:vs.drop k=v::vs.drop (k+1))
    have bu:=K5.out.get (EW.out k q u hq0.out eu.out);have bv:=K6.out.get (EV.out k q v hq0.out ev.out);have e3:=Zc Y zb d3;have e4:=Zc Y zb d4;have qi1:(q:Int)<(xw.length:Int):=by omega
    have qi2:(q:Int)<(xv.length:Int):=by omega
    have qi3:(k:Int)<(l.length:Int):=by omega
    have HT2:Hid (T=(rest+v)+Zj (vs.drop (k+1))):=by
     have h:=HT.out;rw[dv.out] at h;simp only[Zj] at h;have h2:T=(rest+v)+Zj (vs.drop (k+1)):=by omega
     exact h2
    clear HT eu ev eq
    cases more with
    | false =>
     have hG2:(if (false:Bool)=true then G=up+Zz rm (ws.drop (k+1)) (vs.drop (k+1)) else G=up):=by
      have h:=HG.out;rw[if_neg (by decide)] at h ⊢;exact h
     have HG2:=Hd hG2;clear hG2 HG du dv;go_wp2_with (go_quiet (fail));go_roundw
     case rel=>exact⟨k+1,rm,rest+v,up,false,by go_num,rfl,rfl,rfl,rfl,by omega,by omega,by omega,by omega,by omega,by omega,by omega,HT2,HG2,by repeat (first | exact Y | apply Ext.drewN)⟩
     case measure=>simp[intOf];omega
    | true =>
     have hG1:G=up+Zz rm (u::ws.drop (k+1)) (v::vs.drop (k+1)):=by
      have h:=HG.out;rw[if_pos rfl,du.out,dv.out] at h;exact h
     replace hG1:=Hd hG1;clear HG du dv
     by_cases hle2:u<=rm
     ·have hG2:(if (true:Bool)=true then G=(up+v)+Zz (rm-u) (ws.drop (k+1)) (vs.drop (k+1)) else G=up+v):=by
       have h:=hG1.out;rw[Zz,if_neg (by omega),<-Int.add_assoc] at h;rw[if_pos rfl];exact h
      have HG2:=Hd hG2;clear hG2;go_wp2_with (go_quiet (fail));go_roundw
      case rel=>exact⟨k+1,rm-u,rest+v,up+v,true,by go_num,rfl,rfl,rfl,rfl,by omega,by omega,by omega,by omega,by omega,by omega,by omega,HT2,HG2,by repeat (first | exact Y | apply Ext.drewN)⟩
      case measure=>simp[intOf];omega
     ·have hm:=Un bv.1 bv.2 q1 q2
      have hpos:0<u:=by omega
      have hqv2:v*rm / u<=v:=by
       have h1:v*rm<=v*u:=Int.mul_le_mul_of_nonneg_left (by omega) bv.1;have h2:v*rm / u<=v*u / u:=Int.ediv_le_ediv hpos h1
       rwa [Int.mul_ediv_cancel _ (by omega)] at h2
      have hq0':0<=v*rm / u:=Int.ediv_nonneg hm.1 (by omega);have hG2:(if (false:Bool)=true then G=(up+v*rm / u)+Zz rm (ws.drop (k+1)) (vs.drop (k+1)) else G=up+v*rm / u):=by
       have h:=hG1.out;rw[Zz,if_pos (by omega)] at h;rw[if_neg (by decide)];exact h
      have HG2:=Hd hG2;clear hG2;obtain⟨z,hz⟩:∃ z,Hid (z=v*rm / u):=⟨_,rfl⟩;rw[<-hz.out] at hqv2 hq0' HG2;have w1':wrap64 (v*rm)=v*rm:=IntWalk.wrap64_in _ ⟨by omega,by omega⟩;have w2':(v*rm).tdiv u=z:=by rw[Int.tdiv_eq_ediv_of_nonneg hm.1,hz.out]
      have w3':v*rm / u=z:=hz.out.symm;clear hm;go_wp2_with (go_quiet (fail));go_roundw
      case rel=>exact⟨k+1,rm,rest+v,up+z,false,by go_num,rfl,rfl,rfl,rfl,by omega,by omega,by omega,by omega,by omega,by omega,by omega,HT2,HG2,by repeat (first | exact Y | apply Ext.drewN)⟩
      case measure=>simp[intOf];omega
   ·obtain rfl:k=n:=by omega
    have HT2:Hid (rest=T):=by
     have h:=HT.out;rw[List.drop_of_length_le (l:=vs) (i:=k) (by have h3:=K4.out;have h4:=hn.out;omega)] at h;simp only[Zj] at h;have h2:rest=T:=by omega
     exact h2
    have HG2:Hid (up=G):=by
     have h:=HG.out;rw[List.drop_of_length_le (l:=ws) (i:=k) (by have h3:=K3.out;have h4:=hn.out;omega)] at h;have h0:Zz rm [] (vs.drop k)=0:=by cases vs.drop k<;>rfl
     rw[h0,Int.add_zero] at h;have h2:up=G:=by
      cases more with
      | true=>rw[if_pos rfl] at h;exact h.symm
      | false=>rw[if_neg (by decide)] at h;exact h.symm
     exact h2
    obtain rfl:=HT2.out;obtain rfl:=HG2.out;clear HT HG hT hG HT2 HG2;go_wp2_with (fail);go_ret2;exact⟨rfl,X1.out.tr Y⟩
def W8 (l:List Int)(w:World)(e:Ending)(w':World) : Prop:=∃ (A:Option Addr) (c:Nat) (er:Int),e=.returned (.tuple #[.slice A l.length c,.int .i64 er])/\RdI w' A l/\Ext w w'
def Wu (b:Int)(w:World)(e:Ending)(w':World) : Prop:=∃ er:Int,e=.returned (.tuple #[.int .i64 b,.int .i64 er])/\Ext w w'
theorem Jg (i:InstP)(us:List Value)(w:World)(H:RInst w us i)(hc:Zh i=0) :
  Calls Tryz.prog 54 #[.agg (List.toArray us)] w fun e w'=>e=.returned (.int .i64 (Zi i))/\Ext w w':=by
 have hn:1<=i.n/\i.n<=64:=by
  rcases ZU hc with h | h | h
  ·have ok:=ZR hc h;exact⟨ok.n1,ok.n2⟩
  ·have sq:=Zp hc (by omega);exact⟨sq.n1,by have:=sq.n2;omega⟩
  ·have sq:=Zp hc (by omega);exact⟨sq.n1,by have:=sq.n2;omega⟩
 have hd:Hid ((Zi i:Int)=if i.kind=3 then i.n-1 else i.n):=Hd (by
  unfold Zi;split<;>omega)
 obtain⟨D,hD⟩:∃ D:Int,Hid ((Zi i:Int)=D):=⟨_,rfl⟩;rw[hD.out] at hd ⊢;clear hc hD;obtain⟨kind,nn,cap,xw,xv,co⟩:=i;obtain⟨A,a,B,b,Dd,d,rfl,-,-,-⟩:=H;simp only at *
 by_cases hk:kind=3
 ·subst hk
  have E:Hid (nn-1=D):=by
   have h:=hd.out;rw[if_pos rfl] at h;exact h.symm
  clear hd;go_enter Tryz.func54,Tryz.ntmps54;go_wp2_with (fail);go_ret;exact⟨ZM E.out,by(repeat (first | assumption | exact Ext.rf _ | apply Ext.drew | apply Ext.drewN | apply Ext.alloc))⟩
 ·have hk1:(kind==3)=false:=by simpa using hk
  have E:Hid (nn=D):=by
   have h:=hd.out;rw[if_neg hk] at h;exact h.symm
  clear hd;go_enter Tryz.func54,Tryz.ntmps54;go_wp2_with (fail);go_ret;exact⟨ZM E.out,by(repeat (first | assumption | exact Ext.rf _ | apply Ext.drew | apply Ext.drewN | apply Ext.alloc))⟩
theorem Zgv (i:InstP)(us:List Value)(P:Option Addr)(c:Nat)(p:List Int)(w:World)(H:RInst w us i)(hc:Zh i=0)(hk:i.kind=1)(hP:RdI w P p)(lp:p.length<=1000000000) :
  Calls Tryz.prog 66 #[.agg (List.toArray us),.slice P p.length c] w (W8 (YH i p) w):=by
 have e:YH i p=(VJ i.cap (wsP i) (vsP i) p).1:=by unfold YH;rw[if_pos hk]
 have KI:Hid (∀ W,Ext w W->Calls Tryz.prog 115 #[.agg (List.toArray us),.slice P p.length c] W (W8 (YH i p) W)):=fun W x=>by
  refine(Zgu i us P c p W (H.ext x) (ZR hc hk) (hP.ext x) lp).mono ?_;intro e1 w1 h;unfold Zds at h;obtain⟨A1,c1,rfl,r1,-,-,x1⟩:=h;exact⟨A1,c1,_,by rw[e],by rw[e];exact r1,x1⟩
 unfold W8 at KI ⊢;clear e hc;generalize YH i p=l at *;obtain⟨kind,nn,cap,xw,xv,co⟩:=i;obtain⟨A,a,B,b,D,d,rfl,-,-,-⟩:=H;simp only at *;subst hk;go_enter Tryz.func66,Tryz.ntmps66;go_wp2_with (fail);refine(KI.out _ (by(repeat (first | assumption | exact Ext.rf _ | apply Ext.drew | apply Ext.drewN | apply Ext.alloc)))).mono ?_;rintro e w1 ⟨A1,c1,er,rfl,r1,x1⟩;have X1:=Hd (Ext.tr (a:=w) (by(repeat (first | assumption | exact Ext.rf _ | apply Ext.drew | apply Ext.drewN | apply Ext.alloc))) x1);replace r1:=Hd r1;clear x1 KI;go_wp2_with (fail);go_ret2;exact⟨A1,c1,er,rfl,r1.out.ext (by(repeat (first | assumption | exact Ext.rf _ | apply Ext.drew | apply Ext.drewN | apply Ext.alloc))),X1.out.tr (by(repeat (first | assumption | exact Ext.rf _ | apply Ext.drew | apply Ext.drewN | apply Ext.alloc)))⟩
theorem Zgw (i:InstP)(us:List Value)(P:Option Addr)(c:Nat)(p:List Int)(w:World)(H:RInst w us i)(hc:Zh i=0)(hk:i.kind=2)(hP:RdI w P p)(lp:p.length<=1000000000) :
  Calls Tryz.prog 66 #[.agg (List.toArray us),.slice P p.length c] w (W8 (YH i p) w):=by
 have e:YH i p=(V2 i.cost p).1:=by unfold YH;rw[if_neg (by omega),if_pos hk]
 have KI:Hid (∀ W,Ext w W->Calls Tryz.prog 116 #[.agg (List.toArray us),.slice P p.length c] W (W8 (YH i p) W)):=fun W x=>by
  refine(Zdb i us P c p W (H.ext x) (Zp hc (by omega)) (hP.ext x) lp).mono ?_;intro e1 w1 h;unfold Qf at h;obtain⟨A1,c1,rfl,r1,x1⟩:=h;replace r1:=r1.read;exact⟨A1,c1,_,by rw[e],by rw[e];exact r1,x1⟩
 unfold W8 at KI ⊢;clear e hc;generalize YH i p=l at *;obtain⟨kind,nn,cap,xw,xv,co⟩:=i;obtain⟨A,a,B,b,D,d,rfl,-,-,-⟩:=H;simp only at *;subst hk;go_enter Tryz.func66,Tryz.ntmps66;go_wp2_with (fail);refine(KI.out _ (by(repeat (first | assumption | exact Ext.rf _ | apply Ext.drew | apply Ext.drewN | apply Ext.alloc)))).mono ?_;rintro e w1 ⟨A1,c1,er,rfl,r1,x1⟩;have X1:=Hd (Ext.tr (a:=w) (by(repeat (first | assumption | exact Ext.rf _ | apply Ext.drew | apply Ext.drewN | apply Ext.alloc))) x1);replace r1:=Hd r1;clear x1 KI;go_wp2_with (fail);go_ret2;exact⟨A1,c1,er,rfl,r1.out.ext (by(repeat (first | assumption | exact Ext.rf _ | apply Ext.drew | apply Ext.drewN | apply Ext.alloc))),X1.out.tr (by(repeat (first | assumption | exact Ext.rf _ | apply Ext.drew | apply Ext.drewN | apply Ext.alloc)))⟩
theorem Zgx (i:InstP)(us:List Value)(P:Option Addr)(c:Nat)(p:List Int)(w:World)(H:RInst w us i)(hc:Zh i=0)(hk:i.kind=3)(hP:RdI w P p)(lp:p.length<=1000000000) :
  Calls Tryz.prog 66 #[.agg (List.toArray us),.slice P p.length c] w (W8 (YH i p) w):=by
 have e:YH i p=(V4 i.cost p).1:=by unfold YH;rw[if_neg (by omega),if_neg (by omega)]
 have KI:Hid (∀ W,Ext w W->Calls Tryz.prog 117 #[.agg (List.toArray us),.slice P p.length c] W (W8 (YH i p) W)):=fun W x=>by
  refine(Zdn i us P c p W (H.ext x) (Zp hc (by omega)) (hP.ext x) lp).mono ?_;intro e1 w1 h;unfold Qf at h;obtain⟨A1,c1,rfl,r1,x1⟩:=h;replace r1:=r1.read;exact⟨A1,c1,_,by rw[e],by rw[e];exact r1,x1⟩
 unfold W8 at KI ⊢;clear e hc;generalize YH i p=l at *;obtain⟨kind,nn,cap,xw,xv,co⟩:=i;obtain⟨A,a,B,b,D,d,rfl,-,-,-⟩:=H;simp only at *;subst hk;go_enter Tryz.func66,Tryz.ntmps66;go_wp2_with (fail);refine(KI.out _ (by(repeat (first | assumption | exact Ext.rf _ | apply Ext.drew | apply Ext.drewN | apply Ext.alloc)))).mono ?_;rintro e w1 ⟨A1,c1,er,rfl,r1,x1⟩;have X1:=Hd (Ext.tr (a:=w) (by(repeat (first | assumption | exact Ext.rf _ | apply Ext.drew | apply Ext.drewN | apply Ext.alloc))) x1);replace r1:=Hd r1;clear x1 KI;go_wp2_with (fail);go_ret2;exact⟨A1,c1,er,rfl,r1.out.ext (by(repeat (first | assumption | exact Ext.rf _ | apply Ext.drew | apply Ext.drewN | apply Ext.alloc))),X1.out.tr (by(repeat (first | assumption | exact Ext.rf _ | apply Ext.drew | apply Ext.drewN | apply Ext.alloc)))⟩
theorem Ze8 (i:InstP)(us:List Value)(P:Option Addr)(c:Nat)(p:List Int)(w:World)(H:RInst w us i)(hc:Zh i=0)(hk:i.kind=1)(hP:RdI w P p)(lp:p.length<=1000000000) :
  Calls Tryz.prog 51 #[.agg (List.toArray us),.slice P p.length c] w (Wu (Zk i p) w):=by
 have e:Zk i p=(YO i.cap (wsP i) (vsP i) p).1:=by unfold Zk;rw[if_pos hk]
 have KI:Hid (∀ W,Ext w W->Calls Tryz.prog 97 #[.agg (List.toArray us),.slice P p.length c] W (Wu (Zk i p) W)):=fun W x=>by
  refine(Ze7 i us P c p W (H.ext x) (ZR hc hk) (hP.ext x) lp).mono ?_;rintro e1 w1 ⟨rfl,x1⟩;exact⟨_,by rw[e];rfl,x1⟩
 unfold Wu at KI ⊢;clear e hc;generalize Zk i p=l at *;obtain⟨kind,nn,cap,xw,xv,co⟩:=i;obtain⟨A,a,B,b,D,d,rfl,-,-,-⟩:=H;simp only at *;subst hk;go_enter Tryz.func51,Tryz.ntmps51;go_wp2_with (fail);refine(KI.out _ (by(repeat (first | assumption | exact Ext.rf _ | apply Ext.drew | apply Ext.drewN | apply Ext.alloc)))).mono ?_;rintro e w1 ⟨er,rfl,x1⟩;have X1:=Hd (Ext.tr (a:=w) (by(repeat (first | assumption | exact Ext.rf _ | apply Ext.drew | apply Ext.drewN | apply Ext.alloc))) x1);clear x1 KI;go_wp2_with (fail);go_ret2;exact⟨er,rfl,X1.out.tr (by(repeat (first | assumption | exact Ext.rf _ | apply Ext.drew | apply Ext.drewN | apply Ext.alloc)))⟩
theorem Ze9 (i:InstP)(us:List Value)(P:Option Addr)(c:Nat)(p:List Int)(w:World)(H:RInst w us i)(hc:Zh i=0)(hk:i.kind=2)(hP:RdI w P p)(lp:p.length<=1000000000) :
  Calls Tryz.prog 51 #[.agg (List.toArray us),.slice P p.length c] w (Wu (Zk i p) w):=by
 have e:Zk i p=(Yz i.cost p).1:=by unfold Zk;rw[if_neg (by omega),if_pos hk]
 have KI:Hid (∀ W,Ext w W->Calls Tryz.prog 98 #[.agg (List.toArray us),.slice P p.length c] W (Wu (Zk i p) W)):=fun W x=>by
  refine(Zco i us P c p W (H.ext x) (Zp hc (by omega)) (hP.ext x) lp).mono ?_;rintro e1 w1 ⟨rfl,x1⟩;exact⟨_,by rw[e],x1⟩
 unfold Wu at KI ⊢;clear e hc;generalize Zk i p=l at *;obtain⟨kind,nn,cap,xw,xv,co⟩:=i;obtain⟨A,a,B,b,D,d,rfl,-,-,-⟩:=H;simp only at *;subst hk;go_enter Tryz.func51,Tryz.ntmps51;go_wp2_with (fail);refine(KI.out _ (by(repeat (first | assumption | exact Ext.rf _ | apply Ext.drew | apply Ext.drewN | apply Ext.alloc)))).mono ?_;rintro e w1 ⟨er,rfl,x1⟩;have X1:=Hd (Ext.tr (a:=w) (by(repeat (first | assumption | exact Ext.rf _ | apply Ext.drew | apply Ext.drewN | apply Ext.alloc))) x1);clear x1 KI;go_wp2_with (fail);go_ret2;exact⟨er,rfl,X1.out.tr (by(repeat (first | assumption | exact Ext.rf _ | apply Ext.drew | apply Ext.drewN | apply Ext.alloc)))⟩
theorem Zfa (i:InstP)(us:List Value)(P:Option Addr)(c:Nat)(p:List Int)(w:World)(H:RInst w us i)(hc:Zh i=0)(hk:i.kind=3)(hP:RdI w P p)(lp:p.length<=1000000000) :
  Calls Tryz.prog 51 #[.agg (List.toArray us),.slice P p.length c] w (Wu (Zk i p) w):=by
 have e:Zk i p=(YD i.cost (WX i.cost) p).1:=by unfold Zk;rw[if_neg (by omega),if_neg (by omega)]
 have KI:Hid (∀ W,Ext w W->Calls Tryz.prog 99 #[.agg (List.toArray us),.slice P p.length c] W (Wu (Zk i p) W)):=fun W x=>by
  refine(Zcs i us P c p W (H.ext x) (Zp hc (by omega)) (hP.ext x) lp).mono ?_;rintro e1 w1 ⟨rfl,x1⟩;exact⟨_,by rw[e],x1⟩
 unfold Wu at KI ⊢;clear e hc;generalize Zk i p=l at *;obtain⟨kind,nn,cap,xw,xv,co⟩:=i;obtain⟨A,a,B,b,D,d,rfl,-,-,-⟩:=H;simp only at *;subst hk;go_enter Tryz.func51,Tryz.ntmps51;go_wp2_with (fail);refine(KI.out _ (by(repeat (first | assumption | exact Ext.rf _ | apply Ext.drew | apply Ext.drewN | apply Ext.alloc)))).mono ?_;rintro e w1 ⟨er,rfl,x1⟩;have X1:=Hd (Ext.tr (a:=w) (by(repeat (first | assumption | exact Ext.rf _ | apply Ext.drew | apply Ext.drewN | apply Ext.alloc))) x1);clear x1 KI;go_wp2_with (fail);go_ret2;exact⟨er,rfl,X1.out.tr (by(repeat (first | assumption | exact Ext.rf _ | apply Ext.drew | apply Ext.drewN | apply Ext.alloc)))⟩
theorem Zac (i:InstP)(us:List Value)(P:Option Addr)(c:Nat)(p:List Int)(w:World)(H:RInst w us i)(hc:Zh i=0)(hP:RdI w P p)(lp:p.length<=1000000000) :
  Calls Tryz.prog 66 #[.agg (List.toArray us),.slice P p.length c] w (W8 (YH i p) w):=by
 rcases ZU hc with h | h | h
 ·exact Zgv i us P c p w H hc h hP lp
 ·exact Zgw i us P c p w H hc h hP lp
 ·exact Zgx i us P c p w H hc h hP lp
theorem ZcI (i:InstP)(us:List Value)(P:Option Addr)(c:Nat)(p:List Int)(w:World)(H:RInst w us i)(hc:Zh i=0)(hP:RdI w P p)(lp:p.length<=1000000000) :
  Calls Tryz.prog 51 #[.agg (List.toArray us),.slice P p.length c] w (Wu (Zk i p) w):=by
 rcases ZU hc with h | h | h
 ·exact Ze8 i us P c p w H hc h hP lp
 ·exact Ze9 i us P c p w H hc h hP lp
 ·exact Zfa i us P c p w H hc h hP lp
theorem Zd2 (i:InstP)(us:List Value)(Q:Option Addr)(qc:Nat)(q:List Int)(w0:World)(H:RInst w0 us i)(hc:Zh i=0)(hQ:RdI w0 Q q)(lq:q.length<=1000000000)(hl0:(YH i q).length<=1000) :
  Calls Tryz.prog 55 #[.agg (List.toArray us),.slice Q q.length qc] w0 (ZcH (WH (YH i q)) w0):=by
 have KI:=Hd (fun(W:World) (x:Ext w0 W)=>Zac i us Q qc q W (H.ext x) hc (hQ.ext x) lq);obtain⟨l,hl⟩:∃ l,Hid (YH i q=l):=⟨_,rfl⟩;rw[hl.out] at KI hl0 ⊢;clear hl hc hQ;have BK:=fun(P:Option Addr) (pc:Nat) (W:World) (x:RdI W P l)=>Zb9 P pc l W x hl0
 unfold ZcH at BK ⊢;unfold W8 at KI;simp only[Zg,Vl] at BK;have bl1:=Vl l;have BL:Hid (∀ k a,(Ua l)[k]?=some a->a<l.length):=fun k a h=>Zd1 h
 have RL:=Ux l;have RE:WH l=(Ua l).map fun a=>l.getD a 0:=rfl
 obtain⟨R,hR⟩:∃ R,Hid (WH l=R):=⟨_,rfl⟩;rw[hR.out] at RE RL ⊢;replace RE:=Hd RE;rw[RL];replace BK:=Hd BK;generalize Ua l=o at *;replace RL:=Hd RL;replace bl1:=Hd bl1;clear hR;obtain⟨A,a,B,b,D,d,rfl,-,-,-⟩:=H;obtain⟨kind,hkd⟩:∃ q,Hid (q=i.kind):=⟨_,rfl⟩;obtain⟨nn,hnn⟩:∃ q,Hid (q=i.n):=⟨_,rfl⟩;obtain⟨cap,hcap⟩:∃ q,Hid (q=i.cap):=⟨_,rfl⟩;obtain⟨lxw,hxw⟩:∃ q,Hid (q=i.weight.length):=⟨_,rfl⟩;obtain⟨lxv,hxv⟩:∃ q,Hid (q=i.value.length):=⟨_,rfl⟩;obtain⟨lco,hco⟩:∃ q,Hid (q=i.cost.length):=⟨_,rfl⟩;rw[<-hkd.out,<-hnn.out,<-hcap.out,<-hxw.out,<-hxv.out,<-hco.out] at KI ⊢;clear hkd hnn hcap hxw hxv hco;go_enter Tryz.func55,Tryz.ntmps55;go_wp2_with (fail);refine(KI.out _ (by(repeat (first | assumption | exact Ext.rf _ | apply Ext.drew | apply Ext.drewN | apply Ext.alloc)))).mono ?_;rintro e w ⟨P,pc,er,rfl,hP,xw⟩;have XW:=Hd (Ext.tr (a:=w0) (by(repeat (first | assumption | exact Ext.rf _ | apply Ext.drew | apply Ext.drewN | apply Ext.alloc))) xw);replace hP:=Hd hP;clear xw KI;go_wp2_with (fail);refine(BK.out P pc _ (hP.out.ext (by(repeat (first | assumption | exact Ext.rf _ | apply Ext.drew | apply Ext.drewN | apply Ext.alloc))))).mono ?_;rintro e w1 ⟨A1,c1,rfl,o1,x1⟩;have X1:=Hd (Ext.tr (a:=w) (by(repeat (first | assumption | exact Ext.rf _ | apply Ext.drew | apply Ext.drewN | apply Ext.alloc))) x1);have r1:=Hd o1.read;have z1:=(XW.out.tr X1.out).size;clear x1 o1 BK;have S0:Hid (OwI (w1.alloc (.cells #[] 3)) w1.heap.size (some ⟨w1.heap.size,0,none⟩) 0 []):=OwI.empty (.new rfl) (Nat.le_refl _);go_wp2_with (fail);go_loopw [8,9] (fun v4 v wr=>∃ (k:Nat) (B:Option Addr) (bc:Nat) (xs:List Int),v=.int .i64 k/\v4=.slice B xs.length bc/\k<=l.length/\Hid (xs=(o.take k).map fun a=>l.getD a 0)/\Hid (OwI wr w1.heap.size B bc xs)/\Hid (Ext w1 wr)) (fun _ v _=>l.length-(intOf v).toNat)
 case atStart=>exact⟨0,_,0,[],rfl,rfl,by omega,rfl,S0.out.ext (by(repeat (first | assumption | exact Ext.rf _ | apply Ext.drew | apply Ext.drewN | apply Ext.alloc))),by(repeat (first | assumption | exact Ext.rf _ | apply Ext.drew | apply Ext.drewN | apply Ext.alloc))⟩
 case round =>
  obtain⟨wo,rfl⟩:∃ wo:World,wo=wr:=⟨_,rfl⟩;clear S0;obtain⟨k,B,bc,xs,rfl,rfl,hk,hx,oB,Y⟩:=hrel;have lk:xs.length<=l.length:=by rw[hx.out,List.length_map,List.length_take,bl1.out];omega
  by_cases hlt:k<l.length
  ·obtain⟨a,ha⟩:∃ a,Hid (o[k]?=some a):=⟨o[k]'(by rw[bl1.out];exact hlt),List.getElem?_eq_getElem _⟩
   have hal:=BL.out k a ha.out;obtain⟨ob,oo,av,rfl,zo,co,eo,_⟩:=(r1.out.ext Y.out).at (k:=k) (by rw[Zg,bl1.out];exact hlt);obtain rfl:av=(a:Int):=by
    have h:=eo.out;rw[ZD ha.out] at h;exact(Option.some.inj h).symm
   obtain⟨lb,lo,x,rfl,zl,cl,el,_⟩:=((hP.out.ext X1.out).ext Y.out).at (k:=a) hal;have q1:(k:Int)<(l.length:Int):=by omega
   have q2:(a:Int)<(l.length:Int):=by omega
   have NX:Hid (xs++[x]=(o.take (k+1)).map fun a=>l.getD a 0):=Hd (by
    rw[List.take_add_one,ha.out,List.map_append,hx.out];simp[List.getD,el.out])
   clear eo el hx;go_wp2_with (at_builtin;(refine ZG _ rfl _ _ rfl w1.heap.size B xs.length bc xs [x] (some ⟨wo.heap.size,0,none⟩) 1 rfl rfl rfl ?_ ?_ ?_ ?_ ?_;(exact oB.out.ext ((Ext.rf _).alloc _));(exact .blk (.new (by simp)) rfl);(simp;omega);(have:=Y.out.size;simp;omega);rintro A7 c7 w7 o7 g7 _;have Y7:Ext w1 w7:=Ext.grow (a:=w1) (Y.out.alloc _) g7 (fun kk hkk=>(oB.out.lt kk hkk).1)));have O7:Hid (OwI w7 w1.heap.size A7 c7 (xs++[x])):=o7;replace Y7:=Hd Y7;clear o7 g7;go_wp2_with (fail);go_roundw
   case rel=>exact⟨k+1,A7,c7,xs++[x],by go_num,by first | rfl | simp,by omega,NX,OwI.ext O7.out (by(repeat (first | assumption | exact Ext.rf _ | apply Ext.drew | apply Ext.drewN | apply Ext.alloc))),Ext.tr Y7.out (by(repeat (first | assumption | exact Ext.rf _ | apply Ext.drew | apply Ext.drewN | apply Ext.alloc)))⟩
   case measure=>simp[intOf];omega
  ·obtain rfl:k=l.length:=by omega
   have E:Hid (xs=R):=by
    have h:=hx.out;rw[<-bl1.out,List.take_length,<-RE.out] at h;exact h
   have E2:Hid (OwI wo w0.heap.size B bc R):=by
    have h:=oB.out;rw[E.out] at h;exact h.more z1
   have E3:Hid (Value.slice B xs.length bc=.slice B l.length bc):=Hd (by rw[E.out,RL.out]);rw[E3.out];go_wp2_with (fail);go_ret;exact⟨B,bc,rfl,E2.out.ext (by(repeat (first | assumption | exact Ext.rf _ | apply Ext.drew | apply Ext.drewN | apply Ext.alloc))),XW.out.tr ((X1.out.tr Y.out).tr (by(repeat (first | assumption | exact Ext.rf _ | apply Ext.drew | apply Ext.drewN | apply Ext.alloc))))⟩
section
variable {w w':World} {B:Nat} {us:List Value} {W q:List (List Int)} {p:List Int} {A:Option Addr}
theorem RowsO.len (h:RowsO w B us W) : us.length=W.length:=h.1
theorem RowsO.last (h:RowsO w B us (q++[p])) : ∃ A c,us[q.length]?=some (.slice A p.length c)/\OwI w B A c p:=h.2 q.length p (by simp)
theorem RowsO.init (h:RowsO w B us (q++[p])) : RowsO w B (us.take q.length) q:=by
 refine⟨by have:=h.1;simp at this;simp;omega,fun i r hi=>?_⟩;have hlt:=(List.getElem?_eq_some_iff.1 hi).1;obtain⟨A',c',h1,h2⟩:=h.2 i r (by rw[List.getElem?_append_left hlt];exact hi);exact⟨A',c',by rw[List.getElem?_take,if_pos hlt];exact h1,h2⟩
end
end Go.Proofs.YtmojhhlcocjoaaaGreatDoor
namespace Go.Proofs.YtmojhhlcocjoaaaGreatDoor
open Go.RowKit Go.ChangeShapes Go.WideShapes Go.ChangeAt Go.Deep
theorem Zd3 (u:World) : (Instr.buildSlice 22 0 #[]).run Tryz.prog u=.ok (.slice (some ⟨u.heap.size,0,none⟩) 0 0) (u.alloc (.cells #[] 3)):=by go_simp
theorem Zd4 (u:World)(x:Int) : (Instr.buildSlice 22 1 #[(0,.int .i64 x)]).run Tryz.prog u=.ok (.slice (some ⟨u.heap.size,0,none⟩) 1 1) (u.alloc (.cells #[.int .i64 x] 3)):=by go_simp
theorem Zd5 (u:World)(A:Option Addr)(n c:Nat) : (Instr.buildSlice 23 1 #[(0,.slice A n c)]).run Tryz.prog u=.ok (.slice (some ⟨u.heap.size,0,none⟩) 1 1) (u.alloc (.cells #[.slice A n c] 22)):=by go_simp
theorem Za8 : (Tryz.prog.info? 22).map (fun i=>(i.zero,i.size,i.bytes))=some (some (.slice none 0 0),1,24):=by kernel_rfl
def WaitS (base:Nat)(w:World)(A:Option Addr)(n c:Nat)(S:List (List Int)) : Prop:=∃ us,OwV w base 22 1 A n c us/\RowsO w base us S.reverse
theorem WaitS.ext {base n c:Nat}{w w':World}{A:Option Addr}{S:List (List Int)}(h:WaitS base w A n c S)(x:Ext w w') : WaitS base w' A n c S:=by
 obtain⟨us,h1,h2⟩:=h;exact⟨us,h1.ext x,h2.ext x⟩
theorem WaitS.len {base n c:Nat}{w:World}{A:Option Addr}{S:List (List Int)}(h:WaitS base w A n c S) : n=S.length/\n<=c:=by
 obtain⟨us,h1,h2⟩:=h;have e:=h1.len;have e2:=h2.1;rw[List.length_reverse] at e2;exact⟨by omega,h1.le.1⟩
theorem WaitS.first {base:Nat}{w:World}{g b:Nat}(hg:Blk w g 22 #[.slice (some ⟨b,0,none⟩) 0 0])(hb:Blk w b 3 #[])(h1:base<=g)(h2:base<=b) : WaitS base w (some ⟨g,0,none⟩) 1 1 [[]] :=
 ⟨_,OwV.full hg h1 rfl (by simp[maxLen]),(RowsO.nil w base).snoc (OwI.empty hb h2)⟩
theorem WaitS.top {base n c:Nat}{w:World}{A:Option Addr}{S:List (List Int)}{p:List Int}(h:WaitS base w A n c (p::S)) : ∃ (g:Nat) (PA:Option Addr) (pc:Nat) (us:List Value),n=S.length+1/\A=some ⟨g,0,none⟩/\w.cell? ⟨g,S.length,none⟩=some (.slice PA p.length pc)/\OwI w base PA pc p/\RdC w A (us.take S.length)/\(us.take S.length).length=S.length/\RowsO w base (us.take S.length) S.reverse/\∀ u∈us.take S.length,Value.oneCell' u=true:=by
 obtain⟨us,h1,h2⟩:=h;have e:=h1.len;have e2:=h2.1;rw[List.length_reverse] at e2;simp only[List.length_cons] at e2;rw[List.reverse_cons] at h2;obtain⟨PA,pc,k1,k2⟩:=h2.last;have k3:=h2.init;rw[List.length_reverse] at k1 k3;rcases h1.cases with⟨_,_,h0,_⟩ | ⟨g,cur,rfl,_⟩
 ·omega
 ·obtain⟨b,off,v,hq,_,hc,hv⟩:=h1.read.at (j:=S.length) (by omega)
  obtain⟨rfl,rfl⟩:g=b/\0=off:=by simpa using hq
  have e4:=hv.out;rw[k1] at e4;obtain rfl:=Option.some.inj e4;refine⟨g,PA,pc,us,by omega,rfl,by simpa using hc,k2,(h1.read.take S.length).rdC,by rw[List.length_take];omega,k3,fun u hu=>?_⟩;obtain⟨z,hz⟩:=List.getElem?_of_mem hu;have hz2:=(List.getElem?_eq_some_iff.1 hz).1;rw[k3.1] at hz2;obtain⟨A9,c9,e9,_⟩:=k3.2 z _ (List.getElem?_eq_getElem hz2);rw[hz] at e9;obtain rfl:=Option.some.inj e9
  rfl
theorem Zd6 {i:InstP}{x:List Int}(h:(ZJ i x).2=0) : Zh i=0:=by
 unfold ZJ at h
 by_cases hc:Zh i=0
 ·exact hc
 ·rw[if_pos hc] at h
  exact absurd h hc
theorem ZhE {i:InstP}{x:List Int}(h:(ZJ i x).2=0)(hk:i.kind=1) : 0<=(ZJ i x).1/\(ZJ i x).1<=(i.value.length:Int)*2147483647:=by
 have hc:=Zd6 h;have ok:=ZR hc hk;have hl:=ZdK x i.value ok.sv;unfold ZJ at h ⊢;rw[if_neg (fun e=>e hc),if_pos hk] at h ⊢;split at h
 ·rename_i h1
  rw[if_pos h1];unfold QV at h ⊢;split at h
  ·simp at h
  ·rename_i h2
   rw[if_neg h2];exact hl
 ·simp at h
theorem Zfb (i:InstP)(us:List Value)(P:Option Addr)(c:Nat)(p:List Int)(w:World)(H:RInst w us i)(hc:Zh i=0)(hP:RdI w P p)(ho:okI i p)(hl:p.length<Zi i)(h64:Zi i<=64) :
  Calls Tryz.prog 55 #[.agg (List.toArray us),.slice P p.length c] w (ZcH (Zo i p) w):=by
 have e:=Zb6 hc ho hl;have KL:(Zo i p).length<=64:=by
  have:=We hc p ho hl;split at this<;>omega
 have h:=Zd2 i us P c p w H hc hP (by omega) (by rw[<-Ux,e];omega);rw[e] at h;exact h
theorem Jh {i:InstP}(hc:Zh i=0) : Zi i<=64:=by
 unfold Zi;rcases ZU hc with h | h | h
 ·have ok:=ZR hc h
  have:=ok.n2;split<;>omega
 ·have sq:=Zp hc (by omega)
  have:=sq.n2;split<;>omega
 ·have sq:=Zp hc (by omega)
  have:=sq.n2;split<;>omega
theorem Zgy : (Tryz.prog.info? 41).map (fun i=>(i.zero,i.size,i.bytes))=some (some (.agg #[.int .i64 0,.slice none 0 0]),2,32):=by kernel_rfl
def Za9 (w:World)(e:Ending)(w':World) : Prop:=∃ (A:Option Addr) (n c:Nat),e=.returned (.tuple #[.slice A n c,.int .i64 0,.int .i64 0])/\Ext w w'
theorem Zgz (i:InstP)(us:List Value)(tr:Wd)(w:World)(H:RInst w us i)(hc:Zh i=0)(lt:tr.length<=1000)(hr:XL (Zi i) (Zo i) tr [[]]=0) :
  Calls Tryz.prog 30 #[.agg (List.toArray us),.string ⟨tr.toArray⟩] w (Za9 w):=by
 have DE:=Hd (fun(W:World) (y:Ext w W)=>Jg i us W (H.ext y) hc);have KI:=Hd (fun(W:World) (y:Ext w W) (Q:Option Addr) (qc:Nat) (q:List Int) (hq:RdI W Q q) (lq:q.length<=1000000000)=>Zac i us Q qc q W (H.ext y) hc hq lq);have KR:=Hd (Wt hc);have okn:=Hd (Ql hc);have n64:=Jh hc;have RS:Hid (∀ q,okI i q->q.length<Zi i->WH (YH i q)=Zo i q):=fun q ho hl=>Zb6 hc ho hl
 have KN:Hid (∀ (q:List Int),okI i q->q.length<Zi i->(Zo i q).length<=64):=fun q ho hl=>by
  have:=We hc q ho hl;have h2:=Jh hc;split at this<;>omega
 have C0:Hid (XL (Zi i) (Zo i) (tr.drop 0) [[]]=0):=hr;have O0:Hid (∀ q∈([[]]:List (List Int)),okI i q):=fun q hq=>by rw[List.mem_singleton.1 hq];exact okn.out
 unfold W8 at KI;unfold Za9;clear hc hr;generalize Zi i=D at *;generalize Zo i=kd at *;obtain⟨A,a,B,b,Dd,d,rfl,-,-,-⟩:=H;obtain⟨kind,hkd⟩:∃ q,Hid (q=i.kind):=⟨_,rfl⟩;obtain⟨nn,hnn⟩:∃ q,Hid (q=i.n):=⟨_,rfl⟩;obtain⟨cap,hcap⟩:∃ q,Hid (q=i.cap):=⟨_,rfl⟩;obtain⟨lxw,hxw⟩:∃ q,Hid (q=i.weight.length):=⟨_,rfl⟩;obtain⟨lxv,hxv⟩:∃ q,Hid (q=i.value.length):=⟨_,rfl⟩;obtain⟨lco,hco⟩:∃ q,Hid (q=i.cost.length):=⟨_,rfl⟩;rw[<-hkd.out,<-hnn.out,<-hcap.out,<-hxw.out,<-hxv.out,<-hco.out] at DE KI ⊢;clear hkd hnn hcap hxw hxv hco;obtain⟨i0,hi,hz0,hz1,hz2⟩:=info_parts Za8;replace hi:=Hd hi;replace hz0:=Hd hz0;replace hz1:=Hd hz1;replace hz2:=Hd hz2;obtain⟨r0,ri,rz0,rz1,rz2⟩:=info_parts Zgy;replace ri:=Hd ri;replace rz0:=Hd rz0;replace rz1:=Hd rz1;replace rz2:=Hd rz2;obtain⟨wb,hwb⟩:∃ wb,Hid (wb=w.alloc (.cells #[.int .i64 kind,.int .i64 nn,.int .i64 cap,.slice A lxw a,.slice B lxv b,.slice Dd lco d] 25)):=⟨_,rfl⟩;have XB:Hid (Ext w wb):=Hd (by rw[hwb.out];exact(Ext.rf w).alloc _);have B1:Hid (Blk wb w.heap.size 25 #[.int .i64 kind,.int .i64 nn,.int .i64 cap,.slice A lxw a,.slice B lxv b,.slice Dd lco d]):=Hd (by rw[hwb.out];exact .new rfl);have TL:∀ a,a<tr.length->tr.drop a=(tr[a]?).getD 0::tr.drop (a+1):=fun a h=>by rw[List.drop_eq_getElem_cons h,List.getElem?_eq_getElem h];rfl
 replace TL:=Hd TL;have slen:(⟨tr.toArray⟩:ByteArray).size=tr.length:=by simp[ByteArray.size]
 have W0:Hid (WaitS wb.heap.size ((wb.alloc (.cells #[] 3)).alloc (.cells #[.slice (some ⟨wb.heap.size,0,none⟩) 0 0] 22)) (some ⟨wb.heap.size+1,0,none⟩) 1 1 [[]]):=WaitS.first (.new (by simp)) (.alloc (.new rfl) _) (by omega) (Nat.le_refl _);have V0:Hid (OwV wb wb.heap.size 41 2 none 0 0 []):=OwV.nil _ _ _ _;go_enter Tryz.func30,Tryz.ntmps30;go_upto_region 1 with(fail);rw[<-hwb.out];go_wp2_with (fail);go_loopw [4,5,6,7,8,9] (fun v4 v5 v6 v7 v8 v9 wr=>∃ (a:Nat) (WA:Option Addr) (n wc:Nat) (S:List (List Int)) (RA:Option Addr) (rn rc:Nat) (us:List Value),v9=.int .i64 a/\v7=.slice WA n wc/\v8=.slice RA rn rc/\v4=.slice none 0 0/\v5=.int .i64 0/\v6=.int .i64 0/\a<=tr.length/\n<=100*a+1/\rn<=a/\Hid (WaitS wb.heap.size wr WA n wc S)/\Hid (OwV wr wb.heap.size 41 2 RA rn rc us)/\Hid (∀ q∈S,okI i q)/\Hid (XL D kd (tr.drop a) S=0)/\Hid (Ext wb wr)) (fun _ _ _ _ _ v9 _=>tr.length-(intOf v9).toNat)
 case atStart=>exact⟨0,_,1,1,[[]],none,0,0,[],rfl,rfl,rfl,rfl,rfl,rfl,by omega,by omega,by omega,W0.out.ext (by(repeat (first | assumption | exact Ext.rf _ | apply Ext.drew | apply Ext.drewN | apply Ext.alloc))),V0.out.ext (by(repeat (first | assumption | exact Ext.rf _ | apply Ext.drew | apply Ext.drewN | apply Ext.alloc))),O0,C0,by(repeat (first | assumption | exact Ext.rf _ | apply Ext.drew | apply Ext.drewN | apply Ext.alloc))⟩
 case round =>
  obtain⟨wo,rfl⟩:∃ wo:World,wo=wr:=⟨_,rfl⟩;clear W0 O0 C0 V0;obtain⟨at_,WA,n,wc,S,RA,rn,rc,rs,rfl,rfl,rfl,rfl,rfl,rfl,hat,hn9,hrn,WS,OV,OS,CS,YB⟩:=hrel
  cases S with
  | nil =>
   obtain rfl:n=0:=(WS.out.len).1;have ha2:at_=tr.length:=by
    by_cases h:at_<tr.length
    ·have h1:=CS.out
     rw[TL.out at_ h] at h1;exact absurd h1 (by simp[XL])
    ·omega
   subst ha2;go_wp2_with (fail);go_ret3;exact⟨RA,rn,rc,rfl,XB.out.tr (YB.out.tr (by(repeat (first | assumption | exact Ext.rf _ | apply Ext.drew | apply Ext.drewN | apply Ext.alloc))))⟩
  | cons p S' =>
   obtain⟨gW,PA,pc,us,hnS,rfl,cW,oP,rU,lU,oU,kU⟩:=WS.out.top;have WL:=WS.out.len;have zW:=World.block_lt_of_cell? _ _ cW;obtain⟨k0,hk0⟩:∃ k0:Nat,Hid (S'.length=k0):=⟨_,rfl⟩;rw[hk0.out] at cW rU lU oU kU hnS;obtain rfl:n=k0+1:=hnS;have hkc:k0<=wc:=by omega
   replace oP:=Hd oP;replace rU:=Hd rU;replace lU:=Hd lU;replace oU:=Hd oU;replace kU:=Hd kU;have zo:=YB.out.size;have q1:(0:Int)<((k0+1:Nat):Int):=by omega
   have q2:((k0+1:Nat):Int)-1=(k0:Int):=by omega
   have q3:(k0:Int)<((k0+1:Nat):Int):=by omega
   have q4:(0:Int)<=(k0:Int):=by omega
   have q5:(k0:Int)<=(wc:Int):=by omega
   have k9:(k0:Int)<=100000:=by omega
   clear WL;have okp:=OS.out p (by simp);have lpD:=KR.out.len p okp;have hal2:at_<tr.length:=by
    by_cases h:at_<tr.length
    ·exact h
    ·have h1:=CS.out
     rw[List.drop_of_length_le (by omega)] at h1;exact absurd h1 (by simp[XL])
   have e1:((at_:Int)==(tr.length:Int))=false:=by simp;omega
   have CT:=CS.out;rw[TL.out at_ hal2] at CT;obtain⟨ch,hch⟩:∃ ch,Hid ((tr[at_]?).getD 0=ch):=⟨_,rfl⟩;rw[hch.out,Us] at CT;replace CT:=Hd CT;replace okp:=Hd okp;clear CS;go_upto_region 13 with(at_builtin;refine Yd _ (e:=22) Tryz.underlying23 hi.out hz0.out hz1.out hz2.out (by simp[Value.cells]) (by omega) rfl _ _ rfl wb.heap.size (some ⟨wo.heap.size,0,none⟩) 0 0 [] (some ⟨gW,0,none⟩) k0 wc (us.take k0) rfl rfl (OwV.full (.new rfl) zo rfl (by simp[maxLen])) (rU.out.ext ((Ext.rf _).alloc _)) (by rw[lU.out];simp) kU.out (by simp only[maxLen];omega) (by omega) (by simp;omega) ?_;rintro WA2 wc2 w2 oW2 gW2 _);rw[Nat.zero_add] at oW2;have Y2:Ext wb w2:=Ext.grow (a:=wb) (YB.out.alloc _) gW2 (fun z hz=>by simp[bl] at hz;omega);have M2:ModT wb.heap.size [22] (wo.alloc (.cells #[] 22)) w2:=(OwV.full (w:=wo.alloc (.cells #[] 22)) (base:=wb.heap.size) (n:=0) (size:=1) (e:=22) (g:=wo.heap.size) (cs:=#[]) (.new rfl) zo rfl (by simp[maxLen])).grownT gW2;have WS2:Hid (WaitS wb.heap.size w2 WA2 k0 wc2 S'):=⟨_,by simpa using oW2,((oU.out.ext ((Ext.rf _).alloc _)).modT M2 (by decide))⟩;have oP2:Hid (OwI w2 wb.heap.size PA pc p):=(oP.out.ext ((Ext.rf _).alloc _)).modT M2 (by decide);replace Y2:=Hd Y2;have MV:=Hd M2;clear oW2 gW2 M2 oU rU kU lU cW oP WS zW;have OV2:Hid (OwV w2 wb.heap.size 41 2 RA rn rc rs):=(OV.out.ext ((Ext.rf _).alloc _)).modT MV (by decide);have BB2:=Hd (B1.out.ext Y2.out);clear MV OV;have d0:=BB2.out.c0;have d1:=BB2.out.c1;have d2:=BB2.out.c2;have d3:=BB2.out.c3;have d4:=BB2.out.c4;have d5:=BB2.out.c5;go_wp2_with (fail);refine(DE.out _ (XB.out.tr (Y2.out.tr (by(repeat (first | assumption | exact Ext.rf _ | apply Ext.drew | apply Ext.drewN | apply Ext.alloc)))))).mono ?_;rintro e w4 ⟨rfl,x4⟩;have X4:=Hd (Ext.tr (a:=w2) (by(repeat (first | assumption | exact Ext.rf _ | apply Ext.drew | apply Ext.drewN | apply Ext.alloc))) x4);have Y4:=Hd (Y2.out.tr X4.out);have WS4:=Hd (WS2.out.ext X4.out);have oP4:=Hd (oP2.out.ext X4.out);have OV4:=Hd (OV2.out.ext X4.out);have BB4:=Hd (B1.out.ext Y4.out);clear x4 X4 WS2 oP2 BB2 Y2 OV2 d0 d1 d2 d3 d4 d5;have hsz:at_<(⟨tr.toArray⟩:ByteArray).size:=by rw[slen];exact hal2
   have E0:(⟨tr.toArray⟩:ByteArray)[at_]'hsz=ch:=by
    have h:=hch.out;rw[List.getElem?_eq_getElem hal2] at h;exact h
   have i1:(at_:Int)<(tr.length:Int):=by omega
   have z4:=Y4.out.size;have rn9:rn<=1000:=by omega
   by_cases h112:ch=112
   ·subst h112
    have OS2:Hid (∀ q∈S',okI i q):=fun q hq=>OS.out q (by simp[hq])
    have CT2:Hid (XL D kd (tr.drop (at_+1)) S'=0):=by
     have h:=CT.out;rw[if_pos rfl] at h;exact h
    try replace hw:=Hd hw
    clear CT;go_wp2_with (at_builtin;refine Yd _ (e:=41) Tryz.underlying58 ri.out rz0.out rz1.out rz2.out (by simp[Value.cells]) (by omega) rfl _ _ rfl wb.heap.size RA rn rc rs (some ⟨w4.heap.size,0,none⟩) 1 1 [.int .i64 1,.slice PA p.length pc] rfl rfl (OV4.out.ext ((Ext.rf _).alloc _)) (RdV.blk (.new (by simp))).rdC (by simp) (by simp[Value.oneCell']) (by simp only[maxLen];omega) (by omega) (by simp;omega) ?_;rintro RB rc2 w6 oR gR _);have Y6:Ext wb w6:=Ext.grow (a:=wb) (Y4.out.alloc _) gR (fun z hz=>(OV4.out.lt z hz).1);have M6:ModT wb.heap.size [41] (w4.alloc (.cells #[.int .i64 1,.slice PA p.length pc] 41)) w6:=(OV4.out.ext ((Ext.rf w4).alloc (.cells #[.int .i64 1,.slice PA p.length pc] 41))).grownT gR;have OV6:Hid (OwV w6 wb.heap.size 41 2 RB (rn+1) rc2 (rs++[.int .i64 1,.slice PA p.length pc])):=oR;have WS6:Hid (WaitS wb.heap.size w6 WA2 k0 wc2 S'):=by
     obtain⟨us6,q1,q2⟩:=WS4.out;exact⟨us6,(q1.ext ((Ext.rf _).alloc _)).modT M6 (by decide),(q2.ext ((Ext.rf _).alloc _)).modT M6 (by decide)⟩
    have oP6:Hid (OwI w6 wb.heap.size PA pc p):=(oP4.out.ext ((Ext.rf _).alloc _)).modT M6 (by decide);have BB6:=Hd (B1.out.ext Y6);replace Y6:=Hd Y6;clear oR gR M6;have LN:=(WS6.out.len).1;have LN2:k0<=100*(at_+1)+1:=by omega
    replace LN:=Hd LN;go_wp2_with (fail);go_roundw
    case rel=>exact⟨at_+1,WA2,k0,wc2,S',RB,rn+1,rc2,_,by go_num,rfl,rfl,rfl,rfl,rfl,by omega,LN2,by omega,WS6.out.ext (by(repeat (first | assumption | exact Ext.rf _ | apply Ext.drew | apply Ext.drewN | apply Ext.alloc))),OV6.out.ext (by(repeat (first | assumption | exact Ext.rf _ | apply Ext.drew | apply Ext.drewN | apply Ext.alloc))),OS2,CT2,Y6.out.tr (by(repeat (first | assumption | exact Ext.rf _ | apply Ext.drew | apply Ext.drewN | apply Ext.alloc)))⟩
    case measure=>simp[intOf];omega
   ·have n112:((ch.toNat:Int)==112)=false:=by
     have:ch.toNat≠112:=fun h=>h112 (UInt8.toNat_inj.1 h)
     simp;omega
    by_cases h98:ch=98
    ·subst h98
     by_cases hw:p.length=D
     ·have h:=CT.out
      rw[if_neg h112,if_pos rfl,if_pos hw] at h
      cases h
     ·have e2:((p.length:Int)==(D:Int))=false:=by simp;omega
      have CT2:Hid (XL D kd (tr.drop (at_+1)) ((kd p).map (fun n=>p++[n])++S')=0):=by
       have h:=CT.out;rw[if_neg (by decide),if_pos rfl,if_neg hw] at h;exact h
      have hplt:p.length<D:=by omega
      have KN1:=KN.out p okp.out hplt;have RS1:=RS.out p okp.out hplt;have KD:Hid (∀ n∈kd p,okI i (p++[n])):=fun n hn=>KR.out.kid p okp.out hplt n hn
      have KI1:=Hd (fun(W:World) (y:Ext w W) (Q:Option Addr) (qc:Nat) (hq:RdI W Q p)=>KI.out W y Q qc p hq (by omega));obtain⟨lr0,hlr⟩:∃ l,Hid (YH i p=l):=⟨_,rfl⟩;rw[hlr.out] at RS1 KI1;have RI9:=fun(P:Option Addr) (pc:Nat) (W:World) (x:RdI W P lr0)=>Ze6 P pc lr0 W x (by rw[<-Ux,RS1];omega)
      rw[RS1] at RI9;unfold ZcH at RI9;replace RI9:=Hd RI9;obtain⟨l,hl⟩:∃ l,Hid (kd p=l):=⟨_,rfl⟩;rw[hl.out] at CT2 KN1 KD RI9;replace hplt:=Hd hplt;replace hw:=Hd hw;clear CT hl hlr RS1;go_upto_region 22 with(at_builtin;refine Yd _ (e:=41) Tryz.underlying58 ri.out rz0.out rz1.out rz2.out (by simp[Value.cells]) (by omega) rfl _ _ rfl wb.heap.size RA rn rc rs (some ⟨w4.heap.size,0,none⟩) 1 1 [.int .i64 2,.slice PA p.length pc] rfl rfl (OV4.out.ext ((Ext.rf _).alloc _)) (RdV.blk (.new (by simp))).rdC (by simp) (by simp[Value.oneCell']) (by simp only[maxLen];omega) (by omega) (by simp;omega) ?_;rintro RB rc2 w6 oR gR _);have Y6:Ext wb w6:=Ext.grow (a:=wb) (Y4.out.alloc _) gR (fun z hz=>(OV4.out.lt z hz).1);have M6:ModT wb.heap.size [41] (w4.alloc (.cells #[.int .i64 2,.slice PA p.length pc] 41)) w6:=(OV4.out.ext ((Ext.rf w4).alloc (.cells #[.int .i64 2,.slice PA p.length pc] 41))).grownT gR;have OV6:Hid (OwV w6 wb.heap.size 41 2 RB (rn+1) rc2 (rs++[.int .i64 2,.slice PA p.length pc])):=oR;have WS6:Hid (WaitS wb.heap.size w6 WA2 k0 wc2 S'):=by
       obtain⟨us6,q1,q2⟩:=WS4.out;exact⟨us6,(q1.ext ((Ext.rf _).alloc _)).modT M6 (by decide),(q2.ext ((Ext.rf _).alloc _)).modT M6 (by decide)⟩
      have oP6:Hid (OwI w6 wb.heap.size PA pc p):=(oP4.out.ext ((Ext.rf _).alloc _)).modT M6 (by decide);have BB6:=Hd (B1.out.ext Y6);replace Y6:=Hd Y6;clear oR gR M6;clear OV4 WS4 oP4 Y4 z4 BB4;have d0:=BB6.out.c0;have d1:=BB6.out.c1;have d2:=BB6.out.c2;have d3:=BB6.out.c3;have d4:=BB6.out.c4;have d5:=BB6.out.c5;go_wp2_with (fail);refine(KI1.out _ (XB.out.tr (Y6.out.tr (by(repeat (first | assumption | exact Ext.rf _ | apply Ext.drew | apply Ext.drewN | apply Ext.alloc))))) PA pc (oP6.out.read.ext (by(repeat (first | assumption | exact Ext.rf _ | apply Ext.drew | apply Ext.drewN | apply Ext.alloc))))).mono ?_;rintro e w7 ⟨KA,kc,ker,rfl,rK,x7⟩;have X7:=Hd (Ext.tr (a:=w6) (by(repeat (first | assumption | exact Ext.rf _ | apply Ext.drew | apply Ext.drewN | apply Ext.alloc))) x7);replace rK:=Hd rK;clear x7 d0 d1 d2 d3 d4 d5;go_wp2_with (fail);refine(RI9.out KA kc _ (rK.out.ext (by(repeat (first | assumption | exact Ext.rf _ | apply Ext.drew | apply Ext.drewN | apply Ext.alloc))))).mono ?_;rintro e w5 ⟨LA,lc,rfl,oL,x5⟩;have X5:=Hd (X7.out.tr (Ext.tr (by(repeat (first | assumption | exact Ext.rf _ | apply Ext.drew | apply Ext.drewN | apply Ext.alloc))) x5));have z7:=(Y6.out.tr X7.out).size;have Y5:=Hd (Y6.out.tr X5.out);have WS5:Hid (WaitS wb.heap.size w5 WA2 k0 wc2 ((l.drop l.length).map (fun x=>p++[x])++S')):=Hd (by
       rw[List.drop_length];exact WS6.out.ext X5.out)
      have oP5:=Hd (oP6.out.ext X5.out);have OV5:=Hd (OV6.out.ext X5.out);have oL5:Hid (OwI w5 wb.heap.size LA lc l):=oL.more (by first | exact z7 | (simp;exact z7));have J0:Hid (((l.length:Int)-1)=(l.length:Int)-1):=rfl;clear x5 X5 X7 rK oL WS6 oP6 OV6 BB6 Y6 z7;have ll64:(l.length:Int)<=64:=by omega
      obtain⟨rs2,hrs2⟩:∃ rs2:List Value,Hid (rs++[Value.int .i64 2,Value.slice PA p.length pc]=rs2):=⟨_,rfl⟩;rw[hrs2.out] at OV5;clear hrs2;go_wp2_with (fail);go_loopw [7,14] (fun v11 v18 wr=>∃ (j:Int) (t:Nat) (WA':Option Addr) (n' wc':Nat),v18=.int .i64 j/\v11=.slice WA' n' wc'/\Hid (j=(t:Int)-1)/\t<=l.length/\Hid (WaitS wb.heap.size wr WA' n' wc' ((l.drop t).map (fun x=>p++[x])++S'))/\Hid (OwI wr wb.heap.size PA pc p)/\Hid (OwI wr wb.heap.size LA lc l)/\Hid (OwV wr wb.heap.size 41 2 RB (rn+1) rc2 rs2)/\Hid (Ext wb wr)) (fun _ v18 _=>(intOf v18+1).toNat)
      case atStart=>exact⟨(l.length:Int)-1,l.length,WA2,k0,wc2,by go_num,rfl,rfl,by omega,WS5.out.ext (by(repeat (first | assumption | exact Ext.rf _ | apply Ext.drew | apply Ext.drewN | apply Ext.alloc))),oP5.out.ext (by(repeat (first | assumption | exact Ext.rf _ | apply Ext.drew | apply Ext.drewN | apply Ext.alloc))),oL5.out.ext (by(repeat (first | assumption | exact Ext.rf _ | apply Ext.drew | apply Ext.drewN | apply Ext.alloc))),OV5.out.ext (by(repeat (first | assumption | exact Ext.rf _ | apply Ext.drew | apply Ext.drewN | apply Ext.alloc))),Y5.out.tr (by(repeat (first | assumption | exact Ext.rf _ | apply Ext.drew | apply Ext.drewN | apply Ext.alloc)))⟩
      case round =>
       obtain⟨wi,rfl⟩:∃ wi:World,wi=wr:=⟨_,rfl⟩;clear WS5 oP5 oL5 J0 Y5 OV5;obtain⟨j,t,WA',n',wc',rfl,rfl,hj,ht,WI,oP,oL,OVi,YB2⟩:=hrel;have LNI:=(WI.out.len).1;rw[List.length_append,List.length_map,List.length_drop,hk0.out] at LNI;have hn9':n'<=100*at_+65:=by omega
       by_cases ht0:t=0
       ·subst ht0
        obtain rfl:j=-1:=by have h:=hj.out;simpa using h
        have WI2:Hid (WaitS wb.heap.size wi WA' n' wc' (l.map (fun x=>p++[x])++S')):=WI;have OS3:Hid (∀ q∈l.map (fun n=>p++[n])++S',okI i q):=fun q hq=>by
         rcases List.mem_append.1 hq with h | h
         ·obtain⟨n,hn,rfl⟩:=List.mem_map.1 h
          exact KD.out n hn
         ·exact OS.out q (by simp[h])
        have CT3:=CT2;obtain⟨SS,hSS⟩:∃ SS,Hid (l.map (fun n=>p++[n])++S'=SS):=⟨_,rfl⟩;rw[hSS.out] at WI2 OS3 CT3;clear WI CT2 hSS LNI;have LN:=(WI2.out.len).1;have LN2:n'<=100*(at_+1)+1:=by omega
        replace LN:=Hd LN;go_wp2_with (fail);go_roundw
        case rel=>exact⟨at_+1,WA',n',wc',SS,RB,rn+1,rc2,_,by go_num,rfl,rfl,rfl,rfl,rfl,by omega,LN2,by omega,WI2.out.ext (by(repeat (first | assumption | exact Ext.rf _ | apply Ext.drew | apply Ext.drewN | apply Ext.alloc))),OVi.out.ext (by(repeat (first | assumption | exact Ext.rf _ | apply Ext.drew | apply Ext.drewN | apply Ext.alloc))),OS3,CT3,YB2.out.tr (by(repeat (first | assumption | exact Ext.rf _ | apply Ext.drew | apply Ext.drewN | apply Ext.alloc)))⟩
        case measure=>simp[intOf];omega
       ·obtain⟨t,rfl⟩:∃ s,t=s+1:=⟨t-1,by omega⟩
        obtain rfl:j=(t:Int):=by have h:=hj.out;omega
        have htl:t<l.length:=by omega
        obtain⟨lb,lo,x,rfl,zl,cl,el,dl⟩:=oL.out.read.at (k:=t) htl;have EQ:Hid ((p++[x])::((l.drop (t+1)).map (fun x=>p++[x])++S')=(l.drop t).map (fun x=>p++[x])++S'):=Hd (by rw[dl.out];rfl);have q1:(t:Int)<(l.length:Int):=by omega
        have q2:(0:Int)<=(t:Int):=by omega
        have lp64:p.length<=64:=by omega
        have YB:=YB2;obtain⟨SQ,hSQ⟩:∃ SQ,Hid ((l.drop (t+1)).map (fun x=>p++[x])++S'=SQ):=⟨_,rfl⟩;rw[hSQ.out] at WI EQ;clear el dl hSQ LNI hj ht0;obtain⟨wus',RI,OI⟩:=WI.out;obtain⟨r,hr⟩:∃ r,Hid (r=p++[x]):=⟨p++[x],rfl⟩;have lr:r.length=p.length+1:=by rw[hr.out];simp
        have zi:=YB.out.size;replace RI:=Hd RI;replace OI:=Hd OI;go_upto_region 27 with(fail);refine wp_region_any (by kernel_rfl) ?_
        change wpAny _ _ _ _ _ _ _ (World.drew _)
        refine Zb (i:=0) (op:=Op.move (Operand.tmp 7)) (t:=23) (d:=some 86) (v:=?_) rfl (by decide +kernel) (by decide +kernel) (by decide +kernel) (fun _ _ _ h=>h) ?_ ?_
        case refine_2=>(intro _;unfold Ze;go_simp;try with_reducible rfl)
        try simp only[lay]
        refine Zb (i:=2) (op:=Op.move (Operand.tmp 10)) (t:=22) (d:=some 88) (v:=?_) rfl (by decide +kernel) (by decide +kernel) (by decide +kernel) (fun _ _ _ h=>h) ?_ ?_
        case refine_2=>(intro _;unfold Ze;go_simp;try with_reducible rfl)
        try simp only[lay]
        refine Zb (i:=4) (op:=Op.move (Operand.tmp 12)) (t:=22) (d:=some 90) (v:=?_) rfl (by decide +kernel) (by decide +kernel) (by decide +kernel) (fun _ _ _ h=>h) ?_ ?_
        case refine_2=>(intro _;unfold Ze;go_simp;try with_reducible rfl)
        try simp only[lay]
        refine Zb (i:=5) (op:=Op.move (Operand.tmp 14)) (t:=3) (d:=some 91) (v:=?_) rfl (by decide +kernel) (by decide +kernel) (by decide +kernel) (fun _ _ _ h=>h) ?_ ?_
        case refine_2=>(intro _;unfold Ze;go_simp;try with_reducible rfl)
        try simp only[lay]
        refine Zb (i:=6) (op:=Op.indexAddr 22 (Operand.tmp 90) (Operand.tmp 91)) (t:=0) (d:=some 92) (v:=?_) rfl (by decide +kernel) (by decide +kernel) (by decide +kernel) (fun _ _ _ h=>h) ?_ ?_
        case refine_2=>(intro _;unfold Ze;go_simp;try with_reducible rfl)
        try simp only[lay]
        refine Xl (n:=2) [(1,some 87),(3,some 89),(7,some 93),(8,some 94),(9,some 95),(10,some 96)] (fun | 1=>[3] | 3=>[9] | 8=>[9] | 9=>[10] | _=>[]) (Ext wi)
         (VF (fun | 7=>some (.int .i64 x) | _=>none)
          (fun j v W=>(j=1->∃ g,v=.slice (some ⟨g,0,none⟩) 0 0/\wi.heap.size<=g/\Blk W g 3 #[])/\(j=3->∃ A c,v=.slice A p.length c/\OwI W wi.heap.size A c p)/\(j=8->∃ h,v=.slice (some ⟨h,0,none⟩) 1 1/\Blk W h 3 #[.int .i64 x])/\(j=9->∃ A c,v=.slice A r.length c/\OwI W wi.heap.size A c r)/\(j=10->∃ h A c,v=.slice (some ⟨h,0,none⟩) 1 1/\Blk W h 22 #[.slice A r.length c]/\OwI W wi.heap.size A c r)))
         (fun i W W'=>if i=9 then ModT wi.heap.size [3] W W' else Ext W W') #[true,true,true,true,true,true,true,true,true,true,true,false,false] (by kernel_rfl) (by kernel_rfl) ?_ ?_ ?_ ((Ext.rf _).drew)
        ·intro i j v W W' hkp hv hs
         refine VF.stab1 (fun _ ⟨g1,g3,g8,g9,g10⟩=>?_) hv
         by_cases hi:i=9
         ·subst hi
          rw[if_pos rfl] at hs;refine⟨fun h=>?_,fun h=>?_,fun h=>?_,fun h=>?_,fun h=>?_⟩
          all_goals (subst h;exact absurd hkp (by decide +kernel))
         ·rw[if_neg hi] at hs
          refine⟨fun h=>?_,fun h=>?_,fun h=>?_,fun h=>?_,fun h=>?_⟩
          ·obtain⟨g,q1,q2,q3⟩:=g1 h
           exact⟨g,q1,q2,q3.ext hs⟩
          ·obtain⟨A',c',q1,q2⟩:=g3 h
           exact⟨A',c',q1,q2.ext hs⟩
          ·obtain⟨h',q1,q2⟩:=g8 h
           exact⟨h',q1,q2.ext hs⟩
          ·obtain⟨A',c',q1,q2⟩:=g9 h
           exact⟨A',c',q1,q2.ext hs⟩
          ·obtain⟨h',A',c',q1,q2,q3⟩:=g10 h
           exact⟨h',A',c',q1,q2.ext hs,q3.ext hs⟩
        ·intro pq hpm u W hRW hD K hK
         have z2:=hRW.size;simp only[List.mem_cons,List.not_mem_nil,or_false] at hpm;rcases hpm with rfl | rfl | rfl | rfl | rfl | rfl
         ·exact Qu rfl _ (Zd3 _) (hK _ _ (VF.mg rfl ⟨fun _=>⟨_,rfl,z2,.new rfl⟩,(fun h=>by cases h),(fun h=>by cases h),(fun h=>by cases h),(fun h=>by cases h)⟩) (hRW.alloc _) (by rw[if_neg (by decide)];exact(Ext.rf _).alloc _))
         ·obtain⟨g,h1,zg,bg⟩:=((hD 1 (Zq (by kernel_rfl))).g rfl).1 rfl
          obtain⟨A3,c3,w3,hr3,o3,x3⟩:=Xe W wi.heap.size 22 g p PA pc bg zg (oP.out.read.ext hRW) (by omega);exact Yr rfl (.slice (some ⟨g,0,none⟩) 0 0) (.slice PA p.length pc) (Eq.trans (b:=u 1) (by kernel_rfl) h1) (by kernel_rfl) _ hr3 (hK _ _ (VF.mg rfl ⟨(fun h=>by cases h),fun _=>⟨A3,c3,rfl,o3⟩,(fun h=>by cases h),(fun h=>by cases h),(fun h=>by cases h)⟩) (hRW.tr x3) (by rw[if_neg (by decide)];exact x3))
         ·have r1:=Zc hRW zl cl
          exact Zy (T:=3) rfl (.pointer (some ⟨lb,lo+t,none⟩)) (by kernel_rfl) (.int .i64 x) (by go_simp) (hK _ _ (VF.mk rfl) hRW (by rw[if_neg (by decide)];exact Ext.rf _))
         ·have h7:=(hD 7 (Zq (by kernel_rfl))).k rfl
          exact Wj rfl _ (Eq.trans (b:=u 7) (by kernel_rfl) h7) _ (Zd4 _ _) (hK _ _ (VF.mg rfl ⟨(fun h=>by cases h),(fun h=>by cases h),fun _=>⟨_,rfl,.new rfl⟩,(fun h=>by cases h),(fun h=>by cases h)⟩) (hRW.alloc _) (by rw[if_neg (by decide)];exact(Ext.rf _).alloc _))
         ·obtain⟨A3,c3',h3,o3⟩:=((hD 3 (Zq (by kernel_rfl))).g rfl).2.1 rfl
          obtain⟨g8,h8,b8⟩:=((hD 8 (Zq (by kernel_rfl))).g rfl).2.2.1 rfl;obtain⟨A7,c7,w7',hrun,o7,g7,-⟩:=Yc W wi.heap.size 22 A3 p.length c3' p [x] (some ⟨g8,0,none⟩) 1 rfl o3 (.blk b8 rfl) (by simp;omega) hRW.size;have x7:Ext wi w7':=hRW.grow g7 (fun k hk=>(o3.lt k hk).1);have M7:ModT wi.heap.size [3] W w7':=OwV.grownT (n:=p.length) (show OwV W wi.heap.size 3 1 A3 p.length c3' (p.map (Value.int .i64)) from o3) g7;rw[<-hr.out] at hrun o7;exact Yr rfl (.slice A3 p.length c3') (.slice (some ⟨g8,0,none⟩) 1 1) (Eq.trans (b:=u 3) (by kernel_rfl) h3) (Eq.trans (b:=u 8) (by kernel_rfl) h8) _ hrun (hK _ _ (VF.mg rfl ⟨(fun h=>by cases h),(fun h=>by cases h),(fun h=>by cases h),fun _=>⟨A7,c7,rfl,o7⟩,(fun h=>by cases h)⟩) x7 (by rw[if_pos rfl];exact M7))
         ·obtain⟨A7,c7,h7,o7⟩:=((hD 9 (Zq (by kernel_rfl))).g rfl).2.2.2.1 rfl
          exact Wj rfl _ (Eq.trans (b:=u 9) (by kernel_rfl) h7) _ (Zd5 _ _ _ _) (hK _ _ (VF.mg rfl ⟨(fun h=>by cases h),(fun h=>by cases h),(fun h=>by cases h),(fun h=>by cases h),fun _=>⟨_,A7,c7,rfl,.new rfl,o7.ext ((Ext.rf _).alloc _)⟩⟩) (hRW.alloc _) (by rw[if_neg (by decide)];exact(Ext.rf _).alloc _))
        ·intro u w8 hRW hV
         obtain⟨h12,A7,c7,h12e,b12,o7⟩:=((hV (10,some 96) (by simp) rfl).g rfl).2.2.2.2 rfl;simp only[Zn,h12e];have o2:=RI.out.ext hRW;obtain⟨A4,c4,w4,hrun,o4,g4,a4⟩:=Vf w8 (e:=22) Tryz.underlying23 hi.out hz0.out hz1.out hz2.out (by simp[Value.cells]) (by omega) wb.heap.size 23 WA' n' wc' wus' (some ⟨h12,0,none⟩) 1 1 [.slice A7 r.length c7] o2 ((RdV.blk b12).rdC) (by simp) (by simp[Value.oneCell']) (by simp only[maxLen];omega) (by omega) (YB.out.tr hRW).size;have M4:=o2.grownT g4;have X4:Hid (Ext wb w4):=(YB.out.tr hRW).grow g4 (fun z hz=>(o2.lt z hz).1);have L4:Hid (OwI w4 wb.heap.size (some ⟨lb,lo,none⟩) lc l):=(oL.out.ext hRW).modT M4 (by decide);have P4:Hid (OwI w4 wb.heap.size PA pc p):=(oP.out.ext hRW).modT M4 (by decide);have HI2:Hid (WaitS wb.heap.size w4 A4 (n'+1) c4 ((p++[x])::SQ)):=by
          refine⟨_,o4,?_⟩;rw[List.reverse_cons,<-hr.out];exact((OI.out.ext hRW).modT M4 (by decide)).snoc ((o7.modT M4 (by decide)).more (by omega))
         have OV9:Hid (OwV w4 wb.heap.size 41 2 RB (rn+1) rc2 rs2):=(OVi.out.ext hRW).modT M4 (by decide);clear h12e hV o7 b12 o2 g4 a4 o4 M4 hRW RI OI;refine Zm 11 (by kernel_rfl) (Yr rfl (.slice WA' n' wc') (.slice (some ⟨h12,0,none⟩) 1 1) (by kernel_rfl) (by kernel_rfl) _ hrun ?_);clear hrun
         try simp only[lay]
         refine Zb (i:=12) (op:=Op.assign (Operand.tmp 97)) (t:=23) (d:=some 7) (v:=?_) rfl (by decide +kernel) (by decide +kernel) (by decide +kernel) (fun _ _ _ h=>h) ?_ ?_
         case refine_2=>(intro _;unfold Ze;go_simp;try with_reducible rfl)
         try simp only[lay]
         refine wpAny_done (by kernel_rfl) ?_ _;clear cl;go_simp;rw[EQ.out] at HI2;clear YB2 YB;go_wp2_with (fail);go_roundw
         case rel=>exact⟨(t:Int)-1,t,A4,n'+1,c4,by go_num,rfl,rfl,by omega,HI2.out.ext (by(repeat (first | assumption | exact Ext.rf _ | apply Ext.drew | apply Ext.drewN | apply Ext.alloc))),P4.out.ext (by(repeat (first | assumption | exact Ext.rf _ | apply Ext.drew | apply Ext.drewN | apply Ext.alloc))),L4.out.ext (by(repeat (first | assumption | exact Ext.rf _ | apply Ext.drew | apply Ext.drewN | apply Ext.alloc))),OV9.out.ext (by(repeat (first | assumption | exact Ext.rf _ | apply Ext.drew | apply Ext.drewN | apply Ext.alloc))),X4.out.tr (by(repeat (first | assumption | exact Ext.rf _ | apply Ext.drew | apply Ext.drewN | apply Ext.alloc)))⟩
         case measure=>simp[intOf]
    ·have n98:((ch.toNat:Int)==98)=false:=by
      have:ch.toNat≠98:=fun h=>h98 (UInt8.toNat_inj.1 h)
      simp;omega
     by_cases h108:ch=108
     ·subst h108
      by_cases hw:p.length=D
      ·have e2:((p.length:Int)==(D:Int))=true:=by simp[hw]
       have OS2:Hid (∀ q∈S',okI i q):=fun q hq=>OS.out q (by simp[hq])
       have CT2:Hid (XL D kd (tr.drop (at_+1)) S'=0):=by
        have h:=CT.out;rw[if_neg h112,if_neg h98,if_pos rfl,if_pos hw] at h;exact h
       try replace hw:=Hd hw
       clear CT;go_wp2_with (at_builtin;refine Yd _ (e:=41) Tryz.underlying58 ri.out rz0.out rz1.out rz2.out (by simp[Value.cells]) (by omega) rfl _ _ rfl wb.heap.size RA rn rc rs (some ⟨w4.heap.size,0,none⟩) 1 1 [.int .i64 3,.slice PA p.length pc] rfl rfl (OV4.out.ext ((Ext.rf _).alloc _)) (RdV.blk (.new (by simp))).rdC (by simp) (by simp[Value.oneCell']) (by simp only[maxLen];omega) (by omega) (by simp;omega) ?_;rintro RB rc2 w6 oR gR _);have Y6:Ext wb w6:=Ext.grow (a:=wb) (Y4.out.alloc _) gR (fun z hz=>(OV4.out.lt z hz).1);have M6:ModT wb.heap.size [41] (w4.alloc (.cells #[.int .i64 3,.slice PA p.length pc] 41)) w6:=(OV4.out.ext ((Ext.rf w4).alloc (.cells #[.int .i64 3,.slice PA p.length pc] 41))).grownT gR;have OV6:Hid (OwV w6 wb.heap.size 41 2 RB (rn+1) rc2 (rs++[.int .i64 3,.slice PA p.length pc])):=oR;have WS6:Hid (WaitS wb.heap.size w6 WA2 k0 wc2 S'):=by
        obtain⟨us6,q1,q2⟩:=WS4.out;exact⟨us6,(q1.ext ((Ext.rf _).alloc _)).modT M6 (by decide),(q2.ext ((Ext.rf _).alloc _)).modT M6 (by decide)⟩
       have oP6:Hid (OwI w6 wb.heap.size PA pc p):=(oP4.out.ext ((Ext.rf _).alloc _)).modT M6 (by decide);have BB6:=Hd (B1.out.ext Y6);replace Y6:=Hd Y6;clear oR gR M6;have LN:=(WS6.out.len).1;have LN2:k0<=100*(at_+1)+1:=by omega
       replace LN:=Hd LN;go_wp2_with (fail);go_roundw
       case rel=>exact⟨at_+1,WA2,k0,wc2,S',RB,rn+1,rc2,_,by go_num,rfl,rfl,rfl,rfl,rfl,by omega,LN2,by omega,WS6.out.ext (by(repeat (first | assumption | exact Ext.rf _ | apply Ext.drew | apply Ext.drewN | apply Ext.alloc))),OV6.out.ext (by(repeat (first | assumption | exact Ext.rf _ | apply Ext.drew | apply Ext.drewN | apply Ext.alloc))),OS2,CT2,Y6.out.tr (by(repeat (first | assumption | exact Ext.rf _ | apply Ext.drew | apply Ext.drewN | apply Ext.alloc)))⟩
       case measure=>simp[intOf];omega
      ·have h:=CT.out
       rw[if_neg h112,if_neg h98,if_pos rfl,if_neg hw] at h
       cases h
     ·have h:=CT.out
      rw[if_neg h112,if_neg h98,if_neg h108] at h
      cases h
theorem ZgA (i:InstP)(us:List Value)(cost:Int)(w:World)(H:RInst w us i)(hc:Zh i=0)(hf:i.kind=1/\i.n<=7\/i.kind≠1/\i.n<=4) :
  Calls Tryz.prog 24 #[.agg (List.toArray us),.int .i64 cost] w fun e w'=>e=.returned (.string ⟨(Z6 (Zi i) (Zo i) (Zk i) cost (Zi i+1) []).toArray⟩)/\Ext w w':=by
 obtain⟨f1,f2,f3⟩:=ZdG hc hf cost;have RDD:=fun(W:World) (y:Ext w W)=>Zgz i us (Z6 (Zi i) (Zo i) (Zk i) cost (Zi i+1) []) W (H.ext y) hc (by omega) f3
 obtain⟨RW,hRW0⟩:∃ RW,Hid (Z6 (Zi i) (Zo i) (Zk i) cost (Zi i+1) []=RW):=⟨_,rfl⟩;rw[hRW0.out] at f1 f2 f3 RDD ⊢;unfold Za9 at RDD;have DE:=Hd (fun(W:World) (y:Ext w W)=>Jg i us W (H.ext y) hc);have BO:=Hd (fun(W:World) (y:Ext w W) (Q:Option Addr) (qc:Nat) (q:List Int) (hq:RdI W Q q) (lq:q.length<=1000000000)=>ZcI i us Q qc q W (H.ext y) hc hq lq);have KI:=Hd (fun(W:World) (y:Ext w W) (Q:Option Addr) (qc:Nat) (q:List Int) (hq:RdI W Q q) (ho:okI i q) (hl:q.length<Zi i)=>Zfb i us Q qc q W (H.ext y) hc hq ho hl (Jh hc));have KR:=Hd (Wt hc);have okn:=Hd (Ql hc);have n64:=Jh hc;have KN:Hid (∀ (q:List Int),okI i q->q.length<Zi i->(Zo i q).length<=64):=fun q ho hl=>by
  have:=We hc q ho hl;have h2:=Jh hc;split at this<;>omega
 have C0:Hid (([]:Wd)++Wc (Zi i) (Zo i) (Zk i) cost (3000-0) [[]]=RW):=f2;have O0:Hid (∀ q∈([[]]:List (List Int)),okI i q):=fun q hq=>by rw[List.mem_singleton.1 hq];exact okn.out
 unfold Wu at BO;unfold ZcH at KI;replace RDD:=Hd RDD;clear hc hf f1 f2 f3 hRW0;generalize Zi i=D at *;generalize Zk i=bd at *;generalize Zo i=kd at *;obtain⟨A,a,B,b,Dd,d,rfl,-,-,-⟩:=H;obtain⟨kind,hkd⟩:∃ q,Hid (q=i.kind):=⟨_,rfl⟩;obtain⟨nn,hnn⟩:∃ q,Hid (q=i.n):=⟨_,rfl⟩;obtain⟨cap,hcap⟩:∃ q,Hid (q=i.cap):=⟨_,rfl⟩;obtain⟨lxw,hxw⟩:∃ q,Hid (q=i.weight.length):=⟨_,rfl⟩;obtain⟨lxv,hxv⟩:∃ q,Hid (q=i.value.length):=⟨_,rfl⟩;obtain⟨lco,hco⟩:∃ q,Hid (q=i.cost.length):=⟨_,rfl⟩;rw[<-hkd.out,<-hnn.out,<-hcap.out,<-hxw.out,<-hxv.out,<-hco.out] at DE BO KI RDD ⊢;clear hkd hnn hcap hxw hxv hco;obtain⟨i0,hi,hz0,hz1,hz2⟩:=info_parts Za8;replace hi:=Hd hi;replace hz0:=Hd hz0;replace hz1:=Hd hz1;replace hz2:=Hd hz2;obtain⟨wb,hwb⟩:∃ wb,Hid (wb=w.alloc (.cells #[.int .i64 kind,.int .i64 nn,.int .i64 cap,.slice A lxw a,.slice B lxv b,.slice Dd lco d] 25)):=⟨_,rfl⟩;have XB:Hid (Ext w wb):=Hd (by rw[hwb.out];exact(Ext.rf w).alloc _);have B1:Hid (Blk wb w.heap.size 25 #[.int .i64 kind,.int .i64 nn,.int .i64 cap,.slice A lxw a,.slice B lxv b,.slice Dd lco d]):=Hd (by rw[hwb.out];exact .new rfl);have W0:Hid (WaitS wb.heap.size ((wb.alloc (.cells #[] 3)).alloc (.cells #[.slice (some ⟨wb.heap.size,0,none⟩) 0 0] 22)) (some ⟨wb.heap.size+1,0,none⟩) 1 1 [[]]):=WaitS.first (.new (by simp)) (.alloc (.new rfl) _) (by omega) (Nat.le_refl _);have CAT:Hid (∀ (ws:Wd) (x:UInt8),(⟨ws.toArray⟩:ByteArray)++⟨#[x]⟩=⟨(ws++[x]).toArray⟩):=fun ws x=>by
  apply ByteArray.ext;simp
 go_enter Tryz.func24,Tryz.ntmps24;go_upto_region 1 with(fail);rw[<-hwb.out];go_wp2_with (fail);go_loopw [5,6,7] (fun v5 v6 v7 wr=>∃ (k:Nat) (WA:Option Addr) (n wc:Nat) (S:List (List Int)) (ws:Wd),v7=.int .i64 k/\v5=.slice WA n wc/\v6=.string ⟨ws.toArray⟩/\k<=3000/\n<=100*k+1/\ws.length<=k/\Hid (WaitS wb.heap.size wr WA n wc S)/\Hid (∀ q∈S,okI i q)/\Hid (ws++Wc D kd bd cost (3000-k) S=RW)/\Hid (Ext wb wr)) (fun _ _ v7 _=>3000-(intOf v7).toNat)
 case atStart=>exact⟨0,_,1,1,[[]],[],rfl,rfl,rfl,by omega,by omega,by simp,W0.out.ext (by(repeat (first | assumption | exact Ext.rf _ | apply Ext.drew | apply Ext.drewN | apply Ext.alloc))),O0,C0,by(repeat (first | assumption | exact Ext.rf _ | apply Ext.drew | apply Ext.drewN | apply Ext.alloc))⟩
 case round =>
  obtain⟨wo,rfl⟩:∃ wo:World,wo=wr:=⟨_,rfl⟩;clear W0 O0 C0;obtain⟨at_,WA,n,wc,S,ws,rfl,rfl,rfl,hat,hn9,hws,WS,OS,CS,YB⟩:=hrel
  cases S with
  | nil =>
   obtain rfl:n=0:=(WS.out.len).1;obtain rfl:ws=RW:=by
    have h:=CS.out;rw[ZbT,List.append_nil] at h;exact h
   have BB:=Hd (B1.out.ext YB.out);have d0:=BB.out.c0;have d1:=BB.out.c1;have d2:=BB.out.c2;have d3:=BB.out.c3;have d4:=BB.out.c4;have d5:=BB.out.c5;go_wp2_with (fail);refine(RDD.out _ (XB.out.tr (YB.out.tr (by(repeat (first | assumption | exact Ext.rf _ | apply Ext.drew | apply Ext.drewN | apply Ext.alloc)))))).mono ?_;rintro e w9 ⟨QA,qn,qc,rfl,x9⟩;have Y9:=Hd (YB.out.tr (Ext.tr (by(repeat (first | assumption | exact Ext.rf _ | apply Ext.drew | apply Ext.drewN | apply Ext.alloc))) x9));clear x9;go_wp2_with (fail);go_ret;exact⟨rfl,XB.out.tr (Y9.out.tr (by(repeat (first | assumption | exact Ext.rf _ | apply Ext.drew | apply Ext.drewN | apply Ext.alloc))))⟩
  | cons p S' =>
   obtain⟨gW,PA,pc,us,hnS,rfl,cW,oP,rU,lU,oU,kU⟩:=WS.out.top;have WL:=WS.out.len;have zW:=World.block_lt_of_cell? _ _ cW;obtain⟨k0,hk0⟩:∃ k0:Nat,Hid (S'.length=k0):=⟨_,rfl⟩;rw[hk0.out] at cW rU lU oU kU hnS;obtain rfl:n=k0+1:=hnS;have hkc:k0<=wc:=by omega
   replace oP:=Hd oP;replace rU:=Hd rU;replace lU:=Hd lU;replace oU:=Hd oU;replace kU:=Hd kU;have zo:=YB.out.size;have q1:(0:Int)<((k0+1:Nat):Int):=by omega
   have q2:((k0+1:Nat):Int)-1=(k0:Int):=by omega
   have q3:(k0:Int)<((k0+1:Nat):Int):=by omega
   have q4:(0:Int)<=(k0:Int):=by omega
   have q5:(k0:Int)<=(wc:Int):=by omega
   have k9:(k0:Int)<=1000000:=by omega
   clear WL;have hgk:decide ((0:Int)<((k0:Int)+1))=true:=decide_eq_true (by omega);have hgk2:decide (0<k0+1)=true:=decide_eq_true (by omega)
   by_cases hal:at_=3000
   ·subst hal
    obtain rfl:ws=RW:=by
     have h:=CS.out;have e:Wc D kd bd cost (3000-3000) (p::S')=[]:=rfl;rw[e,List.append_nil] at h;exact h
    have BB:=Hd (B1.out.ext YB.out);have d0:=BB.out.c0;have d1:=BB.out.c1;have d2:=BB.out.c2;have d3:=BB.out.c3;have d4:=BB.out.c4;have d5:=BB.out.c5;go_wp2_with (fail);refine(RDD.out _ (XB.out.tr (YB.out.tr (by(repeat (first | assumption | exact Ext.rf _ | apply Ext.drew | apply Ext.drewN | apply Ext.alloc)))))).mono ?_;rintro e w9 ⟨QA,qn,qc,rfl,x9⟩;have Y9:=Hd (YB.out.tr (Ext.tr (by(repeat (first | assumption | exact Ext.rf _ | apply Ext.drew | apply Ext.drewN | apply Ext.alloc))) x9));clear x9;go_wp2_with (fail);go_ret;exact⟨rfl,XB.out.tr (Y9.out.tr (by(repeat (first | assumption | exact Ext.rf _ | apply Ext.drew | apply Ext.drewN | apply Ext.alloc))))⟩
   ·have hal2:(at_:Int)<3000:=by omega
    have okp:=OS.out p (by simp);have lpD:=KR.out.len p okp;have CT:=CS.out;rw[show 3000-at_=(3000-(at_+1))+1 by omega,ZaW] at CT;replace CT:=Hd CT;replace okp:=Hd okp;have lb:¬9223372036854775807<ws.length+1:=by omega
    have CAT1:=CAT.out ws;have OS2:Hid (∀ q∈S',okI i q):=fun q hq=>OS.out q (by simp[hq])
    clear CS;go_upto_region 8 with(at_builtin;refine Yd _ (e:=22) Tryz.underlying23 hi.out hz0.out hz1.out hz2.out (by simp[Value.cells]) (by omega) rfl _ _ rfl wb.heap.size (some ⟨wo.heap.size,0,none⟩) 0 0 [] (some ⟨gW,0,none⟩) k0 wc (us.take k0) rfl rfl (OwV.full (.new rfl) zo rfl (by simp[maxLen])) (rU.out.ext ((Ext.rf _).alloc _)) (by rw[lU.out];simp) kU.out (by simp only[maxLen];omega) (by omega) (by simp;omega) ?_;rintro WA2 wc2 w2 oW2 gW2 _);rw[Nat.zero_add] at oW2;have Y2:Ext wb w2:=Ext.grow (a:=wb) (YB.out.alloc _) gW2 (fun z hz=>by simp[bl] at hz;omega);have M2:ModT wb.heap.size [22] (wo.alloc (.cells #[] 22)) w2:=(OwV.full (w:=wo.alloc (.cells #[] 22)) (base:=wb.heap.size) (n:=0) (size:=1) (e:=22) (g:=wo.heap.size) (cs:=#[]) (.new rfl) zo rfl (by simp[maxLen])).grownT gW2;have WS2:Hid (WaitS wb.heap.size w2 WA2 k0 wc2 S'):=⟨_,by simpa using oW2,((oU.out.ext ((Ext.rf _).alloc _)).modT M2 (by decide))⟩;have oP2:Hid (OwI w2 wb.heap.size PA pc p):=(oP.out.ext ((Ext.rf _).alloc _)).modT M2 (by decide);replace Y2:=Hd Y2;clear oW2 gW2 M2 oU rU kU lU cW oP WS zW;have BB2:=Hd (B1.out.ext Y2.out);have d0:=BB2.out.c0;have d1:=BB2.out.c1;have d2:=BB2.out.c2;have d3:=BB2.out.c3;have d4:=BB2.out.c4;have d5:=BB2.out.c5;go_wp2_with (fail);refine(BO.out _ (XB.out.tr (Y2.out.tr (by(repeat (first | assumption | exact Ext.rf _ | apply Ext.drew | apply Ext.drewN | apply Ext.alloc))))) PA pc p (oP2.out.read.ext (by(repeat (first | assumption | exact Ext.rf _ | apply Ext.drew | apply Ext.drewN | apply Ext.alloc)))) (by omega)).mono ?_;rintro e w3 ⟨er,rfl,x3⟩;have X3:=Hd (Ext.tr (a:=w2) (by(repeat (first | assumption | exact Ext.rf _ | apply Ext.drew | apply Ext.drewN | apply Ext.alloc))) x3);have Y3:=Hd (Y2.out.tr X3.out);have WS3:=Hd (WS2.out.ext X3.out);have oP3:=Hd (oP2.out.ext X3.out);have BB3:=Hd (B1.out.ext Y3.out);clear x3 X3 WS2 oP2 BB2 Y2 d0 d1 d2 d3 d4 d5
    by_cases hb:cost<=bd p
    ·have CT2:Hid ((ws++[112])++Wc D kd bd cost (3000-(at_+1)) S'=RW):=by
      have h:=CT.out;rw[if_pos hb] at h;rw[List.append_assoc];exact h
     have hb1:decide (cost<=bd p)=true:=decide_eq_true hb;have CAT2:=CAT1 112;clear CT CAT1;have LN2:k0<=100*(at_+1)+1:=by omega
     have LW:(ws++[112]).length<=at_+1:=by rw[List.length_append];simp;omega
     go_wp2_with (fail);go_roundw
     case rel=>exact⟨at_+1,WA2,k0,wc2,S',ws++[112],by go_num,rfl,by first | rfl | rw[CAT2],by omega,LN2,LW,WS3.out.ext (by(repeat (first | assumption | exact Ext.rf _ | apply Ext.drew | apply Ext.drewN | apply Ext.alloc))),OS2,CT2,Y3.out.tr (by(repeat (first | assumption | exact Ext.rf _ | apply Ext.drew | apply Ext.drewN | apply Ext.alloc)))⟩
     case measure=>simp[intOf];omega
    ·have hb1:decide (cost<=bd p)=false:=decide_eq_false hb
     have d0:=BB3.out.c0;have d1:=BB3.out.c1;have d2:=BB3.out.c2;have d3:=BB3.out.c3;have d4:=BB3.out.c4;have d5:=BB3.out.c5;go_wp2_with (fail);refine(DE.out _ (XB.out.tr (Y3.out.tr (by(repeat (first | assumption | exact Ext.rf _ | apply Ext.drew | apply Ext.drewN | apply Ext.alloc)))))).mono ?_;rintro e w4 ⟨rfl,x4⟩;have X4:=Hd (Ext.tr (a:=w3) (by(repeat (first | assumption | exact Ext.rf _ | apply Ext.drew | apply Ext.drewN | apply Ext.alloc))) x4);have Y4:=Hd (Y3.out.tr X4.out);have WS4:=Hd (WS3.out.ext X4.out);have oP4:=Hd (oP3.out.ext X4.out);have BB4:=Hd (B1.out.ext Y4.out);clear x4 X4 WS3 oP3 BB3 Y3 d0 d1 d2 d3 d4 d5
     by_cases hw:p.length=D
     ·have e2:((p.length:Int)==(D:Int))=true:=by simp[hw]
      have CT2:Hid ((ws++[108])++Wc D kd bd cost (3000-(at_+1)) S'=RW):=by
       have h:=CT.out;rw[if_neg (show ¬cost<=bd p by omega),if_pos hw] at h;rw[List.append_assoc];exact h
      replace hw:=Hd hw;have CAT2:=CAT1 108;clear CT CAT1;have LN2:k0<=100*(at_+1)+1:=by omega
      have LW:(ws++[108]).length<=at_+1:=by rw[List.length_append];simp;omega
      go_wp2_with (fail);go_roundw
      case rel=>exact⟨at_+1,WA2,k0,wc2,S',ws++[108],by go_num,rfl,by first | rfl | rw[CAT2],by omega,LN2,LW,WS4.out.ext (by(repeat (first | assumption | exact Ext.rf _ | apply Ext.drew | apply Ext.drewN | apply Ext.alloc))),OS2,CT2,Y4.out.tr (by(repeat (first | assumption | exact Ext.rf _ | apply Ext.drew | apply Ext.drewN | apply Ext.alloc)))⟩
      case measure=>simp[intOf];omega
     ·have e2:((p.length:Int)==(D:Int))=false:=by simp;omega
      have CT2:Hid ((ws++[98])++Wc D kd bd cost (3000-(at_+1)) ((kd p).map (fun n=>p++[n])++S')=RW):=by
       have h:=CT.out;rw[if_neg (show ¬cost<=bd p by omega),if_neg hw] at h;rw[List.append_assoc];exact h
      have CAT2:=CAT1 98;clear CT CAT1;have hplt:p.length<D:=by omega
      have KN1:=KN.out p okp.out hplt;have KD:Hid (∀ n∈kd p,okI i (p++[n])):=fun n hn=>KR.out.kid p okp.out hplt n hn
      have KI1:=Hd (fun(W:World) (y:Ext w W) (Q:Option Addr) (qc:Nat) (hq:RdI W Q p)=>KI.out W y Q qc p hq okp.out hplt);obtain⟨l,hl⟩:∃ l,Hid (kd p=l):=⟨_,rfl⟩;rw[hl.out] at CT2 KN1 KD KI1;replace hplt:=Hd hplt;replace hw:=Hd hw;clear hl;have d0:=BB4.out.c0;have d1:=BB4.out.c1;have d2:=BB4.out.c2;have d3:=BB4.out.c3;have d4:=BB4.out.c4;have d5:=BB4.out.c5;go_wp2_with (fail);refine(KI1.out _ (XB.out.tr (Y4.out.tr (by(repeat (first | assumption | exact Ext.rf _ | apply Ext.drew | apply Ext.drewN | apply Ext.alloc))))) PA pc (oP4.out.read.ext (by(repeat (first | assumption | exact Ext.rf _ | apply Ext.drew | apply Ext.drewN | apply Ext.alloc))))).mono ?_;rintro e w5 ⟨LA,lc,rfl,oL,x5⟩;have X5:=Hd (Ext.tr (a:=w4) (by(repeat (first | assumption | exact Ext.rf _ | apply Ext.drew | apply Ext.drewN | apply Ext.alloc))) x5);have z4:=Y4.out.size;have Y5:=Hd (Y4.out.tr X5.out);have WS5:Hid (WaitS wb.heap.size w5 WA2 k0 wc2 ((l.drop l.length).map (fun x=>p++[x])++S')):=Hd (by
       rw[List.drop_length];exact WS4.out.ext X5.out)
      have oP5:=Hd (oP4.out.ext X5.out);have oL5:Hid (OwI w5 wb.heap.size LA lc l):=oL.more (by first | exact z4 | (simp;exact z4));have J0:Hid (((l.length:Int)-1)=(l.length:Int)-1):=rfl;clear x5 X5 oL WS4 oP4 BB4 Y4 d0 d1 d2 d3 d4 d5 z4;have ll64:(l.length:Int)<=64:=by omega
      go_wp2_with (fail);go_loopw [5,12] (fun v11 v18 wr=>∃ (j:Int) (t:Nat) (WA':Option Addr) (n' wc':Nat),v18=.int .i64 j/\v11=.slice WA' n' wc'/\Hid (j=(t:Int)-1)/\t<=l.length/\Hid (WaitS wb.heap.size wr WA' n' wc' ((l.drop t).map (fun x=>p++[x])++S'))/\Hid (OwI wr wb.heap.size PA pc p)/\Hid (OwI wr wb.heap.size LA lc l)/\Hid (Ext wb wr)) (fun _ v18 _=>(intOf v18+1).toNat)
      case atStart=>exact⟨(l.length:Int)-1,l.length,WA2,k0,wc2,by go_num,rfl,rfl,by omega,WS5.out.ext (by(repeat (first | assumption | exact Ext.rf _ | apply Ext.drew | apply Ext.drewN | apply Ext.alloc))),oP5.out.ext (by(repeat (first | assumption | exact Ext.rf _ | apply Ext.drew | apply Ext.drewN | apply Ext.alloc))),oL5.out.ext (by(repeat (first | assumption | exact Ext.rf _ | apply Ext.drew | apply Ext.drewN | apply Ext.alloc))),Y5.out.tr (by(repeat (first | assumption | exact Ext.rf _ | apply Ext.drew | apply Ext.drewN | apply Ext.alloc)))⟩
      case round =>
       obtain⟨wi,rfl⟩:∃ wi:World,wi=wr:=⟨_,rfl⟩;clear WS5 oP5 oL5 J0 Y5;obtain⟨j,t,WA',n',wc',rfl,rfl,hj,ht,WI,oP,oL,YB2⟩:=hrel;have LNI:=(WI.out.len).1;rw[List.length_append,List.length_map,List.length_drop,hk0.out] at LNI;have hn9':n'<=100*at_+65:=by omega
       by_cases ht0:t=0
       ·subst ht0
        obtain rfl:j=-1:=by have h:=hj.out;simpa using h
        have WI2:Hid (WaitS wb.heap.size wi WA' n' wc' (l.map (fun x=>p++[x])++S')):=WI;have OS3:Hid (∀ q∈l.map (fun n=>p++[n])++S',okI i q):=fun q hq=>by
         rcases List.mem_append.1 hq with h | h
         ·obtain⟨n,hn,rfl⟩:=List.mem_map.1 h
          exact KD.out n hn
         ·exact OS2.out q h
        have CT3:=CT2;obtain⟨SS,hSS⟩:∃ SS,Hid (l.map (fun n=>p++[n])++S'=SS):=⟨_,rfl⟩;rw[hSS.out] at WI2 OS3 CT3;clear WI CT2 hSS LNI;have LN2:n'<=100*(at_+1)+1:=by omega
        have LW:(ws++[98]).length<=at_+1:=by rw[List.length_append];simp;omega
        go_wp2_with (fail);go_roundw
        case rel=>exact⟨at_+1,WA',n',wc',SS,ws++[98],by go_num,rfl,by first | rfl | rw[CAT2],by omega,LN2,LW,WI2.out.ext (by(repeat (first | assumption | exact Ext.rf _ | apply Ext.drew | apply Ext.drewN | apply Ext.alloc))),OS3,CT3,YB2.out.tr (by(repeat (first | assumption | exact Ext.rf _ | apply Ext.drew | apply Ext.drewN | apply Ext.alloc)))⟩
        case measure=>simp[intOf];omega
       ·obtain⟨t,rfl⟩:∃ s,t=s+1:=⟨t-1,by omega⟩
        obtain rfl:j=(t:Int):=by have h:=hj.out;omega
        have htl:t<l.length:=by omega
        obtain⟨lb_,lo,x,rfl,zl,cl,el,dl⟩:=oL.out.read.at (k:=t) htl;have EQ:Hid ((p++[x])::((l.drop (t+1)).map (fun x=>p++[x])++S')=(l.drop t).map (fun x=>p++[x])++S'):=Hd (by rw[dl.out];rfl);have q1:(t:Int)<(l.length:Int):=by omega
        have q2:(0:Int)<=(t:Int):=by omega
        have lp64:p.length<=64:=by omega
        have YB:=YB2;obtain⟨SQ,hSQ⟩:∃ SQ,Hid ((l.drop (t+1)).map (fun x=>p++[x])++S'=SQ):=⟨_,rfl⟩;rw[hSQ.out] at WI EQ;clear el dl hSQ LNI hj ht0;obtain⟨wus',RI,OI⟩:=WI.out;obtain⟨r,hr⟩:∃ r,Hid (r=p++[x]):=⟨p++[x],rfl⟩;have lr:r.length=p.length+1:=by rw[hr.out];simp
        have zi:=YB.out.size;replace RI:=Hd RI;replace OI:=Hd OI;go_upto_region 18 with(fail);refine wp_region_any (by kernel_rfl) ?_
        change wpAny _ _ _ _ _ _ _ (World.drew _)
        refine Zb (i:=0) (op:=Op.move (Operand.tmp 5)) (t:=23) (d:=some 70) (v:=?_) rfl (by decide +kernel) (by decide +kernel) (by decide +kernel) (fun _ _ _ h=>h) ?_ ?_
        case refine_2=>(intro _;unfold Ze;go_simp;try with_reducible rfl)
        try simp only[lay]
        refine Zb (i:=2) (op:=Op.move (Operand.tmp 8)) (t:=22) (d:=some 72) (v:=?_) rfl (by decide +kernel) (by decide +kernel) (by decide +kernel) (fun _ _ _ h=>h) ?_ ?_
        case refine_2=>(intro _;unfold Ze;go_simp;try with_reducible rfl)
        try simp only[lay]
        refine Zb (i:=4) (op:=Op.move (Operand.tmp 11)) (t:=22) (d:=some 74) (v:=?_) rfl (by decide +kernel) (by decide +kernel) (by decide +kernel) (fun _ _ _ h=>h) ?_ ?_
        case refine_2=>(intro _;unfold Ze;go_simp;try with_reducible rfl)
        try simp only[lay]
        refine Zb (i:=5) (op:=Op.move (Operand.tmp 12)) (t:=3) (d:=some 75) (v:=?_) rfl (by decide +kernel) (by decide +kernel) (by decide +kernel) (fun _ _ _ h=>h) ?_ ?_
        case refine_2=>(intro _;unfold Ze;go_simp;try with_reducible rfl)
        try simp only[lay]
        refine Zb (i:=6) (op:=Op.indexAddr 22 (Operand.tmp 74) (Operand.tmp 75)) (t:=0) (d:=some 76) (v:=?_) rfl (by decide +kernel) (by decide +kernel) (by decide +kernel) (fun _ _ _ h=>h) ?_ ?_
        case refine_2=>(intro _;unfold Ze;go_simp;try with_reducible rfl)
        try simp only[lay]
        refine Xl (n:=2) [(1,some 71),(3,some 73),(7,some 77),(8,some 78),(9,some 79),(10,some 80)] (fun | 1=>[3] | 3=>[9] | 8=>[9] | 9=>[10] | _=>[]) (Ext wi)
         (VF (fun | 7=>some (.int .i64 x) | _=>none)
          (fun j v W=>(j=1->∃ g,v=.slice (some ⟨g,0,none⟩) 0 0/\wi.heap.size<=g/\Blk W g 3 #[])/\(j=3->∃ A c,v=.slice A p.length c/\OwI W wi.heap.size A c p)/\(j=8->∃ h,v=.slice (some ⟨h,0,none⟩) 1 1/\Blk W h 3 #[.int .i64 x])/\(j=9->∃ A c,v=.slice A r.length c/\OwI W wi.heap.size A c r)/\(j=10->∃ h A c,v=.slice (some ⟨h,0,none⟩) 1 1/\Blk W h 22 #[.slice A r.length c]/\OwI W wi.heap.size A c r)))
         (fun i W W'=>if i=9 then ModT wi.heap.size [3] W W' else Ext W W') #[true,true,true,true,true,true,true,true,true,true,true,false,false] (by kernel_rfl) (by kernel_rfl) ?_ ?_ ?_ ((Ext.rf _).drew)
        ·intro i j v W W' hkp hv hs
         refine VF.stab1 (fun _ ⟨g1,g3,g8,g9,g10⟩=>?_) hv
         by_cases hi:i=9
         ·subst hi
          rw[if_pos rfl] at hs;refine⟨fun h=>?_,fun h=>?_,fun h=>?_,fun h=>?_,fun h=>?_⟩
          all_goals (subst h;exact absurd hkp (by decide +kernel))
         ·rw[if_neg hi] at hs
          refine⟨fun h=>?_,fun h=>?_,fun h=>?_,fun h=>?_,fun h=>?_⟩
          ·obtain⟨g,q1,q2,q3⟩:=g1 h
           exact⟨g,q1,q2,q3.ext hs⟩
          ·obtain⟨A',c',q1,q2⟩:=g3 h
           exact⟨A',c',q1,q2.ext hs⟩
          ·obtain⟨h',q1,q2⟩:=g8 h
           exact⟨h',q1,q2.ext hs⟩
          ·obtain⟨A',c',q1,q2⟩:=g9 h
           exact⟨A',c',q1,q2.ext hs⟩
          ·obtain⟨h',A',c',q1,q2,q3⟩:=g10 h
           exact⟨h',A',c',q1,q2.ext hs,q3.ext hs⟩
        ·intro pq hpm u W hRW hD K hK
         have z2:=hRW.size;simp only[List.mem_cons,List.not_mem_nil,or_false] at hpm;rcases hpm with rfl | rfl | rfl | rfl | rfl | rfl
         ·exact Qu rfl _ (Zd3 _) (hK _ _ (VF.mg rfl ⟨fun _=>⟨_,rfl,z2,.new rfl⟩,(fun h=>by cases h),(fun h=>by cases h),(fun h=>by cases h),(fun h=>by cases h)⟩) (hRW.alloc _) (by rw[if_neg (by decide)];exact(Ext.rf _).alloc _))
         ·obtain⟨g,h1,zg,bg⟩:=((hD 1 (Zq (by kernel_rfl))).g rfl).1 rfl
          obtain⟨A3,c3,w3,hr3,o3,x3⟩:=Xe W wi.heap.size 22 g p PA pc bg zg (oP.out.read.ext hRW) (by omega);exact Yr rfl (.slice (some ⟨g,0,none⟩) 0 0) (.slice PA p.length pc) (Eq.trans (b:=u 1) (by kernel_rfl) h1) (by kernel_rfl) _ hr3 (hK _ _ (VF.mg rfl ⟨(fun h=>by cases h),fun _=>⟨A3,c3,rfl,o3⟩,(fun h=>by cases h),(fun h=>by cases h),(fun h=>by cases h)⟩) (hRW.tr x3) (by rw[if_neg (by decide)];exact x3))
         ·have r1:=Zc hRW zl cl
          exact Zy (T:=3) rfl (.pointer (some ⟨lb_,lo+t,none⟩)) (by kernel_rfl) (.int .i64 x) (by go_simp) (hK _ _ (VF.mk rfl) hRW (by rw[if_neg (by decide)];exact Ext.rf _))
         ·have h7:=(hD 7 (Zq (by kernel_rfl))).k rfl
          exact Wj rfl _ (Eq.trans (b:=u 7) (by kernel_rfl) h7) _ (Zd4 _ _) (hK _ _ (VF.mg rfl ⟨(fun h=>by cases h),(fun h=>by cases h),fun _=>⟨_,rfl,.new rfl⟩,(fun h=>by cases h),(fun h=>by cases h)⟩) (hRW.alloc _) (by rw[if_neg (by decide)];exact(Ext.rf _).alloc _))
         ·obtain⟨A3,c3',h3,o3⟩:=((hD 3 (Zq (by kernel_rfl))).g rfl).2.1 rfl
          obtain⟨g8,h8,b8⟩:=((hD 8 (Zq (by kernel_rfl))).g rfl).2.2.1 rfl;obtain⟨A7,c7,w7',hrun,o7,g7,-⟩:=Yc W wi.heap.size 22 A3 p.length c3' p [x] (some ⟨g8,0,none⟩) 1 rfl o3 (.blk b8 rfl) (by simp;omega) hRW.size;have x7:Ext wi w7':=hRW.grow g7 (fun k hk=>(o3.lt k hk).1);have M7:ModT wi.heap.size [3] W w7':=OwV.grownT (n:=p.length) (show OwV W wi.heap.size 3 1 A3 p.length c3' (p.map (Value.int .i64)) from o3) g7;rw[<-hr.out] at hrun o7;exact Yr rfl (.slice A3 p.length c3') (.slice (some ⟨g8,0,none⟩) 1 1) (Eq.trans (b:=u 3) (by kernel_rfl) h3) (Eq.trans (b:=u 8) (by kernel_rfl) h8) _ hrun (hK _ _ (VF.mg rfl ⟨(fun h=>by cases h),(fun h=>by cases h),(fun h=>by cases h),fun _=>⟨A7,c7,rfl,o7⟩,(fun h=>by cases h)⟩) x7 (by rw[if_pos rfl];exact M7))
         ·obtain⟨A7,c7,h7,o7⟩:=((hD 9 (Zq (by kernel_rfl))).g rfl).2.2.2.1 rfl
          exact Wj rfl _ (Eq.trans (b:=u 9) (by kernel_rfl) h7) _ (Zd5 _ _ _ _) (hK _ _ (VF.mg rfl ⟨(fun h=>by cases h),(fun h=>by cases h),(fun h=>by cases h),(fun h=>by cases h),fun _=>⟨_,A7,c7,rfl,.new rfl,o7.ext ((Ext.rf _).alloc _)⟩⟩) (hRW.alloc _) (by rw[if_neg (by decide)];exact(Ext.rf _).alloc _))
        ·intro u w8 hRW hV
         obtain⟨h12,A7,c7,h12e,b12,o7⟩:=((hV (10,some 80) (by simp) rfl).g rfl).2.2.2.2 rfl;simp only[Zn,h12e];have o2:=RI.out.ext hRW;obtain⟨A4,c4,w4,hrun,o4,g4,a4⟩:=Vf w8 (e:=22) Tryz.underlying23 hi.out hz0.out hz1.out hz2.out (by simp[Value.cells]) (by omega) wb.heap.size 23 WA' n' wc' wus' (some ⟨h12,0,none⟩) 1 1 [.slice A7 r.length c7] o2 ((RdV.blk b12).rdC) (by simp) (by simp[Value.oneCell']) (by simp only[maxLen];omega) (by omega) (YB.out.tr hRW).size;have M4:=o2.grownT g4;have X4:Hid (Ext wb w4):=(YB.out.tr hRW).grow g4 (fun z hz=>(o2.lt z hz).1);have L4:Hid (OwI w4 wb.heap.size (some ⟨lb_,lo,none⟩) lc l):=(oL.out.ext hRW).modT M4 (by decide);have P4:Hid (OwI w4 wb.heap.size PA pc p):=(oP.out.ext hRW).modT M4 (by decide);have HI2:Hid (WaitS wb.heap.size w4 A4 (n'+1) c4 ((p++[x])::SQ)):=by
          refine⟨_,o4,?_⟩;rw[List.reverse_cons,<-hr.out];exact((OI.out.ext hRW).modT M4 (by decide)).snoc ((o7.modT M4 (by decide)).more (by omega))
         clear h12e hV o7 b12 o2 g4 a4 o4 M4 hRW RI OI;refine Zm 11 (by kernel_rfl) (Yr rfl (.slice WA' n' wc') (.slice (some ⟨h12,0,none⟩) 1 1) (by kernel_rfl) (by kernel_rfl) _ hrun ?_);clear hrun
         try simp only[lay]
         refine Zb (i:=12) (op:=Op.assign (Operand.tmp 81)) (t:=23) (d:=some 5) (v:=?_) rfl (by decide +kernel) (by decide +kernel) (by decide +kernel) (fun _ _ _ h=>h) ?_ ?_
         case refine_2=>(intro _;unfold Ze;go_simp;try with_reducible rfl)
         try simp only[lay]
         refine wpAny_done (by kernel_rfl) ?_ _;clear cl;go_simp;rw[EQ.out] at HI2;clear YB2 YB;go_wp2_with (fail);go_roundw
         case rel=>exact⟨(t:Int)-1,t,A4,n'+1,c4,by go_num,rfl,rfl,by omega,HI2.out.ext (by(repeat (first | assumption | exact Ext.rf _ | apply Ext.drew | apply Ext.drewN | apply Ext.alloc))),P4.out.ext (by(repeat (first | assumption | exact Ext.rf _ | apply Ext.drew | apply Ext.drewN | apply Ext.alloc))),L4.out.ext (by(repeat (first | assumption | exact Ext.rf _ | apply Ext.drew | apply Ext.drewN | apply Ext.alloc))),X4.out.tr (by(repeat (first | assumption | exact Ext.rf _ | apply Ext.drew | apply Ext.drewN | apply Ext.alloc)))⟩
         case measure=>simp[intOf]
def Ji : Int:=1152921504606846976
section
variable {rows:List (List Int)} {n G:Nat} {T:Nat->Nat->Int} {Bk:Nat->Nat->Nat}
structure WayAt (rows:List (List Int))(n:Nat)(T:Nat->Nat->Int)(Bk:Nat->Nat->Nat)(g l:Nat) : Prop where
 one:ZL g l=0->T g l=Za rows 0 (l+1)
 le:ZL g l≠0->∀ a,a<n->(ZL g l).testBit a=true->T g l<=T (ZL g l) a+Za rows (a+1) (l+1)
 eq:ZL g l≠0->Bk g l<n/\(ZL g l).testBit (Bk g l)=true/\T g l=T (ZL g l) (Bk g l)+Za rows (Bk g l+1) (l+1)
def WayOk (rows:List (List Int))(n:Nat)(T:Nat->Nat->Int)(Bk:Nat->Nat->Nat)(G:Nat) : Prop:=∀ g l,g<G->l<n->g.testBit l=true->WayAt rows n T Bk g l
theorem ZiA {n g:Nat}(hn:n<=24)(h:g<2^n) : g<18446744073709551616:=by
 have:2^n<=2^24:=Nat.pow_le_pow_right (by omega) hn;omega
theorem Jj {n g l j:Nat}(hn:n<=24)(h:g<2^n) : (ZL g l).testBit j=(g.testBit j&&decide (l≠j)):=QY (ZiA hn h)
theorem U6 {n g l:Nat}(hn:n<=24)(h:g<2^n)(hl:g.testBit l=true) : ZL g l<g:=by
 have e:g &&& ZL g l=ZL g l:=Nat.eq_of_testBit_eq fun j=>by
  rw[Nat.testBit_and,Jj hn h]
  cases g.testBit j<;>simp
 have h1:ZL g l<=g:=by
  rw[<-e];exact Nat.and_le_left
 have h2:ZL g l≠g:=fun e2=>by
  have h3:=Jj (l:=l) (j:=l) hn h;rw[e2,hl] at h3;simp at h3
 omega
theorem Zi5 {n g l:Nat}(hn:n<=24)(h:g<2^n)(hl:l<n)(hb:g.testBit l=false) : ZL (g ||| 2^l) l=g/\g ||| 2^l<2^n:=by
 have h2:g ||| 2^l<2^n:=Nat.or_lt_two_pow h (Nat.pow_lt_pow_right (by omega) hl)
 refine⟨Nat.eq_of_testBit_eq fun j=>?_,h2⟩;rw[Jj hn h2,Nat.testBit_or]
 by_cases e:l=j
 ·subst e
  simp[hb]
 ·rw[Nat.testBit_two_pow_of_ne e]
  simp[e]
theorem WayOk.bd (hn:n<=24)(hG:G<=2^n)(h:WayOk rows n T Bk G)(num:∀ a b,a<n+1->b<n+1->0<=Za rows a b/\Za rows a b<=2147483647) : ∀ (g l:Nat),g<G->l<n->g.testBit l=true->0<=T g l/\T g l<=g*2147483647:=by
 intro g
 induction g using Nat.strongRecOn with
 | ind g ih =>
  intro l hg hl hb;have w:=h g l hg hl hb;have g0:0<g:=Nat.pos_of_ne_zero fun e=>by rw[e] at hb;simp at hb
  by_cases e:ZL g l=0
  ·rw[w.one e]
   have:=num 0 (l+1) (by omega) (by omega);omega
  ·obtain⟨h1,h2,h3⟩:=w.eq e
   have h4:=U6 hn (by omega:g<2^n) hb;have h5:=ih (ZL g l) h4 (Bk g l) (by omega) h1 h2;have h6:=num (Bk g l+1) (l+1) (by omega) (by omega);rw[h3];have h7:((ZL g l:Nat):Int)+1<=(g:Int):=by omega
   generalize ((ZL g l:Nat):Int)=z at *;omega
theorem ZhF (hn:n<=24)(h:WayOk rows n T Bk (2^n)) : ∀ (r:List Nat) (g a:Nat),g<2^n->a<n->g.testBit a=true->r.Nodup->(∀ y∈r,1<=y/\y<=n/\g.testBit (y-1)=false) ->
  ∃ g' l',g'<2^n/\l'<n/\g'.testBit l'=true/\(∀ j,g'.testBit j=true↔g.testBit j=true\/j+1∈r)/\T g' l'+Za rows (l'+1) 0<=T g a+ZC rows (a+1) r
 | [],g,a,hg,ha,hb,_,_=>⟨g,a,hg,ha,hb,(fun j=>by simp),Int.le_refl _⟩
 | y::r,g,a,hg,ha,hb,hd,hr=>by
  obtain⟨y1,y2,y3⟩:=hr y (by simp);obtain⟨hd1,hd2⟩:=List.nodup_cons.1 hd;obtain⟨e1,e2⟩:=Zi5 hn hg (l:=y-1) (by omega) y3;have hyb:(g ||| 2^(y-1)).testBit (y-1)=true:=by rw[Nat.testBit_or,Nat.testBit_two_pow_self,Bool.or_true]
  have w:=h _ _ e2 (by omega) hyb;have hg0:g≠0:=fun e=>by rw[e] at hb;simp at hb
  have hle:=w.le (by rw[e1];exact hg0) a ha (by rw[e1];exact hb);rw[e1,show y-1+1=y by omega] at hle;obtain⟨g',l',k1,k2,k3,k4,k5⟩:=ZhF hn h r (g ||| 2^(y-1)) (y-1) e2 (by omega) hyb hd2 (fun z hz=>by
   obtain⟨z1,z2,z3⟩:=hr z (by simp[hz]);refine⟨z1,z2,?_⟩;have hne:y≠z:=fun e=>hd1 (e ▸ hz)
   rw[Nat.testBit_or,z3,Nat.testBit_two_pow_of_ne (by omega)]
   rfl)
  rw[show y-1+1=y by omega] at k5;refine⟨g',l',k1,k2,k3,fun j=>?_,?_⟩
  ·rw[k4,Nat.testBit_or,Bool.or_eq_true,List.mem_cons,or_assoc]
   refine or_congr Iff.rfl (or_congr ?_ Iff.rfl);rw[Nat.testBit_two_pow,decide_eq_true_iff];omega
  ·show _<=T g a+(Za rows (a+1) y+ZC rows y r)
   omega
theorem Jk {n j:Nat} : (2^n-1).testBit j=decide (j<n):=Nat.testBit_two_pow_sub_one n j
theorem ZgB (hn:n<=24)(h:WayOk rows n T Bk (2^n)){q:List Nat}(hq:(0::q).Perm (List.range (n+1)))(n1:1<=n) : ∃ l,l<n/\T (2^n-1) l+Za rows (l+1) 0<=ZC rows 0 q:=by
 have hmem:∀ y,y∈0::q↔y<n+1:=fun y=>by rw[hq.mem_iff,List.mem_range]
 have hnd:(0::q).Nodup:=hq.nodup_iff.2 List.nodup_range;obtain⟨h0,hd⟩:=List.nodup_cons.1 hnd
 match q,hq,hmem,h0,hd with
 | [],hq,_,_,_ =>
  have:=hq.length_eq;simp at this;omega
 | x::r,hq,hmem,h0,hd =>
  have hx:x<n+1:=(hmem x).1 (by simp);have hx0:x≠0:=fun e=>h0 (by simp[e])
  have hg:2^(x-1)<2^n:=Nat.pow_lt_pow_right (by omega) (by omega);have hb:(2^(x-1)).testBit (x-1)=true:=Nat.testBit_two_pow_self;obtain⟨hd1,hd2⟩:=List.nodup_cons.1 hd;have e0:ZL (2^(x-1)) (x-1)=0:=Nat.eq_of_testBit_eq fun j=>by
   rw[Jj hn hg,Nat.testBit_two_pow]
   by_cases e:x-1=j<;>simp[e]
  have e1:=(h _ _ hg (by omega:x-1<n) hb).one e0;rw[show x-1+1=x by omega] at e1;obtain⟨g',l',k1,k2,k3,k4,k5⟩:=ZhF hn h r (2^(x-1)) (x-1) hg (by omega) hb hd2 (fun z hz=>by
   have hz2:z<n+1:=(hmem z).1 (by simp[hz]);have hz0:z≠0:=fun e=>h0 (by simp[<-e,hz])
   have hne:x≠z:=fun e=>hd1 (e ▸ hz)
   exact⟨by omega,by omega,Nat.testBit_two_pow_of_ne (by omega)⟩)
  have eg:g'=2^n-1:=Nat.eq_of_testBit_eq fun j=>by
   rw[Jk,Bool.eq_iff_iff,k4,decide_eq_true_iff,Nat.testBit_two_pow,decide_eq_true_iff]
   constructor
   ·rintro (h1 | h1)
    ·omega
    ·have:=(hmem (j+1)).1 (by simp[h1])
     omega
   ·intro hj
    have h1:=(hmem (j+1)).2 (by omega);simp only[List.mem_cons] at h1;rcases h1 with h1 | h1 | h1
    ·omega
    ·left;omega
    ·exact .inr h1
  rw[eg] at k5;rw[show x-1+1=x by omega,e1] at k5;exact⟨l',k2,k5⟩
structure Trail (rows:List (List Int))(n:Nat)(T:Nat->Nat->Int)(C:Int)(g l:Nat)(ys:List Nat) : Prop where
 nod:ys.Nodup
 mem:∀ y,y∈ys↔1<=y/\y<=n/\g.testBit (y-1)=false
 lt:g<2^n
 go:g≠0->l<n/\g.testBit l=true/\C=T g l+ZC rows (l+1) ys
 fin:g=0->C=ZC rows 0 ys
theorem Trail.start {l:Nat}(n1:1<=n)(hl:l<n) : Trail rows n T (T (2^n-1) l+Za rows (l+1) 0) (2^n-1) l [] where
 nod:=List.nodup_nil
 mem:=fun y=>by
  rw[Jk,decide_eq_false_iff_not];simp;omega
 lt:=by have:=Nat.two_pow_pos n;omega
 go:=fun _=>⟨hl,by rw[Jk];simpa using hl,rfl⟩
 fin:=fun e=>by
  have:2^1<=2^n:=Nat.pow_le_pow_right (by omega) n1;omega
theorem Trail.step {C:Int}{g l:Nat}{ys:List Nat}(hn:n<=24)(h:WayOk rows n T Bk (2^n))(t:Trail rows n T C g l ys)(hg:g≠0) : Trail rows n T C (ZL g l) (Bk g l) ((l+1)::ys)/\ZL g l<g:=by
 obtain⟨h1,h2,h3⟩:=t.go hg;have w:=h g l t.lt h1 h2;have hless:=U6 hn t.lt h2;have hlt:=t.lt;refine⟨⟨List.nodup_cons.2 ⟨fun hm=>?_,t.nod⟩,fun y=>?_,by omega,fun e=>?_,fun e=>?_⟩,hless⟩
 ·have:=((t.mem (l+1)).1 hm).2.2
  rw[Nat.add_sub_cancel,h2] at this
  cases this
 ·rw[List.mem_cons,t.mem,Jj hn t.lt]
  by_cases e:y=l+1
  ·subst e
   simp;omega
  ·by_cases e2:l=y-1
   ·have:y=0:=by omega
    subst this;simp
   ·simp[e,e2]
 ·obtain⟨k1,k2,k3⟩:=w.eq e
  refine⟨k1,k2,?_⟩;show C=T (ZL g l) (Bk g l)+(Za rows (Bk g l+1) (l+1)+ZC rows (l+1) ys);rw[h3,k3];omega
 ·show C=Za rows 0 (l+1)+ZC rows (l+1) ys
  rw[h3,w.one e]
theorem Trail.end {C:Int}{l:Nat}{ys:List Nat}(t:Trail rows n T C 0 l ys) : (0::ys).Perm (List.range (n+1))/\C=ZC rows 0 ys:=by
 refine⟨(List.perm_ext_iff_of_nodup (List.nodup_cons.2 ⟨fun hm=>?_,t.nod⟩) List.nodup_range).2 fun y=>?_,t.fin rfl⟩
 ·have:=((t.mem 0).1 hm).1
  omega
 ·rw[List.mem_cons,t.mem,List.mem_range]
  simp;omega
end
end Go.Proofs.YtmojhhlcocjoaaaGreatDoor
namespace Go.Proofs.YtmojhhlcocjoaaaGreatDoor
open Go.RowKit Go.ChangeShapes Go.WideShapes Go.ChangeAt Go.Deep
def Arr (w:World)(g n:Nat)(u:Nat->Int) : Prop:=Blk w g 3 (List.toArray ((List.range n).map fun i=>Value.int .i64 (u i)))
def ArrB (w:World)(g n:Nat)(u:Nat->Bool) : Prop:=Blk w g 4 (List.toArray ((List.range n).map fun i=>Value.bool (u i)))
section
variable {w w':World} {g n:Nat} {u v:Nat->Int} {p q:Nat->Bool}
theorem Arr.cell (h:Arr w g n u){k:Nat}(hk:k<n) : w.cell? ⟨g,k,none⟩=some (.int .i64 (u k)):=by
 rw[Blk.cell h];simp[hk]
theorem Arr.free (h:Arr w g n u)(k:Nat) : w.frozen? ⟨g,k,none⟩=false:=Blk.free h k
theorem Arr.lt (h:Arr w g n u) : g<w.heap.size:=Blk.lt h
theorem Arr.ext (h:Arr w g n u)(x:Ext w w') : Arr w' g n u:=Blk.ext h x
theorem Arr.mod {S:Nat->Prop}(h:Arr w g n u)(hm:Mod S w w')(hg:¬S g) : Arr w' g n u:=Blk.mod h hm hg
theorem Arr.far (h:Arr w g n u){a:Addr}(hp:g≠a.block)(x:Value) : Arr (w.setCell a x) g n u:=Blk.far h hp x
theorem Zca {α:Type}(f:Nat->α)(n k:Nat)(x:α) : ((List.range n).map f).set k x=(List.range n).map fun i=>if i=k then x else f i:=by
 refine List.ext_getElem? fun i=>?_
 rw[List.getElem?_set]
 by_cases hi:i<n
 ·by_cases e:k=i
  ·subst e;simp[hi]
  ·have e':¬i=k:=fun h=>e h.symm
   simp[e,e',hi]
 ·by_cases e:k=i
  ·subst e;simp[hi]
  ·simp[e,hi]
theorem Arr.set (h:Arr w g n u)(k:Nat)(x:Int) : Arr (w.setCell ⟨g,k,none⟩ (.int .i64 x)) g n (fun i=>if i=k then x else u i):=by
 have h1:=Blk.set h k (.int .i64 x);have e:(List.toArray ((List.range n).map fun i=>Value.int .i64 (u i))).setIfInBounds k (.int .i64 x)=List.toArray ((List.range n).map fun i=>Value.int .i64 (if i=k then x else u i)):=by
  rw[List.setIfInBounds_toArray,Zca]
  congr 1
  refine List.map_congr_left fun i _=>?_
  split<;>rfl
 rw[e] at h1;exact h1
theorem Arr.congr (h:Arr w g n u)(e:∀ i,i<n->u i=v i) : Arr w g n v:=by
 unfold Arr at h ⊢;have:((List.range n).map fun i=>Value.int .i64 (u i))=(List.range n).map fun i=>Value.int .i64 (v i):=List.map_congr_left fun i hi=>by rw[e i (List.mem_range.1 hi)]
 rwa [this] at h
theorem Arr.rdI (h:Arr w g n u) : RdI w (some ⟨g,0,none⟩) ((List.range n).map u):=RdI.blk h (by simp[Function.comp_def])
theorem Arr.ne {g':Nat}{t':TypeId}{cs':Array Value}(h:Arr w g n u)(h':Blk w g' t' cs')(hne:3≠t') : g≠g':=Blk.ne h h' hne
theorem Arr.of_own {base:Nat}{x:Int}(h:OwI w base (some ⟨g,0,none⟩) n (List.replicate n x)) : Arr w g n (fun _=>x):=by
 rcases h.cases with⟨e,_⟩ | ⟨g',cur,e,_,hg,_,_,hs,ht⟩
 ·cases e
 ·obtain rfl:g=g':=by simpa using e
  have hl:cur.toList.length=n:=by simpa using hs
  have h2:cur.toList=(List.replicate n x).map (Value.int .i64):=by
   rw[<-ht,List.length_replicate,Nat.mul_one,List.take_of_length_le (by omega)]
  have h3:cur=List.toArray ((List.range n).map fun _=>Value.int .i64 x):=Array.ext' (by rw[h2];simp[List.map_const']);unfold Arr Blk;rw[hg,h3]
theorem ArrB.cell (h:ArrB w g n p){k:Nat}(hk:k<n) : w.cell? ⟨g,k,none⟩=some (.bool (p k)):=by
 rw[Blk.cell h];simp[hk]
theorem ArrB.free (h:ArrB w g n p)(k:Nat) : w.frozen? ⟨g,k,none⟩=false:=Blk.free h k
theorem ArrB.lt (h:ArrB w g n p) : g<w.heap.size:=Blk.lt h
theorem ArrB.ext (h:ArrB w g n p)(x:Ext w w') : ArrB w' g n p:=Blk.ext h x
theorem ArrB.mod {S:Nat->Prop}(h:ArrB w g n p)(hm:Mod S w w')(hg:¬S g) : ArrB w' g n p:=Blk.mod h hm hg
theorem ArrB.far (h:ArrB w g n p){a:Addr}(hp:g≠a.block)(x:Value) : ArrB (w.setCell a x) g n p:=Blk.far h hp x
theorem ArrB.set (h:ArrB w g n p)(k:Nat)(x:Bool) : ArrB (w.setCell ⟨g,k,none⟩ (.bool x)) g n (fun i=>if i=k then x else p i):=by
 have h1:=Blk.set h k (.bool x);have e:(List.toArray ((List.range n).map fun i=>Value.bool (p i))).setIfInBounds k (.bool x)=List.toArray ((List.range n).map fun i=>Value.bool (if i=k then x else p i)):=by
  rw[List.setIfInBounds_toArray,Zca]
  congr 1
  refine List.map_congr_left fun i _=>?_
  split<;>rfl
 rw[e] at h1;exact h1
theorem ArrB.congr (h:ArrB w g n p)(e:∀ i,i<n->p i=q i) : ArrB w g n q:=by
 unfold ArrB at h ⊢;have:((List.range n).map fun i=>Value.bool (p i))=(List.range n).map fun i=>Value.bool (q i):=List.map_congr_left fun i hi=>by rw[e i (List.mem_range.1 hi)]
 rwa [this] at h
end
theorem ZgC : (Tryz.prog.info? 4).map (fun i=>(i.zero,i.size,i.bytes))=some (some (.bool false),1,1):=by kernel_rfl
theorem Zfc (w:World){ops:Array Oper}{rest:List Oper}{o:Oper}{a:Act}{Q:Exit->Act->World->Prop}(hgd:o.guard=none)(l c:Operand)(hop:o.op=Op.makeSlice 188 l c)
  (L C:Int) (n:Nat) (hl:a.eval l=.int .i64 L) (hc:a.eval c=.int .i64 C) (hL:L=(n:Int)) (hC:C=(n:Int)) (hn:n<=2^44)
  (hK:∀ w',ArrB w' w.heap.size n (fun _=>false)->w.grownBy w' none->wpList Tryz.prog ops Q rest (a.put o.dst (.slice (some ⟨w.heap.size,0,none⟩) n n)) w') :
  wpList Tryz.prog ops Q (o::rest) a w:=by
 obtain⟨i0,hi,hz0,hz1,hz2⟩:=info_parts ZgC;refine wpList_make_full w hgd l c _ hop w.heap.size 4 i0 _ 1 Tryz.underlying188 hi hz0 hz1 .i64 .i64 L C n hl hc hL hC (by rw[hz2];omega) (by simp only[maxLen];omega) (Nat.le_refl _) (fun w' h2 h3=>hK w' ?_ h3);have e:(madeCells (Value.bool false).cells (n*1)).toList=(List.range n).map fun _=>Value.bool false:=by
  simp[madeCells,Value.cells,List.map_const',Nat.mod_one]
 rw[e] at h2;rcases(OwV.cases (e:=4) (size:=1) h2) with⟨e1,_⟩ | ⟨g',cur,e1,_,hg,_,_,hs,ht⟩
 ·cases e1
 ·obtain rfl:w.heap.size=g':=by simpa using e1
  have hl:cur.toList.length=n:=by simpa using hs
  have h3:cur=List.toArray ((List.range n).map fun _=>Value.bool false):=Array.ext' (by rw[<-ht,Nat.mul_one,List.take_of_length_le (by omega)]);unfold ArrB Blk;rw[hg,h3]
theorem Vm {ops:Array Oper}{i:Nat}{t:TypeId}{d:Option Tmp}{a:Act}{w:World}{K:Act->World->Prop}{Q:Exit->Act->World->Prop}{x y:Operand}(hi:UC ops i=some (none,.makeSlice 22 x y,t,d))(n:Nat)(L:Int)(hx:a.eval x=.int .i64 L)(hy:a.eval y=.int .i64 L)(hL:L=(n:Int))(hn:n<=2^44)
  (hK:∀ w',Arr w' w.heap.size n (fun _=>0)->Ext w w'->K (a.put d (.slice (some ⟨w.heap.size,0,none⟩) n n)) w'):wpOp Tryz.prog ops Q i K a w:=by
 obtain⟨i0,hi0,hz0,hz1,hz2⟩:=info_parts UI;subst hL;obtain⟨w',hrun,h2,h3⟩:=run_make_full (P:=Tryz.prog) w w.heap.size 22 3 i0 _ 1 Tryz.underlying22 hi0 hz0 hz1 .i64 .i64 n (by rw[hz2];omega) (by simp only[maxLen];omega) (Nat.le_refl _);have e:(madeCells (Value.int .i64 0).cells (n*1)).toList=(List.replicate n (0:Int)).map (Value.int .i64):=by
  simp[madeCells,Value.cells,List.map_const',Nat.mod_one]
 rw[e] at h2;refine Wi hi _ (by simp[Ze,execOp,hx,hy,hrun]) (hK w' (Arr.of_own (base:=w.heap.size) (by simpa [OwI] using h2)) ((Ext.rf _).grownNone h3))
end Go.Proofs.YtmojhhlcocjoaaaGreatDoor
