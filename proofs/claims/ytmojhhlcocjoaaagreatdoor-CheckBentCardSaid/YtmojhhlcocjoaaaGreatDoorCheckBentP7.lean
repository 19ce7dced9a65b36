/- packed and squeezed by programs (see wip/) -/
import Derived.Test.YtmojhhlcocjoaaaGreatDoorCheckBentP6
set_option maxRecDepth 100000
set_option maxHeartbeats 16000000
set_option linter.unusedVariables false
set_option linter.unusedSimpArgs false
namespace Go.Proofs.YtmojhhlcocjoaaaGreatDoor
open Go.RowKit Go.ChangeShapes Go.WideShapes Go.ChangeAt Go.Deep
def JM (xs:List Int)(m:Int) : List Int:=xs.map fun n=>if n=-1 then -1 else n-m
theorem ZdR (xs:List Int)(m:Int) : (JM xs m).length=xs.length:=by unfold JM;rw[List.length_map]
theorem ZdS {xs:List Int}{k:Nat}{x b:Int}(h:xs[k]?=some x) : Zt b (xs.take (k+1))=if 0<=x/\(Zt b (xs.take k)<0\/x<Zt b (xs.take k)) then x else Zt b (xs.take k):=by
 have app:∀ (l:List Int) (b:Int),Zt b (l++[x])=if 0<=x/\(Zt b l<0\/x<Zt b l) then x else Zt b l:=by
  intro l
  induction l with
  | nil=>intro b;rfl
  | cons y l ih=>intro b;exact ih _
 rw[List.take_add_one,h];exact app _ _
theorem Zb1 : ∀ (l:List Int) (b:Int),-1<=b->-1<=Zt b l
 | [],b,h=>h
 | x::l,b,h=>by
  unfold Zt;refine Zb1 l _ ?_;split<;>omega
theorem Uv : ∀ (l:List Int) (b:Int),-1<=b->(0<=b->Zt b l<=b/\0<=Zt b l)/\∀ x∈l,0<=x->Zt b l<=x/\0<=Zt b l
 | [],b,h=>⟨fun h0=>⟨Int.le_refl _,h0⟩,fun x hx=>by cases hx⟩
 | y::l,b,h=>by
  unfold Zt;have ih:=Uv l (if 0<=y/\(b<0\/y<b) then y else b) (by split<;>omega);refine⟨fun h0=>?_,fun x hx hx0=>?_⟩
  ·have:=ih.1 (by split<;>omega)
   split at this<;>omega
  ·rcases List.mem_cons.1 hx with rfl | hx
   ·have:=ih.1 (by split<;>omega)
    split at this<;>omega
   ·exact ih.2 x hx hx0
def ZcE (base:Nat)(A:Option Addr)(c:Nat)(xs:List Int)(w:World)(e:Ending)(w':World) : Prop :=
 e=.returned (.int .i64 (max (Zt (-1) xs) 0))/\OwI w' base A c (JM xs (Zt (-1) xs))/\Mod (fun k=>bl A=some k) w w'
def VB (xs ys:List Int)(k:Nat) : List Int:=ys.take k++xs.drop k
theorem Je {xs ys:List Int}(h:ys.length=xs.length)(k:Nat) : (VB xs ys k).length=xs.length:=by
 unfold VB;rw[List.length_append,List.length_take,List.length_drop];omega
theorem ZfE {xs ys:List Int}(h:ys.length=xs.length){k:Nat}(hk:k<xs.length) : (VB xs ys k)[k]?=xs[k]?:=by
 unfold VB;rw[List.getElem?_append_right (by rw[List.length_take];omega),List.length_take,List.getElem?_drop]
 congr 1
 omega
theorem Za1 {xs ys:List Int}(h:ys.length=xs.length){k:Nat}{y:Int}(hy:ys[k]?=some y) : (VB xs ys k).set k y=VB xs ys (k+1):=by
 have hm:=(List.getElem?_eq_some_iff.1 hy).1;unfold VB;have e1:(ys.take k).length=k:=by rw[List.length_take];omega
 rw[List.set_append_right (h:=by omega),e1,Nat.sub_self,List.drop_eq_getElem_cons (show k<xs.length by omega),List.set_cons_zero,List.take_add_one,hy];simp
theorem Zb2 {xs ys:List Int}(h:ys.length=xs.length) : VB xs ys xs.length=ys:=by
 unfold VB;rw[List.take_of_length_le (by omega),List.drop_length,List.append_nil]
theorem Zgk {xs ys:List Int}(h:ys.length=xs.length){k:Nat}{x:Int}(hx:xs[k]?=some x)(hy:ys[k]?=some x) : VB xs ys (k+1)=VB xs ys k:=by
 have hk:=(List.getElem?_eq_some_iff.1 hx).1;rw[<-Za1 h hy];have e:=ZfE h hk;rw[hx] at e;apply List.ext_getElem?;intro j
 by_cases hj:j=k
 ·subst hj
  rw[List.getElem?_set_self (by rw[Je h];exact hk),e]
 ·rw[List.getElem?_set_ne (fun h=>hj h.symm)]
theorem Zb3 (base:Nat)(A:Option Addr)(c:Nat)(xs:List Int)(w:World)(hA:OwI w base A c xs)(hx:∀ x∈xs,-1<=x/\x<=2147483647)(hl:xs.length<=1000000) :
  Calls Tryz.prog 295 #[.slice A xs.length c] w (ZcE base A c xs w):=by
 have L0:Hid (Zt (-1) (xs.take 0)=-1):=rfl;have rA:=Hd hA.read;replace hA:=Hd hA;replace hx:=Hd hx;have GL:Hid (∀ k,-1<=Zt (-1) (xs.take k)/\Zt (-1) (xs.take k)<=2147483647):=fun k=>⟨Zb1 _ _ (by omega),WC (fun x h=>(hx.out x (List.mem_of_mem_take h)).2) (by omega)⟩
 go_enter Tryz.func295,Tryz.ntmps295;go_wp2_with (fail);go_loopw [3,10] (fun v3 v10 wr=>∃ (k:Nat) (b:Int),v10=.int .i64 k/\v3=.int .i64 b/\k<=xs.length/\Hid (Zt (-1) (xs.take k)=b)/\Hid (Ext w wr)) (fun _ v _=>xs.length-(intOf v).toNat)
 case atStart=>exact⟨0,-1,rfl,rfl,by omega,L0,by(repeat (first | assumption | exact Ext.rf _ | apply Ext.drew | apply Ext.drewN | apply Ext.alloc))⟩
 case round =>
  obtain⟨wo,rfl⟩:∃ wo:World,wo=wr:=⟨_,rfl⟩;clear L0;obtain⟨k,b,rfl,rfl,hk,hB,Y⟩:=hrel;have gb:=GL.out k;rw[hB.out] at gb
  by_cases hlt:k<xs.length
  ·obtain⟨pb,po,x,rfl,zx,cx,ex,_⟩:=(rA.out.ext Y.out).at (k:=k) hlt
   have q1:(k:Int)<(xs.length:Int):=by omega
   have bx:=hx.out x (List.mem_of_getElem? ex.out);have LS:Zt (-1) (xs.take (k+1))=if 0<=x/\(b<0\/x<b) then x else b:=by rw[ZdS ex.out,hB.out]
   clear ex hB
   by_cases h1:x=-1
   ·subst h1
    have LS1:Hid (Zt (-1) (xs.take (k+1))=b):=Hd (by rw[LS,if_neg (by omega)]);clear LS;go_wp2_with (fail);go_roundw
    case rel=>exact⟨k+1,b,by go_num,rfl,by omega,LS1,Y.out.tr (by(repeat (first | assumption | exact Ext.rf _ | apply Ext.drew | apply Ext.drewN | apply Ext.alloc)))⟩
    case measure=>simp[intOf];omega
   ·have e1:(x != -1)=true:=by simpa using h1
    by_cases h2:b=-1
    ·subst h2
     have LS1:Hid (Zt (-1) (xs.take (k+1))=x):=Hd (by rw[LS,if_pos (by omega)]);clear LS;go_wp2_with (fail);go_roundw
     case rel=>exact⟨k+1,x,by go_num,rfl,by omega,LS1,Y.out.tr (by(repeat (first | assumption | exact Ext.rf _ | apply Ext.drew | apply Ext.drewN | apply Ext.alloc)))⟩
     case measure=>simp[intOf];omega
    ·have e2:(b==-1)=false:=by simpa using h2
     by_cases h3:x<b
     ·have LS1:Hid (Zt (-1) (xs.take (k+1))=x):=by
       have h:Zt (-1) (xs.take (k+1))=x:=by rw[LS,if_pos (by omega)]
       exact h
      clear LS;go_wp2_with (fail);go_roundw
      case rel=>exact⟨k+1,x,by go_num,rfl,by omega,LS1,Y.out.tr (by(repeat (first | assumption | exact Ext.rf _ | apply Ext.drew | apply Ext.drewN | apply Ext.alloc)))⟩
      case measure=>simp[intOf];omega
     ·have LS1:Hid (Zt (-1) (xs.take (k+1))=b):=by
       have h:Zt (-1) (xs.take (k+1))=b:=by rw[LS,if_neg (by omega)]
       exact h
      clear LS;go_wp2_with (fail);go_roundw
      case rel=>exact⟨k+1,b,by go_num,rfl,by omega,LS1,Y.out.tr (by(repeat (first | assumption | exact Ext.rf _ | apply Ext.drew | apply Ext.drewN | apply Ext.alloc)))⟩
      case measure=>simp[intOf];omega
  ·have hB2:Zt (-1) xs=b:=by
    have h:=hB.out
    rwa [List.take_of_length_le (by omega)] at h
   have LL:=Uv xs (-1) (by omega)
   by_cases h2:b=-1
   ·subst h2
    have SAME:Hid (JM xs (-1)=xs):=Hd (by
     unfold JM;refine(List.map_congr_left fun x hx2=>?_).trans (List.map_id xs);have h1:=LL.2 x hx2;have h3:=hx.out x hx2;rw[hB2] at h1
     by_cases h4:x=-1
     ·rw[if_pos h4];simp[h4]
     ·exact absurd (h1 (by omega)).2 (by decide))
    replace hB2:=Hd hB2;clear hB LL;go_wp2_with (fail);go_ret;exact⟨by rw[hB2.out];rfl,by rw[hB2.out,SAME.out];exact hA.out.ext Y.out,Mod.of_ext Y.out⟩
   ·have e2:(b==-1)=false:=by simpa using h2
    have hlen:(JM xs b).length=xs.length:=ZdR xs b;have LA:Hid (∀ (k:Nat) (x:Int),xs[k]?=some x->(JM xs b)[k]?=some (if x=-1 then -1 else x-b)):=fun k x h=>by unfold JM;rw[List.getElem?_map,h];rfl
    have LB2:Hid (∀ x∈xs,0<=x->b<=x):=fun x hx2 h0=>by have:=(LL.2 x hx2 h0).1;rwa [hB2] at this
    obtain⟨ys,hys⟩:∃ ys,Hid (JM xs b=ys):=⟨_,rfl⟩;rw[hys.out] at hlen LA;have M0:Hid (OwI wo base A c (VB xs ys 0)):=hA.out.ext Y.out;have N0:Hid (Mod (fun k=>bl A=some k) w wo):=Mod.of_ext Y.out;replace hB2:=Hd hB2;replace hlen:=Hd hlen;clear hB LL;go_wp2_with (fail);clear Y;go_loopw [31] (fun v31 wx=>∃ (m:Nat),v31=.int .i64 m/\m<=xs.length/\Hid (OwI wx base A c (VB xs ys m))/\Hid (Mod (fun k=>bl A=some k) w wx)) (fun v _=>xs.length-(intOf v).toNat)
    case atStart=>exact⟨0,rfl,by omega,M0,N0⟩
    case round =>
     obtain⟨wi,rfl⟩:∃ wi:World,wi=wr:=⟨_,rfl⟩;clear M0 N0;obtain⟨m,rfl,hm,OM,MM⟩:=hrel
     by_cases hmt:m<xs.length
     ·obtain⟨x,ex⟩:∃ x,xs[m]?=some x:=⟨_,List.getElem?_eq_getElem hmt⟩
      have q1:(m:Int)<(xs.length:Int):=by omega
      have bx:=hx.out x (List.mem_of_getElem? ex);have em:=ZfE hlen.out hmt;rw[ex] at em;obtain⟨g,rfl⟩:∃ g,A=some ⟨g,0,none⟩:=by
       rcases OM.out.cases with⟨_,_,h0⟩ | ⟨g,cur,h,_⟩
       ·have:=Je hlen.out m;rw[h0] at this;simp at this;omega
       ·exact⟨g,h⟩
      have lm:m<(VB xs ys m).length:=by rw[Je hlen.out];exact hmt
      have yat:=LA.out m x ex;have lb:=LB2.out x (List.mem_of_getElem? ex);obtain⟨x',cx,fx,hbg,ex',SET⟩:=OM.out.cell lm;obtain rfl:x=x':=Option.some.inj (em.symm.trans ex'.out)
      by_cases h1:x=-1
      ·subst h1
       have KE:Hid (VB xs ys (m+1)=VB xs ys m):=Zgk hlen.out ex (by rw[yat,if_pos rfl]);have OM2:Hid (OwI wi base (some ⟨g,0,none⟩) c (VB xs ys (m+1))):=Hd (by rw[KE.out];exact OM.out);clear SET ex ex' em yat OM lb;go_wp2_with (fail);go_roundw
       case rel=>exact⟨m+1,by go_num,by omega,OM2.out.ext (by(repeat (first | assumption | exact Ext.rf _ | apply Ext.drew | apply Ext.drewN | apply Ext.alloc))),MM.out.ext (by(repeat (first | assumption | exact Ext.rf _ | apply Ext.drew | apply Ext.drewN | apply Ext.alloc)))⟩
       case measure=>simp[intOf];omega
      ·have e1:(x != -1)=true:=by simpa using h1
       have lb2:=lb (by omega);have gb2:0<=b:=by omega
       rw[if_neg h1] at yat;have OM2:Hid (OwI (wi.setCell ⟨g,m,none⟩ (.int .i64 (x-b))) base (some ⟨g,0,none⟩) c (VB xs ys (m+1))):=Hd (by
        rw[<-Za1 hlen.out yat];exact SET.out _)
       have MM2:Hid (Mod (fun k=>bl (some (⟨g,0,none⟩:Addr))=some k) w (wi.setCell ⟨g,m,none⟩ (.int .i64 (x-b)))):=MM.out.set (p:=⟨g,m,none⟩) (.inl rfl) _;clear SET ex ex' em yat OM lb MM;go_wp2_with (fail);go_roundw
       case rel=>exact⟨m+1,by go_num,by omega,OM2.out.ext (by(repeat (first | assumption | exact Ext.rf _ | apply Ext.drew | apply Ext.drewN | apply Ext.alloc))),MM2.out.ext (by(repeat (first | assumption | exact Ext.rf _ | apply Ext.drew | apply Ext.drewN | apply Ext.alloc)))⟩
       case measure=>simp[intOf];omega
     ·obtain rfl:m=xs.length:=by omega
      have E:Hid (b=max (Zt (-1) xs) 0):=Hd (by rw[hB2.out];omega);go_wp2_with (fail);go_ret;refine⟨ZM E.out,?_,MM.out⟩;have h:=OM.out;rw[Zb2 hlen.out,<-hys.out,<-hB2.out] at h;exact h
theorem Zb4 {w w':World}{base c:Nat}{A:Option Addr}{xs:List Int}(h:OwI w base A c xs)(hm:Mod (fun z=>bl A=some z) w w') : ModT base [3] w w':=by
 refine Mod.mono hm fun k _ hk=>?_
 rcases h.cases with⟨rfl,_⟩ | ⟨g,cur,rfl,hb,hh,_⟩
 ·simp[bl] at hk
 ·simp[bl] at hk
  subst hk;exact⟨hb,cur,_,hh,by simp⟩
def VD (r:List Int) : List Int:=JM r (Zt (-1) r)
theorem ZdT (r:List Int) : (VD r).length=r.length:=ZdR _ _
theorem Zip {r:List Int}{c:Nat}(hc:c<r.length) : (VD r).getD c 0=if r.getD c 0=-1 then -1 else r.getD c 0-Zt (-1) r:=by
 have e:r[c]?=some r[c]:=List.getElem?_eq_getElem hc;have h:(VD r)[c]?=some (if r[c]=-1 then -1 else r[c]-Zt (-1) r):=by unfold VD JM;rw[List.getElem?_map,e];rfl
 rw[getD_some h,getD_some e]
theorem Ziq {r:List Int}(h:∀ x∈r,-1<=x/\x<=2147483647) : ∀ x∈VD r,-1<=x/\x<=2147483647:=fun x hx=>by
 unfold VD JM at hx;obtain⟨y,hy,rfl⟩:=List.mem_map.1 hx;have hb:=h y hy;split
 ·omega
 ·have:=(Uv r (-1) (by omega)).2 y hy (by omega)
  omega
theorem ZfF {c:Nat} : ∀ (ms:List (List Int)) (b:Int),(∀ r∈ms,c<r.length/\∀ x∈r,-1<=x/\x<=2147483647)->Zt b (ms.map fun r=>(VD r).getD c 0)=Qm c b ms (Wg ms)
 | [],b,_=>rfl
 | r::ms,b,h=>by
  obtain⟨h1,h2⟩:=h r (by simp);have hm:=V9 h1;have hb:=h2 _ hm;have hl:=(Uv r (-1) (by omega)).2 _ hm;have ih:=fun b=>ZfF (c:=c) ms b fun q hq=>h q (by simp[hq])
  have e:Wg (r::ms)=max (Zt (-1) r) 0::Wg ms:=rfl;rw[e];show Zt (if 0<=(VD r).getD c 0/\(b<0\/(VD r).getD c 0<b) then(VD r).getD c 0 else b) (ms.map fun r=>(VD r).getD c 0)=Qm c (if 0<=r.getD c 0/\(b<0\/r.getD c 0-max (Zt (-1) r) 0<b) then r.getD c 0-max (Zt (-1) r) 0 else b) ms (Wg ms);rw[ih,Zip h1]
  congr 1
  by_cases hx:r.getD c 0=-1
  ·rw[if_pos hx,if_neg (by omega),if_neg (by omega)]
  ·have h3:=hl (by omega)
   rw[if_neg hx,show max (Zt (-1) r) 0=Zt (-1) r by omega]
   by_cases h4:b<0\/r.getD c 0-Zt (-1) r<b
   ·rw[if_pos ⟨by omega,h4⟩,if_pos ⟨by omega,h4⟩]
   ·rw[if_neg (fun h=>h4 h.2),if_neg (fun h=>h4 h.2)]
theorem RowsO.upd {w w':World}{base:Nat}{us:List Value}{R:List (List Int)}{k n c c2:Nat}{A:Option Addr}{r r':List Int}(h:RowsO w base us R)(hd:RowsD us)(hk:us[k]?=some (.slice A n c))(hr:R[k]?=some r)(hl:r'.length=r.length)(hn:n=r.length)(m:Mod (fun z=>bl A=some z) w w')(o:OwI w' base A c2 r')(hc:c2=c) : RowsO w' base us (R.set k r'):=by
 subst hc hn;obtain⟨h1,h2⟩:=h;have hkl:=(List.getElem?_eq_some_iff.1 hr).1;refine⟨by rw[h1,List.length_set],fun j q hq=>?_⟩
 by_cases hj:k=j
 ·subst hj
  rw[List.getElem?_set_self hkl] at hq;obtain rfl:=Option.some.inj hq;exact⟨A,c2,by rw[hl];exact hk,o⟩
 ·rw[List.getElem?_set_ne hj] at hq
  obtain⟨A',c',g1,g2⟩:=h2 j q hq;refine⟨A',c',g1,g2.mod m fun b hb hs=>?_⟩;rcases Nat.lt_or_gt_of_ne hj with hlt | hlt
  ·exact hd k j _ _ hlt hk g1 b (by rw[Yt];exact hs) (by rw[Yt];exact hb)
  ·exact hd j k _ _ hlt g1 hk b (by rw[Yt];exact hb) (by rw[Yt];exact hs)
def Zbg (ms:List (List Int))(k:Nat) : List (List Int):=(ms.take k).map VD++ms.drop k
theorem ZfG {ms:List (List Int)}{k:Nat}(hk:k<ms.length) : (Zbg ms k)[k]?=ms[k]?:=by
 unfold Zbg;rw[List.getElem?_append_right (by rw[List.length_map,List.length_take];omega),List.length_map,List.length_take,List.getElem?_drop]
 congr 1
 omega
theorem Zhy {ms:List (List Int)}{k:Nat}{r:List Int}(h:ms[k]?=some r) : (Zbg ms k).set k (VD r)=Zbg ms (k+1):=by
 have hm:=(List.getElem?_eq_some_iff.1 h).1;unfold Zbg;have e1:((ms.take k).map VD).length=k:=by rw[List.length_map,List.length_take];omega
 rw[List.set_append_right (h:=by omega),e1,Nat.sub_self,List.drop_eq_getElem_cons hm,List.set_cons_zero,List.take_add_one,h];simp
theorem Zgl (ms:List (List Int)) : Zbg ms ms.length=ms.map VD:=by
 unfold Zbg;rw[List.take_length,List.drop_length,List.append_nil]
def Uw (base:Nat)(v:Int)(w:World)(e:Ending)(w':World) : Prop:=e=.returned (.int .i64 v)/\Below base w w'
theorem J8 (base:Nat)(C:Option Addr)(cc:Nat)(w:World) :
  Calls Tryz.prog 294 #[.slice C 0 cc] w (Uw base 0 w):=by
 go_enter Tryz.func294,Tryz.ntmps294;go_wp2_with (fail);go_loopw [3,12] (fun v3 v12 wr=>v3=.int .i64 0/\v12=.int .i64 0/\Hid (wr=w)) (fun _ _ _=>0)
 case atStart=>exact⟨rfl,rfl,rfl⟩
 case round =>
  obtain⟨rfl,rfl,h⟩:=hrel;have h':=h.out;subst h';go_wp2_with (fail);go_ret;exact⟨rfl,Below.refl _ _⟩
theorem J9 (base:Nat)(C:Option Addr)(n cc L:Nat)(us:List Value)(ms:List (List Int))(w:World)(hb:base<=w.heap.size)(hO:RdV w 22 C us)(hR:RowsO w base us ms)(hD:RowsD us)(hn:ms.length=n)(hn0:0<n)(hn64:n<=64)(hL:∀ r∈ms,r.length=L)(hL64:L<=64)(hx:∀ r∈ms,∀ x∈r,-1<=x/\x<=2147483647) :
  Calls Tryz.prog 294 #[.slice C n cc] w (Uw base (YY ms L) w):=by
 have OL:(Wg ms).length=n:=by unfold Wg;rw[List.length_map,hn]
 have OA:Hid (∀ (k:Nat) (r:List Int),ms[k]?=some r->(Wg ms)[k]?=some (max (Zt (-1) r) 0)):=fun k r h=>by unfold Wg;rw[List.getElem?_map,h];rfl
 have OB:∀ x∈Wg ms,0<=x/\x<=2147483647:=fun x hx2=>by
  unfold Wg at hx2;obtain⟨r,hr,rfl⟩:=List.mem_map.1 hx2;have:=WC (b:=-1) (fun y hy=>(hx r hr y hy).2) (by omega:(-1:Int)<=2147483647);omega
 have CA:Hid (∀ c,c<L->(Wp ms L)[c]?=some (max (Zt (-1) ((ms.map VD).map fun r=>r.getD c 0)) 0)):=fun c hc=>by
  unfold Wp;rw[List.getElem?_map,List.getElem?_range hc,List.map_map];have:=ZfF (c:=c) ms (-1) fun r hr=>⟨by rw[hL r hr];exact hc,hx r hr⟩
  simp only[Option.map_some,Function.comp_def];rw[this]
 have CL:(Wp ms L).length=L:=by unfold Wp;rw[List.length_map,List.length_range]
 have LB:Hid (∀ r∈ms.map VD,r.length=L/\∀ x∈r,-1<=x/\x<=2147483647):=fun r hr=>by
  obtain⟨q,hq,rfl⟩:=List.mem_map.1 hr;exact⟨by rw[ZdT,hL q hq],Ziq (hx q hq)⟩
 have CB:∀ x∈Wp ms L,0<=x/\x<=2147483647:=fun x hx2=>by
  obtain⟨c,hc,rfl⟩:=List.getElem_of_mem hx2;have h1:=CA.out c (by omega);rw[List.getElem?_eq_getElem hc] at h1;have h2:=Option.some.inj h1;rw[h2];have:=WC (b:=-1) (l:=(ms.map VD).map fun r=>r.getD c 0) (B:=2147483647) (fun y hy=>by
   obtain⟨r,hr,rfl⟩:=List.mem_map.1 hy;have:=LB.out r hr;exact(this.2 _ (V9 (by omega))).2) (by omega)
  omega
 have SO:=Hd (Xj OB (by omega));have SC:=Hd (Xj CB (by omega));have TOT:Hid (YY ms L=Zj (Wg ms)+Zj (Wp ms L)):=rfl;obtain⟨tot,htot⟩:∃ tot,Hid (YY ms L=tot):=⟨_,rfl⟩;rw[htot.out];have R0:Hid (RowsO w base us (Zbg ms 0)):=hR;have S0:Hid (Zj ((Wg ms).take 0)=0):=rfl;have LU:us.length=n:=by rw[hR.1,hn]
 generalize Wg ms=offs_ at *;generalize Wp ms L=cols_ at *;replace hO:=Hd hO;replace hD:=Hd hD;replace hn:=Hd hn;replace hL:=Hd hL;replace hx:=Hd hx;replace OL:=Hd OL;replace CL:=Hd CL;replace LU:=Hd LU;clear hR OB CB;go_enter Tryz.func294,Tryz.ntmps294;go_wp2_with (fail);go_loopw [3,12] (fun v3 v12 wr=>∃ (k:Nat) (s:Int),v12=.int .i64 k/\v3=.int .i64 s/\k<=n/\0<=s/\s<=2147483647*k/\Hid (Zj (offs_.take k)=s)/\Hid (RowsO wr base us (Zbg ms k))/\Hid (ModT base [3] w wr)) (fun _ v _=>n-(intOf v).toNat)
 case atStart=>exact⟨0,0,rfl,rfl,by omega,by omega,by omega,S0,R0,ModT.rf w⟩
 case round =>
  obtain⟨wo,rfl⟩:∃ wo:World,wo=wr:=⟨_,rfl⟩;clear S0 R0;obtain⟨k,s,rfl,rfl,hk,s0,s1,hS,hR,MM⟩:=hrel;have RV:=hO.out.modT MM.out (by decide)
  by_cases hlt:k<n
  ·obtain⟨r,er⟩:∃ r,ms[k]?=some r:=⟨_,List.getElem?_eq_getElem (by rw[hn.out];exact hlt)⟩
   have rmem:=List.mem_of_getElem? er;obtain⟨A,c,eu,oA⟩:=hR.out.2 k r (by rw[ZfG (by rw[hn.out];exact hlt),er]);obtain⟨ob,oo,v,rfl,zo,co,ev⟩:=RV.at (j:=k) (by rw[LU.out];exact hlt);obtain rfl:v=.slice A r.length c:=Option.some.inj (ev.out.symm.trans eu);have q1:(k:Int)<(n:Int):=by omega
   have LW:=Hd (Zb3 base A c r wo oA (hx.out r rmem) (by rw[hL.out r rmem];omega));have ES:Hid (Zj (offs_.take (k+1))=s+max (Zt (-1) r) 0):=Hd (by rw[YC (OA.out k r er),hS.out]);have sb:=SO.out (k+1);rw[ES.out] at sb;have sb1:0<=s+max (Zt (-1) r) 0/\s+max (Zt (-1) r) 0<=2147483647*(k+1):=by
    have:=WC (b:=-1) (fun y hy=>(hx.out r rmem y hy).2) (by omega:(-1:Int)<=2147483647);omega
   have UP:=Hd (fun(w':World) (m:Mod (fun z=>bl A=some z) wo w') (o:OwI w' base A c (JM r (Zt (-1) r)))=>(by
    have h:=hR.out.upd hD.out eu (by rw[ZfG (by rw[hn.out];exact hlt),er]) (ZdT r) rfl m o rfl
    rwa [Zhy er] at h:RowsO w' base us (Zbg ms (k+1))))
   have MO:=Hd (fun(w':World) (m:Mod (fun z=>bl A=some z) wo w')=>MM.out.tr (Zb4 oA m));unfold ZcE at LW;generalize max (Zt (-1) r) 0=lr at *;have k64:(k:Int)<=64:=by omega
   clear eu ev er rmem oA sb hS hR MM RV;go_wp2_with (fail);refine LW.out.mono ?_;rintro e w5 ⟨rfl,o5,m5⟩;have R5:=Hd (UP.out w5 m5 o5);have M5:=Hd (MO.out w5 m5);clear LW UP MO o5 m5;go_wp2_with (fail);go_roundw
   case rel=>exact⟨k+1,s+lr,by go_num,by go_num,by omega,by omega,by omega,ES,R5,M5⟩
   case measure=>simp[intOf];omega
  ·obtain rfl:k=n:=by omega
   have R9:Hid (RowsO wo base us (ms.map VD)):=by
    have h:=hR.out;rw[<-hn.out,Zgl] at h;exact h
   have ES:Hid (Zj offs_=s):=by
    have h:=hS.out;rw[List.take_of_length_le (by rw[OL.out];exact Nat.le_refl _)] at h;exact h
   have RV9:=Hd RV;have ml:(ms.map VD).length=k:=by rw[List.length_map,hn.out]
   have k64:(k:Int)<=64:=by omega
   have e0:((k:Int)==0)=false:=by simp;omega
   obtain⟨r0,er0⟩:∃ r,(ms.map VD)[0]?=some r:=⟨_,List.getElem?_eq_getElem (by omega)⟩;obtain⟨A0,c0,eu0,-⟩:=R9.out.2 0 r0 er0;have lr0:=(LB.out r0 (List.mem_of_getElem? er0)).1;obtain⟨ob,oo,v,rfl,zo,co,ev⟩:=RV.at (j:=0) (by rw[LU.out];omega);obtain rfl:v=.slice A0 r0.length c0:=Option.some.inj (ev.out.symm.trans eu0);rw[lr0,Nat.add_zero] at co;have C0:Hid (Zj (cols_.take 0)=0):=rfl;have q0:(0:Int)<(k:Int):=by omega
   replace ml:=Hd ml;generalize ms.map VD=M' at *;clear eu0 ev er0 hS hR RV lr0;go_wp2_with (fail);go_loopw [3,29] (fun v3 v29 wr=>∃ (c:Nat) (s2:Int),v29=.int .i64 c/\v3=.int .i64 (s+s2)/\c<=L/\0<=s2/\s2<=2147483647*c/\Hid (Zj (cols_.take c)=s2)/\Hid (Ext wo wr)) (fun _ v _=>L-(intOf v).toNat)
   case atStart=>exact⟨0,0,rfl,by simp,by omega,by omega,by omega,C0,by(repeat (first | assumption | exact Ext.rf _ | apply Ext.drew | apply Ext.drewN | apply Ext.alloc))⟩
   case round =>
    obtain⟨wi,rfl⟩:∃ wi:World,wi=wr:=⟨_,rfl⟩;clear C0;obtain⟨c,s2,rfl,rfl,hc,t0,t1,hS,Y⟩:=hrel
    by_cases hct:c<L
    ·have q1:(c:Int)<(L:Int):=by omega
     have c64:(c:Int)<=64:=by omega
     obtain⟨ys,hys⟩:∃ ys,Hid (M'.map (fun r=>r.getD c 0)=ys):=⟨_,rfl⟩;have yl:ys.length=k:=by rw[<-hys.out,List.length_map,ml.out]
     have YB:Hid (∀ x∈ys,-1<=x/\x<=2147483647):=fun x hx2=>by
      rw[<-hys.out] at hx2;obtain⟨r,hr,rfl⟩:=List.mem_map.1 hx2;have:=LB.out r hr;exact this.2 _ (V9 (by omega))
     have CC:=CA.out c hct;rw[hys.out] at CC;have ES2:Hid (Zj (cols_.take (c+1))=s2+max (Zt (-1) ys) 0):=Hd (by rw[YC CC,hS.out]);have sb1:0<=s2+max (Zt (-1) ys) 0/\s2+max (Zt (-1) ys) 0<=2147483647*(c+1):=by
      have:=WC (b:=-1) (fun y hy=>(YB.out y hy).2) (by omega:(-1:Int)<=2147483647);omega
     have rl0:(List.replicate k (0:Int)).length=k:=List.length_replicate ..;have zi:=Y.out.size;go_wp2_with (at_make;refine Xd _ rfl _ _ rfl wi.heap.size _ _ k rfl rfl rfl rfl (by omega) (Nat.le_refl _) ?_;rintro w3 o3 g3);have X3:=Hd ((Ext.rf wi).grownNone g3);have O3:Hid (OwI w3 wi.heap.size (some ⟨wi.heap.size,0,none⟩) k (VB (List.replicate k 0) ys 0)):=o3;replace yl:=Hd yl;replace rl0:=Hd rl0;clear o3 g3 CC;go_wp2_with (fail);go_loopw [37] (fun v37 wx=>∃ (j:Nat),v37=.int .i64 j/\j<=k/\Hid (OwI wx wi.heap.size (some ⟨wi.heap.size,0,none⟩) k (VB (List.replicate k 0) ys j))/\Hid (Ext wi wx)) (fun v _=>k-(intOf v).toNat)
     case atStart=>exact⟨0,rfl,by omega,O3,X3⟩
     case round =>
      obtain⟨wj,rfl⟩:∃ wj:World,wj=wr:=⟨_,rfl⟩;clear O3 X3;obtain⟨j,rfl,hj,OJ,XJ⟩:=hrel
      by_cases hjt:j<k
      ·have r1:(j:Int)<(k:Int):=by omega
       obtain⟨r,er⟩:∃ r,M'[j]?=some r:=⟨_,List.getElem?_eq_getElem (by have:=ml.out;omega)⟩;obtain⟨A,ac,eu,oA⟩:=R9.out.2 j r er;have rL:=(LB.out r (List.mem_of_getElem? er)).1;have RVj:=(RV9.out.ext Y.out).ext XJ.out;obtain⟨ob2,oo2,v,hoo,zo2,co2,ev⟩:=RVj.at (j:=j) (by rw[LU.out];exact hjt);have hoo':ob=ob2/\oo=oo2:=by simpa using hoo
       obtain⟨rfl,rfl⟩:=hoo';obtain rfl:v=.slice A r.length ac:=Option.some.inj (ev.out.symm.trans eu);rw[rL] at co2;obtain⟨pb,po,y,rfl,zy,cy,ey,_⟩:=((oA.read.ext Y.out).ext XJ.out).at (k:=c) (by omega);have lj:j<(VB (List.replicate k 0) ys j).length:=by rw[Je (by rw[rl0.out,yl.out]),rl0.out];exact hjt
       obtain⟨z0,cz,fz,hbz,ez,SET⟩:=OJ.out.cell lj;have yj:ys[j]?=some y:=by rw[<-hys.out,List.getElem?_map,er];simp only[Option.map_some];rw[getD_some ey.out]
       have OJ2:Hid (OwI (wj.setCell ⟨wi.heap.size,j,none⟩ (.int .i64 y)) wi.heap.size (some ⟨wi.heap.size,0,none⟩) k (VB (List.replicate k 0) ys (j+1))):=Hd (by
        rw[<-Za1 (by rw[rl0.out,yl.out]) yj];exact SET.out _)
       have XJ2:=Hd (XJ.out.setNew (p:=⟨wi.heap.size,j,none⟩) (Nat.le_refl _) (.int .i64 y));clear eu ev er oA SET ez ey yj OJ hoo RVj;go_wp2_with (fail);go_roundw
       case rel=>exact⟨j+1,by go_num,by omega,OJ2.out.ext (by(repeat (first | assumption | exact Ext.rf _ | apply Ext.drew | apply Ext.drewN | apply Ext.alloc))),XJ2.out.tr (by(repeat (first | assumption | exact Ext.rf _ | apply Ext.drew | apply Ext.drewN | apply Ext.alloc)))⟩
       case measure=>simp[intOf];omega
      ·obtain rfl:j=k:=by omega
       have OF:OwI wj wi.heap.size (some ⟨wi.heap.size,0,none⟩) j ys:=by
        have h:=OJ.out;have h2:=Zb2 (xs:=List.replicate j 0) (ys:=ys) (by rw[rl0.out,yl.out]);rw[rl0.out] at h2;rw[h2] at h;exact h
       have LW:=Zb3 wi.heap.size (some ⟨wi.heap.size,0,none⟩) j ys wj OF YB.out (by rw[yl.out];omega);rw[yl.out] at LW;unfold ZcE at LW;have XF:=Hd (fun(w':World) (m:Mod (fun z=>bl (some (⟨wi.heap.size,0,none⟩:Addr))=some z) wj w')=>Y.out.tr (XJ.out.modT (Zb4 OF m) (Nat.le_refl _)));generalize max (Zt (-1) ys) 0=lc at *;replace LW:=Hd LW;clear OF OJ;go_wp2_with (fail);refine LW.out.mono ?_;rintro e w5 ⟨rfl,-,m5⟩;have X5:=Hd (XF.out w5 m5);clear LW XF m5;go_wp2_with (fail);go_roundw
       case rel=>exact⟨c+1,s2+lc,by go_num,by go_num,by omega,by omega,by omega,ES2,X5⟩
       case measure=>simp[intOf];omega
    ·obtain rfl:c=L:=by omega
     have E:Hid (s+s2=tot):=Hd (by
      have h:=hS.out;rw[List.take_of_length_le (by rw[CL.out];exact Nat.le_refl _)] at h;rw[<-htot.out,TOT.out,ES.out,h])
     go_wp2_with (fail);go_ret;exact⟨ZM E.out,(MM.out.below hb fun q hq hs=>by have:=hs.1;omega).trans (Below.mono Y.out (by have:=MM.out.size;omega))⟩
def RwB (w:World)(g:Nat)(rows:List (List Int)) : Prop:=∃ (C:Option Addr) (c:Nat),Blk w g 160 #[.slice C rows.length c]/\rows.length<=c/\c<=maxLen/\RdE 1 RInts w C rows
theorem RwB.ext {w w':World}{g:Nat}{rows:List (List Int)}(h:RwB w g rows)(x:Ext w w') : RwB w' g rows:=by
 obtain⟨C,c,h1,h3,h4,h2⟩:=h;exact⟨C,c,h1.ext x,h3,h4,h2.ext x fun _ _ h=>h.ext x⟩
theorem ZdU (w:World)(g:Nat)(rows:List (List Int))(H:RwB w g rows) :
  Calls Tryz.prog 292 #[.pointer (some ⟨g,0,none⟩)] w fun e w'=>e=.returned (.int .i64 rows.length)/\Ext w w':=by
 obtain⟨C,c,h1,-,-,-⟩:=H;have t1:=h1.c0;go_enter Tryz.func292,Tryz.ntmps292;go_wp2_with (fail);go_ret;exact⟨rfl,by(repeat (first | assumption | exact Ext.rf _ | apply Ext.drew | apply Ext.drewN | apply Ext.alloc))⟩
theorem Zb5 (a k:Nat)(p:List Int) : Ws a (k+1) p=Ws a k p++if (decide (a<=k) && !p.contains (k:Int))=true then [(k:Int)] else []:=by
 unfold Ws Zd;rw[List.range_succ,List.filter_append,List.map_append]
 congr 1
 by_cases h:(decide (a<=k) && !p.contains (k:Int))=true
 ·rw[if_pos h];simp only[List.filter_cons,List.filter_nil,h,if_true];rfl
 ·rw[if_neg h];simp only[List.filter_cons,List.filter_nil,h];rfl
theorem ZdV (a n:Nat)(p:List Int) : (Ws a n p).length<=n:=by
 unfold Ws;rw[Zg];have:=List.length_filter_le (fun c:Nat=>decide (a<=c) && !p.contains (c:Int)) (List.range n)
 rwa [List.length_range] at this
theorem Za2 (w:World)(g:Nat)(rows:List (List Int))(H:RwB w g rows)(h24:rows.length<=64)(P:Option Addr)(c:Nat)(p:List Int)(hP:RdI w P p)(lp:p.length<=1000000000) :
  Calls Tryz.prog 293 #[.pointer (some ⟨g,0,none⟩),.slice P p.length c] w (Zcz (Ws 0 rows.length p) w):=by
 obtain⟨C,cc,h1,-,-,-⟩:=H;have t1:=h1.c0;have AB:=Hd (fun(W:World) (x:Ext w W) (n:Int)=>Ut P c p n W (hP.ext x) lp);generalize rows.length=n at *;have START:Hid (OwI w w.heap.size none 0 (Ws 0 0 p)):=OwI.nil w _;have AL:=Hd (fun k=>ZdV 0 k p);have AS:=Hd (fun k=>Zb5 0 k p);replace h1:=Hd h1;clear hP;go_enter Tryz.func293,Tryz.ntmps293;go_wp2_with (fail);go_loopw [5,12] (fun v5 v12 wr=>∃ (k:Nat) (A:Option Addr) (ac:Nat) (xs:List Int),v12=.int .i64 k/\v5=.slice A xs.length ac/\k<=n/\Hid (xs=Ws 0 k p)/\Hid (OwI wr w.heap.size A ac xs)/\Hid (Ext w wr)) (fun _ v _=>n-(intOf v).toNat)
 case atStart=>exact⟨0,none,0,[],rfl,rfl,by omega,rfl,START,by(repeat (first | assumption | exact Ext.rf _ | apply Ext.drew | apply Ext.drewN | apply Ext.alloc))⟩
 case round =>
  obtain⟨wo,rfl⟩:∃ wo:World,wo=wr:=⟨_,rfl⟩;clear START;obtain⟨k,A,ac,xs,rfl,rfl,hk,hx,oX,Y⟩:=hrel
  by_cases hlt:k<n
  ·have q1:(k:Int)<(n:Int):=by omega
   have lx:xs.length<64:=by rw[hx.out];have:=AL.out k;omega
   have AS2:=AS.out k;rw[<-hx.out] at AS2
   by_cases hc:p.contains (k:Int)=true
   ·have AS3:Hid (xs=Ws 0 (k+1) p):=by
     have h:xs=Ws 0 (k+1) p:=by rw[AS2,hc];simp
     exact h
    have e1:(!p.contains (k:Int))=false:=by rw[hc];rfl
    have AB2:=Hd (AB.out);clear AS2 hx;go_wp2_with (fail);refine(AB2.out _ (Y.out.tr (by(repeat (first | assumption | exact Ext.rf _ | apply Ext.drew | apply Ext.drewN | apply Ext.alloc)))) _).mono ?_;rintro e w2 ⟨rfl,x2⟩;rw[e1];have X2:=Hd (Ext.tr (a:=wo) (by(repeat (first | assumption | exact Ext.rf _ | apply Ext.drew | apply Ext.drewN | apply Ext.alloc))) x2);clear x2;go_wp2_with (fail);go_roundw
    case rel=>exact⟨k+1,A,ac,xs,by go_num,rfl,by omega,AS3,oX.out.ext (Ext.tr X2.out (by(repeat (first | assumption | exact Ext.rf _ | apply Ext.drew | apply Ext.drewN | apply Ext.alloc)))),Y.out.tr (Ext.tr X2.out (by(repeat (first | assumption | exact Ext.rf _ | apply Ext.drew | apply Ext.drewN | apply Ext.alloc))))⟩
    case measure=>simp[intOf];omega
   ·have hc':p.contains (k:Int)=false:=by simpa using hc
    have AS3:Hid (xs++[(k:Int)]=Ws 0 (k+1) p):=Hd (by rw[AS2,hc'];simp);have e1:(!p.contains (k:Int))=true:=by rw[hc'];rfl
    have AB2:=Hd (AB.out);clear AS2 hx;go_wp2_with (fail);refine(AB2.out _ (Y.out.tr (by(repeat (first | assumption | exact Ext.rf _ | apply Ext.drew | apply Ext.drewN | apply Ext.alloc)))) _).mono ?_;rintro e w2 ⟨rfl,x2⟩;rw[e1];have X2:=Hd (Ext.tr (a:=wo) (by(repeat (first | assumption | exact Ext.rf _ | apply Ext.drew | apply Ext.drewN | apply Ext.alloc))) x2);clear x2;have O2:=Hd (oX.out.ext X2.out);have zz:=(Y.out.tr X2.out).size;go_wp2_with (at_builtin;(refine ZG _ rfl _ _ rfl w.heap.size A xs.length ac xs [(k:Int)] (some ⟨w2.heap.size,0,none⟩) 1 rfl rfl rfl ?_ ?_ ?_ ?_ ?_;(exact O2.out.ext ((Ext.rf _).alloc _));(exact .blk (.new (by simp)) rfl);(simp;omega);(simp;omega);rintro A7 c7 w7 o7 g7 _;have Y7:Ext w w7:=Ext.grow (a:=w) ((Y.out.tr X2.out).alloc _) g7 (fun kk hkk=>(oX.out.lt kk hkk).1)));have O7:Hid (OwI w7 w.heap.size A7 c7 (xs++[(k:Int)])):=o7;replace Y7:=Hd Y7;clear o7 g7;go_wp2_with (fail);go_roundw
    case rel=>exact⟨k+1,A7,c7,xs++[(k:Int)],by go_num,by first | rfl | simp,by omega,AS3,OwI.ext O7.out (by(repeat (first | assumption | exact Ext.rf _ | apply Ext.drew | apply Ext.drewN | apply Ext.alloc))),Ext.tr Y7.out (by(repeat (first | assumption | exact Ext.rf _ | apply Ext.drew | apply Ext.drewN | apply Ext.alloc)))⟩
    case measure=>simp[intOf];omega
  ·obtain rfl:k=n:=by omega
   go_wp2_with (fail);go_ret;rw[<-hx.out];exact⟨A,ac,rfl,oX.out,Y.out⟩
theorem Ext.below2 {a b c d:World}(x:Ext a b)(y:Ext b c)(z:Below a.heap.size c d) : Ext a d:=(Ext.tr x y).trans z
theorem ZdW (w:World)(g:Nat)(co:List (List Int))(H:RwB w g co)(rok:RowsOk co)(P:Option Addr)(c:Nat)(p:List Int)(hP:RdI w P p)(m:Nat)(hr:Z1 co.length p=some m) :
  Calls Tryz.prog 291 #[.pointer (some ⟨g,0,none⟩),.slice P p.length c] w fun e w'=>e=.returned (.int .i64 (Yz co p).1)/\Ext w w':=by
 have l1:=rok.n1;have l2:=rok.n2;obtain⟨hpl,hin,hS⟩:=XD l2 hr;have hlen:=ZZ l2 hr;have KR:=fun(W:World) (x:Ext w W)=>Za2 W g co (H.ext x) (by omega) P c p (hP.ext x) (by omega)
 rw[Uq l2 hr] at KR;unfold Zcz at KR;rw[Zg] at KR;obtain⟨C,d,h1,hd1,hd2,hC⟩:=H;obtain⟨tot,ht⟩:∃ tot,Hid (tot=Zv co p+(if p.length<co.length then ZW (co.drop p.length) (Zf m) else 0)):=⟨_,rfl⟩;have e:(Yz co p).1=tot:=by unfold Yz;rw[hr];simp only[<-ht.out]
 rw[e];clear e;have RB:=Hd (ZaA (rows:=co.drop p.length) (m:=m) (by rw[List.length_drop];omega) (fun row hr c hc=>rok.get (List.mem_of_mem_drop hr) (hS.2 c hc)));have hsub:=Hd hS.2;replace KR:=Hd KR;clear hr hS;generalize Zf m=l at *;have t0:=h1.c0;have z0:=h1.lt;obtain⟨cb,cof,rfl⟩:∃ cb cof,C=some ⟨cb,cof,none⟩:=by
  obtain⟨cb,cof,D',row,d',h,_⟩:=hC.ints (show 0<co.length by omega);exact⟨cb,cof,h⟩
 replace hin:=Hd hin;replace rok:=Hd rok;replace hC:=Hd hC;replace hP:=Hd hP;replace h1:=Hd h1;go_enter Tryz.func291,Tryz.ntmps291;go_wp2_with (fail);go_loopw [5,17] (fun s v wr=>∃ (k:Nat) (su:Int),v=.int .i64 k/\s=.int .i64 su/\k<=p.length/\Hid (Zv co (p.take k)=su)/\Hid (Ext w wr)) (fun _ v _=>p.length-(intOf v).toNat)
 case atStart=>exact⟨0,0,rfl,rfl,by omega,(by cases co<;>rfl:Zv co (p.take 0)=0),by(repeat (first | assumption | exact Ext.rf _ | apply Ext.drew | apply Ext.drewN | apply Ext.alloc))⟩
 case round =>
  obtain⟨wo,rfl⟩:∃ wo:World,wo=wr:=⟨_,rfl⟩;obtain⟨k,su,rfl,rfl,hk,HS,Y⟩:=hrel;have bdS:Hid (0<=su/\su<=2147483647*24):=by
   have h1:=VY (B:=2147483647) (rows:=co) (p:=p.take k) (by omega) fun row hr c hc=>by
    have:=hin.out c (List.mem_of_mem_take hc);exact rok.out.get hr (by omega)
   have h2:(p.take k).length<=24:=by rw[List.length_take];omega
   have h:0<=su/\su<=2147483647*24:=by
    rw[<-HS.out];omega
   exact h
  have d5:wo.cell? ⟨g,0,none⟩=some (.slice (some ⟨cb,cof,none⟩) co.length d):=Zc Y.out z0 t0
  by_cases hlt:k<p.length
  ·have hkr:k<co.length:=by omega
   obtain⟨cb',cof',D',row,d',hq,_,cD,er,_,rD,iD,ld,md⟩:=(hC.out.ext Y.out fun _ _ h=>h.ext Y.out).ints hkr;obtain⟨rfl,rfl⟩:cb=cb'/\cof=cof':=by simpa using hq
   have hmem:=List.mem_of_getElem? er.out;obtain⟨pb,po,c,rfl,zp,cp,ep,_⟩:=(hP.out.ext Y.out).at hlt;have hc:=hin.out c (List.mem_of_getElem? ep.out);obtain⟨i,rfl⟩:∃ i:Nat,c=(i:Int):=⟨c.toNat,by omega⟩;have lrow:=rok.out.row row hmem;obtain⟨rb,ro,y,rfl,zy,cy,ey,_⟩:=rD.at (k:=i) (by omega);have yb:=rok.out.get hmem (c:=i) (by omega);rw[getD_some ey.out] at yb;have b1:=bdS.out;have hw:IntKind.i64.wrap (su+y)=su+y:=IntWalk.i64_in _ (by omega);have HS2:Hid (Zv co (p.take (k+1))=su+y):=Hd (by
    rw[Vp er.out ep.out,HS.out,Int.toNat_natCast,getD_some ey.out])
   have q1:(k:Int)<(co.length:Int):=by omega
   have q2:(k:Int)<(p.length:Int):=by omega
   have q3:(i:Int)<(row.length:Int):=by omega
   clear er ep ey lrow b1 yb HS hc rD hmem hq;go_wp2_with (fail);go_roundw
   case rel=>exact⟨k+1,su+y,by go_num,by go_num,by omega,HS2,Y.out.tr (by(repeat (first | assumption | exact Ext.rf _ | apply Ext.drew | apply Ext.drewN | apply Ext.alloc)))⟩
   case measure=>simp[intOf];omega
  ·obtain rfl:k=p.length:=by omega
   have HS2:Hid (Zv co p=su):=by
    have h:=HS.out;rw[List.take_length] at h;exact h
   clear HS;go_wp2_with (fail);refine(KR.out _ (Y.out.tr (by(repeat (first | assumption | exact Ext.rf _ | apply Ext.drew | apply Ext.drewN | apply Ext.alloc))))).mono ?_;rintro e w2 ⟨A2,c2,rfl,o2,x2⟩;have X2:=Hd (Y.out.tr (Ext.tr (by(repeat (first | assumption | exact Ext.rf _ | apply Ext.drew | apply Ext.drewN | apply Ext.alloc))) x2));have d6:w2.cell? ⟨g,0,none⟩=some (.slice (some ⟨cb,cof,none⟩) co.length d):=Zc X2.out z0 t0;replace o2:=Hd o2.read;clear x2 d5
   by_cases hz:d=p.length
   ·have hz2:co.length=p.length:=by omega
    have e0:Hid (su=tot):=Hd (by rw[ht.out,HS2.out,if_neg (by omega)];omega);have RN:=Hd (fun(W:World)=>J8 W.heap.size none 0 W);have b1:=bdS.out;have hw9:IntKind.i64.wrap (su+0)=su:=by rw[Int.add_zero];exact IntWalk.i64_in _ (by omega)
    unfold Uw at RN;clear KR hC rok hsub hin RB ht HS2 bdS h1 hP o2 hlen hd1;go_wp2_with (fail);go_loopw [9,46] (fun v9 v46 wr=>v9=.slice none 0 0/\v46=.int .i64 0/\Hid (Ext w wr)) (fun _ _ _=>0)
    case atStart=>exact⟨rfl,rfl,X2.out.tr (by(repeat (first | assumption | exact Ext.rf _ | apply Ext.drew | apply Ext.drewN | apply Ext.alloc)))⟩
    case round =>
     obtain⟨wp,rfl⟩:∃ wp:World,wp=wr:=⟨_,rfl⟩;obtain⟨rfl,rfl,XP⟩:=hrel;clear X2;go_wp2_with (fail);refine(RN.out _).mono ?_;rintro e w9 ⟨rfl,x9⟩;have XE:=Hd (XP.out.tr (Ext.tr (by(repeat (first | assumption | exact Ext.rf _ | apply Ext.drew | apply Ext.drewN | apply Ext.alloc))) x9));clear x9 XP;go_wp2_with (fail);go_ret;exact⟨by rw[<-e0.out];simp,XE.out.tr (by(repeat (first | assumption | exact Ext.rf _ | apply Ext.drew | apply Ext.drewN | apply Ext.alloc)))⟩
   ·obtain⟨i0,hi,hz0,hz1,hz2⟩:=info_parts (VU)
    replace hi:=Hd hi;replace hz0:=Hd hz0;replace hz1:=Hd hz1;replace hz2:=Hd hz2;have START:Hid (OwV w2 w2.heap.size 22 1 none 0 0 []/\RowsO w2 w2.heap.size [] ((Wo (co.drop p.length) l).take 0)/\RowsD []/\Ext w2 w2):=⟨OwV.nil _ _ _ _,RowsO.nil _ _,RowsD.nil,Ext.rf _⟩;have hq:co.length-p.length<=24:=by omega
    have q9:((co.length-p.length:Nat):Int)=(co.length:Int)-(p.length:Int):=by omega
    obtain⟨q,hq2⟩:∃ q,Hid (q=co.length-p.length):=⟨_,rfl⟩;have hq3:q+p.length<=co.length:=by have:=hq2.out;omega
    have hq4:co.length<=q+p.length:=by have:=hq2.out;omega
    have hq5:q<=24:=by omega
    have hl24:l.length<=24:=by omega
    replace hlen:=Hd hlen;go_wp2_with (fail);rw[<-hq2.out];clear hq q9;go_loopw [9,46] (fun mv v wr=>∃ (k:Nat) (M':Option Addr) (mc:Nat) (ws:List Value),v=.int .i64 k/\mv=.slice M' k mc/\k<=q/\Hid (OwV wr w2.heap.size 22 1 M' k mc ws/\RowsO wr w2.heap.size ws ((Wo (co.drop p.length) l).take k)/\RowsD ws/\Ext w2 wr)) (fun _ v _=>q-(intOf v).toNat)
    case atStart=>exact⟨0,none,0,[],rfl,rfl,by omega,START⟩
    case round =>
     obtain⟨wp,rfl⟩:∃ wp:World,wp=wr:=⟨_,rfl⟩;obtain⟨k,M',mc,ws,rfl,rfl,hk,HH⟩:=hrel;clear START;obtain⟨oV,oR,oD,YP⟩:=HH.out;have XP:=Hd (X2.out.tr YP)
     by_cases hrn:k<q
     ·have q1:(k:Int)<(q:Int):=by omega
      obtain⟨cb',cof',D',row,d',hqq,zcb,cD,er,_,rD,iD,ld,md⟩:=(hC.out.ext XP.out fun _ _ h=>h.ext XP.out).ints (show p.length+k<co.length by omega);obtain⟨rfl,rfl⟩:cb=cb'/\cof=cof':=by simpa using hqq
      have cD2:wp.cell? ⟨cb,cof+p.length+k,none⟩=some (.slice D' row.length d'):=by rw[Nat.add_assoc];exact cD
      have hmem:=List.mem_of_getElem? er.out;have lrow:=Hd (rok.out.row row hmem);have etk:Hid ((Wo (co.drop p.length) l).take (k+1)=(Wo (co.drop p.length) l).take k++[l.map fun c=>row.getD c 0]):=by
       have e0:(Wo (co.drop p.length) l)[k]?=some (l.map fun c=>row.getD c 0):=by
        unfold Wo;rw[List.getElem?_map,List.getElem?_drop,er.out]
        rfl
       have h:(Wo (co.drop p.length) l).take (k+1)=(Wo (co.drop p.length) l).take k++[l.map fun c=>row.getD c 0]:=by rw[List.take_add_one,e0];rfl
       exact h
      have z1p:=YP.size;have S0:Hid (OwI wp wp.heap.size none 0 []):=OwI.nil _ _;have X0:Hid (Ext wp wp):=Ext.rf _;have hk24:k<=24:=by omega
      replace oV:=Hd oV;replace oR:=Hd oR;replace oD:=Hd oD;replace YP:=Hd YP;replace rD:=Hd rD;have zD:=World.block_lt_of_cell? _ _ cD;clear er hmem HH cD hqq;go_wp2_with (fail);go_loopw [12,52] (fun rv v wr=>∃ (j:Nat) (R':Option Addr) (rc:Nat) (xs:List Int),v=.int .i64 j/\rv=.slice R' xs.length rc/\j<=l.length/\Hid (xs=(l.take j).map fun c=>row.getD c 0)/\Hid (OwI wr wp.heap.size R' rc xs)/\Hid (Ext wp wr)) (fun _ v _=>l.length-(intOf v).toNat)
      case atStart=>exact⟨0,none,0,[],rfl,rfl,by omega,rfl,S0,by(repeat (first | assumption | exact Ext.rf _ | apply Ext.drew | apply Ext.drewN | apply Ext.alloc))⟩
      case round =>
       obtain⟨wi,rfl⟩:∃ wi:World,wi=wr:=⟨_,rfl⟩;obtain⟨j,R',rc,xs,rfl,rfl,hj,hxs,oX,YI⟩:=hrel;clear S0 X0;have lxs:xs.length=j:=by rw[hxs.out,List.length_map,List.length_take];omega
       have lx24:xs.length<=24:=by omega
       replace lxs:=Hd lxs
       by_cases hjl:j<l.length
       ·have YA:=Hd (YP.out.tr YI.out)
        have q2:(j:Int)<(l.length:Int):=by omega
        have ej:l[j]?=some l[j]:=List.getElem?_eq_getElem hjl;have hjs:=hsub.out _ (List.getElem_mem hjl);have hxs2:Hid (xs++[row.getD l[j] 0]=(l.take (j+1)).map fun c=>row.getD c 0):=Hd (by
         rw[List.take_add_one,ej,List.map_append,<-hxs.out];rfl)
        generalize l[j]=c at *;obtain⟨lb,lo,xk,rfl,zl,ck,exk,_⟩:=(o2.out.ext YP.out).at (k:=j) (by rw[Zg];exact hjl);obtain rfl:xk=(c:Int):=by
         have h:=exk.out;rw[ZD ej] at h;exact(Option.some.inj h).symm
        obtain⟨rb,ro,y,rfl,zy,cy,ey,_⟩:=rD.out.at (k:=c) (by rw[lrow.out];exact hjs);rw[getD_some ey.out] at hxs2;have q3:(c:Int)<(row.length:Int):=by rw[lrow.out];omega
        have ck':=Zc YI.out zl ck;have cy':=Zc YI.out zy cy;have zpi:=YI.out.size;have hj24:j<24:=by omega
        clear exk ej ey hjs hxs;go_wp2_with (at_builtin;(refine ZG _ rfl _ _ rfl wp.heap.size R' xs.length rc xs [y] (some ⟨wi.heap.size,0,none⟩) 1 rfl rfl rfl ?_ ?_ ?_ ?_ ?_;(exact oX.out.ext ((Ext.rf _).alloc _));(exact .blk (.new (by simp)) rfl);(simp;omega);(simp;omega);rintro A7 c7 w7 o7 g7 _;have Y7:Ext wp w7:=Ext.grow (a:=wp) (YI.out.alloc _) g7 (fun kk hkk=>(oX.out.lt kk hkk).1)));have O7:Hid (OwI w7 wp.heap.size A7 c7 (xs++[y])):=o7;replace Y7:=Hd Y7;clear o7 g7;go_wp2_with (fail);go_roundw
        case rel=>exact⟨j+1,A7,c7,xs++[y],by go_num,by first | rfl | simp,by omega,hxs2,OwI.ext O7.out (by(repeat (first | assumption | exact Ext.rf _ | apply Ext.drew | apply Ext.drewN | apply Ext.alloc))),Ext.tr Y7.out (by(repeat (first | assumption | exact Ext.rf _ | apply Ext.drew | apply Ext.drewN | apply Ext.alloc)))⟩
        case measure=>simp[intOf];omega
       ·obtain rfl:j=l.length:=by omega
        have hxs2:Hid (xs=l.map fun c=>row.getD c 0):=by
         have h:=hxs.out;rw[List.take_length] at h;exact h
        have X6:=Hd ((Ext.tr YI.out ((Ext.rf wi).alloc (.cells #[.slice R' xs.length rc] 22))));have oV5:=oV.out.ext YI.out;have zz:=YI.out.size;have M5:=Hd (oV5.ext ((Ext.rf wi).alloc (.cells #[.slice R' xs.length rc] 22)));clear oV5 hxs;go_wp2_with (at_builtin;(refine Yd _ (e:=22) Tryz.underlying23 hi.out hz0.out hz1.out hz2.out (by simp[Value.cells]) (by omega) rfl _ _ rfl w2.heap.size M' k mc ws (some ⟨wi.heap.size,0,none⟩) 1 1 [.slice R' xs.length rc] rfl rfl M5.out (RdV.blk (.new (by simp))).rdC (by simp) (by simp[Value.oneCell']) (by simp only[maxLen];omega) (by omega) (by simp;omega) ?_;rintro C6 c6 w6 o6 g6 _));have M6:=M5.out.grownT g6;have NEW:Hid (OwV w6 w2.heap.size 22 1 C6 (k+1) c6 (ws++[.slice R' xs.length rc])/\RowsO w6 w2.heap.size (ws++[.slice R' xs.length rc]) ((Wo (co.drop p.length) l).take (k+1))/\RowsD (ws++[.slice R' xs.length rc])/\Ext w2 w6):=by
         refine⟨o6,?_,oD.out.snoc oR.out oX.out,(YP.out.tr X6.out).modT M6 (Nat.le_refl _)⟩;rw[etk.out,<-hxs2.out];exact((oR.out.ext X6.out).modT M6 (by decide)).snoc (((oX.out.more z1p).ext ((Ext.rf _).alloc _)).modT M6 (by decide))
        clear o6 g6 M6;go_wp2_with (fail);go_roundw
        case rel=>exact⟨k+1,C6,c6,_,by go_num,rfl,by omega,NEW⟩
        case measure=>simp[intOf];omega
     ·obtain rfl:k=q:=by omega
      have lsub:(Wo (co.drop p.length) l).length=k:=by unfold Wo;rw[List.length_map,List.length_drop];omega
      rw[<-lsub,List.take_length] at oR
      by_cases hk0:k=0
      ·have e0:Hid (su=tot):=by
        have h:su=tot:=by rw[ht.out,HS2.out,if_neg (by omega)];omega
        exact h
       subst hk0;have RN:=Hd (fun(W:World)=>J8 W.heap.size M' mc W);have b1:=bdS.out;unfold Uw at RN;clear KR hC rok hsub hin RB ht HS2 bdS h1 hP o2 hd1 HH oV oR oD YP lsub;go_wp2_with (fail);refine(RN.out _).mono ?_;rintro e w9 ⟨rfl,x9⟩;have XE:=Hd (XP.out.tr (Ext.tr (by(repeat (first | assumption | exact Ext.rf _ | apply Ext.drew | apply Ext.drewN | apply Ext.alloc))) x9));clear x9 XP;go_wp2_with (fail);go_ret;exact⟨by rw[<-e0.out];simp,XE.out.tr (by(repeat (first | assumption | exact Ext.rf _ | apply Ext.drew | apply Ext.drewN | apply Ext.alloc)))⟩
      ·have e0:Hid (su+ZW (co.drop p.length) l=tot):=by
        have h:su+ZW (co.drop p.length) l=tot:=by rw[ht.out,HS2.out,if_pos (by omega)]
        exact h
       have RE:Hid (∀ W,Ext wp W->Calls Tryz.prog 294 #[.slice M' k mc] W (Uw w2.heap.size (ZW (co.drop p.length) l) W)):=by
        intro W x;have hsm:∀ row∈Wo (co.drop p.length) l,∃ q∈co.drop p.length,row=l.map fun c=>q.getD c 0:=fun row h=>by
         obtain⟨q,hq,rfl⟩:=List.mem_map.1 h;exact⟨q,hq,rfl⟩
        have hn2:∀ row∈co.drop p.length,∀ c∈l,0<=row.getD c 0/\row.getD c 0<=2147483647:=fun row hq c hc=>rok.out.get (List.mem_of_mem_drop hq) (hsub.out c hc)
        have hl0:l≠[]:=fun e=>by have h:=hlen.out;rw[e] at h;simp at h;omega
        have hm0:co.drop p.length≠[]:=fun e=>by have:=congrArg List.length e;rw[List.length_drop] at this;simp at this;omega
        have h:=J9 w2.heap.size M' k mc l.length ws (Wo (co.drop p.length) l) W (by have:=YP.size;have:=x.size;omega) (oV.ext x).read (oR.ext x) oD lsub (by omega) (by omega) (fun row h=>by obtain⟨q,_,rfl⟩:=hsm row h;simp) (by omega) (fun row h x hx=>by
         obtain⟨q,hq,rfl⟩:=hsm row h;obtain⟨c,hc,rfl⟩:=List.mem_map.1 hx;have:=hn2 q hq c hc;omega)
        rw[show YY (Wo (co.drop p.length) l) l.length=ZW (co.drop p.length) l from ZdC hm0 hl0 hn2] at h;exact h
       have rb:=RB.out;have b1:=bdS.out;have XB:Hid (∀ W W',Ext wp W->Below w2.heap.size W W'->Ext w W'):=fun W W' x b=>(X2.out.tr (Ext.below2 YP x b))
       generalize ZW (co.drop p.length) l=rp at *;unfold Uw at RE;clear KR hC rok hsub hin RB ht HS2 bdS h1 hP o2 hd1 HH oV oR oD YP lsub;go_wp2_with (fail);refine(RE.out _ (by(repeat (first | assumption | exact Ext.rf _ | apply Ext.drew | apply Ext.drewN | apply Ext.alloc)))).mono ?_;rintro e w9 ⟨rfl,x9⟩;have XE:=Hd (XB.out _ _ (by(repeat (first | assumption | exact Ext.rf _ | apply Ext.drew | apply Ext.drewN | apply Ext.alloc))) x9);clear x9 XP;go_wp2_with (fail);go_ret;exact⟨ZM e0.out,XE.out.tr (by(repeat (first | assumption | exact Ext.rf _ | apply Ext.drew | apply Ext.drewN | apply Ext.alloc)))⟩
def CiB (w:World)(g:Nat)(mi:Bool)(rows:List (List Int)) : Prop:=∃ (C:Option Addr) (c:Nat),Blk w g 163 #[.slice C rows.length c,.bool mi]/\rows.length<=c/\c<=maxLen/\RdE 1 RInts w C rows
theorem CiB.ext {w w':World}{g:Nat}{mi:Bool}{rows:List (List Int)}(h:CiB w g mi rows)(x:Ext w w') : CiB w' g mi rows:=by
 obtain⟨C,c,h1,h3,h4,h2⟩:=h;exact⟨C,c,h1.ext x,h3,h4,h2.ext x fun _ _ h=>h.ext x⟩
theorem ZdX (w:World)(g:Nat)(mi:Bool)(rows:List (List Int))(H:CiB w g mi rows)(h1:1<=rows.length)(h24:rows.length<=24) :
  Calls Tryz.prog 297 #[.pointer (some ⟨g,0,none⟩)] w fun e w'=>e=.returned (.int .i64 ((rows.length-1:Nat):Int))/\Ext w w':=by
 obtain⟨C,c,h,-,-,-⟩:=H;have t1:=h.c0;have hw:Hid (((rows.length:Int)-1)=((rows.length-1:Nat):Int)):=Hd (by omega);go_enter Tryz.func297,Tryz.ntmps297;go_wp2_with (fail);go_ret;exact⟨ZM hw.out,by(repeat (first | assumption | exact Ext.rf _ | apply Ext.drew | apply Ext.drewN | apply Ext.alloc))⟩
theorem Za3 (w:World)(g:Nat)(mi:Bool)(rows:List (List Int))(H:CiB w g mi rows)(h24:rows.length<=64)(P:Option Addr)(c:Nat)(p:List Int)(hP:RdI w P p)(lp:p.length<=1000000000) :
  Calls Tryz.prog 298 #[.pointer (some ⟨g,0,none⟩),.slice P p.length c] w (Zcz (Ws 1 rows.length p) w):=by
 obtain⟨C,cc,h1,-,-,-⟩:=H;have t1:=h1.c0;have AB:=Hd (fun(W:World) (x:Ext w W) (n:Int)=>Ut P c p n W (hP.ext x) lp);generalize rows.length=n at *;have START:Hid (OwI w w.heap.size none 0 (Ws 1 0 p)):=OwI.nil w _;have AL:=Hd (fun k=>ZdV 1 k p);have AS:=Hd (fun k=>Zb5 1 k p);replace h1:=Hd h1;clear hP;go_enter Tryz.func298,Tryz.ntmps298;go_wp2_with (fail);go_loopw [5,12] (fun v5 v12 wr=>∃ (k:Nat) (A:Option Addr) (ac:Nat) (xs:List Int),v12=.int .i64 k/\v5=.slice A xs.length ac/\k<=n/\Hid (xs=Ws 1 k p)/\Hid (OwI wr w.heap.size A ac xs)/\Hid (Ext w wr)) (fun _ v _=>n-(intOf v).toNat)
 case atStart=>exact⟨0,none,0,[],rfl,rfl,by omega,rfl,START,by(repeat (first | assumption | exact Ext.rf _ | apply Ext.drew | apply Ext.drewN | apply Ext.alloc))⟩
 case round =>
  obtain⟨wo,rfl⟩:∃ wo:World,wo=wr:=⟨_,rfl⟩;clear START;obtain⟨k,A,ac,xs,rfl,rfl,hk,hx,oX,Y⟩:=hrel
  by_cases hlt:k<n
  ·have q1:(k:Int)<(n:Int):=by omega
   have lx:xs.length<64:=by rw[hx.out];have:=AL.out k;omega
   have AS2:=AS.out k;rw[<-hx.out] at AS2
   by_cases hk0:k=0
   ·subst hk0
    have AS3:Hid (xs=Ws 1 (0+1) p):=Hd (by rw[AS2];simp);clear AS2 hx;go_wp2_with (fail);go_roundw
    case rel=>exact⟨1,A,ac,xs,by go_num,rfl,by omega,AS3,oX.out.ext (by(repeat (first | assumption | exact Ext.rf _ | apply Ext.drew | apply Ext.drewN | apply Ext.alloc))),Y.out.tr (by(repeat (first | assumption | exact Ext.rf _ | apply Ext.drew | apply Ext.drewN | apply Ext.alloc)))⟩
    case measure=>simp[intOf];omega
   have hk1:(0:Int)<(k:Int):=by omega
   have hk2:decide (1<=k)=true:=decide_eq_true (by omega);rw[hk2] at AS2
   by_cases hc:p.contains (k:Int)=true
   ·have AS3:Hid (xs=Ws 1 (k+1) p):=by
     have h:xs=Ws 1 (k+1) p:=by rw[AS2,hc];simp
     exact h
    have e1:(!p.contains (k:Int))=false:=by rw[hc];rfl
    have AB2:=Hd (AB.out);clear AS2 hx;go_wp2_with (fail);refine(AB2.out _ (Y.out.tr (by(repeat (first | assumption | exact Ext.rf _ | apply Ext.drew | apply Ext.drewN | apply Ext.alloc)))) _).mono ?_;rintro e w2 ⟨rfl,x2⟩;rw[e1];have X2:=Hd (Ext.tr (a:=wo) (by(repeat (first | assumption | exact Ext.rf _ | apply Ext.drew | apply Ext.drewN | apply Ext.alloc))) x2);clear x2;go_wp2_with (fail);go_roundw
    case rel=>exact⟨k+1,A,ac,xs,by go_num,rfl,by omega,AS3,oX.out.ext (Ext.tr X2.out (by(repeat (first | assumption | exact Ext.rf _ | apply Ext.drew | apply Ext.drewN | apply Ext.alloc)))),Y.out.tr (Ext.tr X2.out (by(repeat (first | assumption | exact Ext.rf _ | apply Ext.drew | apply Ext.drewN | apply Ext.alloc))))⟩
    case measure=>simp[intOf];omega
   ·have hc':p.contains (k:Int)=false:=by simpa using hc
    have AS3:Hid (xs++[(k:Int)]=Ws 1 (k+1) p):=Hd (by rw[AS2,hc'];simp);have e1:(!p.contains (k:Int))=true:=by rw[hc'];rfl
    have AB2:=Hd (AB.out);clear AS2 hx;go_wp2_with (fail);refine(AB2.out _ (Y.out.tr (by(repeat (first | assumption | exact Ext.rf _ | apply Ext.drew | apply Ext.drewN | apply Ext.alloc)))) _).mono ?_;rintro e w2 ⟨rfl,x2⟩;rw[e1];have X2:=Hd (Ext.tr (a:=wo) (by(repeat (first | assumption | exact Ext.rf _ | apply Ext.drew | apply Ext.drewN | apply Ext.alloc))) x2);clear x2;have O2:=Hd (oX.out.ext X2.out);have zz:=(Y.out.tr X2.out).size;go_wp2_with (at_builtin;go_loud (refine ZG _ rfl _ _ rfl w.heap.size A xs.length ac xs [(k:Int)] (some ⟨w2.heap.size,0,none⟩) 1 rfl rfl rfl ?_ ?_ ?_ ?_ ?_;(exact O2.out.ext ((Ext.rf _).alloc _));(exact .blk (.new (by simp)) rfl);(simp;omega);(simp;omega);rintro A7 c7 w7 o7 g7 _;have Y7:Ext w w7:=Ext.grow (a:=w) ((Y.out.tr X2.out).alloc _) g7 (fun kk hkk=>(oX.out.lt kk hkk).1)));have O7:Hid (OwI w7 w.heap.size A7 c7 (xs++[(k:Int)])):=o7;replace Y7:=Hd Y7;clear o7 g7;go_wp2_with (fail);go_roundw
    case rel=>exact⟨k+1,A7,c7,xs++[(k:Int)],by go_num,by first | rfl | simp,by omega,AS3,OwI.ext O7.out (by(repeat (first | assumption | exact Ext.rf _ | apply Ext.drew | apply Ext.drewN | apply Ext.alloc))),Ext.tr Y7.out (by(repeat (first | assumption | exact Ext.rf _ | apply Ext.drew | apply Ext.drewN | apply Ext.alloc)))⟩
    case measure=>simp[intOf];omega
  ·obtain rfl:k=n:=by omega
   go_wp2_with (fail);go_ret;rw[<-hx.out];exact⟨A,ac,rfl,oX.out,Y.out⟩
theorem QJ {l:List (List Int)}{k:Nat}{x:List Int}(h:l[k]?=some x) : l.getD k []=x:=by simp[List.getD,h]
theorem Zgm (w:World)(g:Nat)(mi:Bool)(co:List (List Int))(H:CiB w g mi co)(rok:RowsOk co)(P:Option Addr)(c:Nat)(p:List Int)(hP:RdI w P p)(m last:Nat)(cost:Int)(hr:Z5 co p=some (m,last,cost)) :
  Calls Tryz.prog 299 #[.pointer (some ⟨g,0,none⟩),.slice P p.length c] w fun e w'=>e=.returned (.tuple #[.int .i64 cost,.int .i64 last])/\Ext w w':=by
 have l1:=rok.n1;have l2:=rok.n2;obtain⟨l,W⟩:=YK l1 l2 hr;have hin:Hid (∀ c∈p,0<=c/\c<(co.length:Int)):=fun c hc=>by
  rw[W.eq] at hc;unfold Zd at hc;obtain⟨x,hx,rfl⟩:=List.mem_map.1 hc;have:=(W.inn x hx).1;omega
 have hpl:p.length<=24:=by have:=W.len;have h2:=congrArg List.length W.eq;rw[Zg] at h2;omega
 have S0:Hid (∃ m',Xu co m' 0 0 (p.drop 0)=some (m,last,cost)):=by
  unfold Z5 at hr;split at hr
  ·cases hr
  ·exact⟨_,hr⟩
 obtain⟨C,d,h1,hd1,hd2,hC⟩:=H;have t0:=h1.c0;have z0:=h1.lt;replace rok:=Hd rok;replace hC:=Hd hC;replace hP:=Hd hP;replace h1:=Hd h1;clear W hr;go_enter Tryz.func299,Tryz.ntmps299;go_wp2_with (fail);go_loopw [4,5,10] (fun v4 v5 v10 wr=>∃ (k la:Nat) (s:Int),v10=.int .i64 k/\v4=.int .i64 s/\v5=.int .i64 la/\k<=p.length/\la<co.length/\0<=s/\s<=2147483647*k/\Hid (∃ m',Xu co m' la s (p.drop k)=some (m,last,cost))/\Hid (Ext w wr)) (fun _ _ v _=>p.length-(intOf v).toNat)
 case atStart=>exact⟨0,0,0,rfl,rfl,rfl,by omega,by omega,by omega,by omega,S0,by(repeat (first | assumption | exact Ext.rf _ | apply Ext.drew | apply Ext.drewN | apply Ext.alloc))⟩
 case round =>
  obtain⟨wo,rfl⟩:∃ wo:World,wo=wr:=⟨_,rfl⟩;clear S0;obtain⟨k,la,s,rfl,rfl,rfl,hk,hla,s0,s1,hS,Y⟩:=hrel
  by_cases hlt:k<p.length
  ·obtain⟨cb,cof,D',row,d',rfl,_,cD,er,_,rD,iD,ld,md⟩:=(hC.out.ext Y.out fun _ _ h=>h.ext Y.out).ints hla
   have hmem:=List.mem_of_getElem? er.out;obtain⟨pb,po,c,rfl,zp,cp,ep,dp⟩:=(hP.out.ext Y.out).at hlt;have hc:=hin.out c (List.mem_of_getElem? ep.out);obtain⟨i,rfl⟩:∃ i:Nat,c=(i:Int):=⟨c.toNat,by omega⟩;have lrow:=rok.out.row row hmem;obtain⟨rb,ro,y,rfl,zy,cy,ey,_⟩:=rD.at (k:=i) (by omega);have yb:=rok.out.get hmem (c:=i) (by omega);rw[getD_some ey.out] at yb;have d5:wo.cell? ⟨g,0,none⟩=some (.slice (some ⟨cb,cof,none⟩) co.length d):=Zc Y.out z0 t0;have HS2:Hid (∃ m',Xu co m' i (s+y) (p.drop (k+1))=some (m,last,cost)):=by
    obtain⟨m',h⟩:=hS.out;rw[dp.out,Xu] at h;split at h
    ·rw[Int.toNat_natCast] at h
     unfold Za at h;rw[QJ er.out,getD_some ey.out] at h;exact⟨_,h⟩
    ·cases h
   have q1:(la:Int)<(co.length:Int):=by omega
   have q2:(k:Int)<(p.length:Int):=by omega
   have q3:(i:Int)<(row.length:Int):=by omega
   have k24:(k:Int)<=24:=by omega
   clear er ep dp ey lrow hS rD hmem;go_wp2_with (fail);go_roundw
   case rel=>exact⟨k+1,i,s+y,by go_num,by go_num,by go_num,by omega,by omega,by omega,by omega,HS2,Y.out.tr (by(repeat (first | assumption | exact Ext.rf _ | apply Ext.drew | apply Ext.drewN | apply Ext.alloc)))⟩
   case measure=>simp[intOf];omega
  ·obtain rfl:k=p.length:=by omega
   have E:s=cost/\la=last:=by
    obtain⟨m',h⟩:=hS.out;rw[List.drop_length] at h;have h':some (m',la,s)=some (m,last,cost):=h
    injection h' with h'
    injection h' with h1 h2
    injection h2 with h2 h3
    exact⟨h3,h2⟩
   obtain⟨rfl,rfl⟩:=E;clear hS;go_wp2_with (fail);go_ret2;exact⟨rfl,Y.out.tr (by(repeat (first | assumption | exact Ext.rf _ | apply Ext.drew | apply Ext.drewN | apply Ext.alloc)))⟩
theorem Zir (w:World)(P:Option Addr)(c:Nat)(a b:Int)(l:List Int)(hP:RdI w P (a::b::l))(hc:(a::b::l).length<=c)(hc2:c<=maxLen)(hl:l.length<=1000) :
  Calls Tryz.prog 302 #[.slice P (a::b::l).length c] w fun e w'=>e=.returned (.tuple #[.int .i64 (l.foldl Yp (min a b,max a b)).1,.int .i64 (l.foldl Yp (min a b,max a b)).2])/\Ext w w':=by
 obtain⟨ls,hls⟩:∃ ls,Hid (ls=a::b::l):=⟨_,rfl⟩;have ll:Hid (ls.length=l.length+2):=Hd (by rw[hls.out];rfl);rw[<-hls.out] at hP hc ⊢;have l2:2<=ls.length:=by have:=ll.out;omega
 obtain⟨pb,po,x,rfl,z1,c1,e1,_⟩:=hP.at (k:=0) (by omega);obtain⟨pb',po',y,hq,z2,c2,e2,_⟩:=hP.at (k:=1) (by omega);obtain⟨rfl,rfl⟩:pb=pb'/\po=po':=by simpa using hq
 obtain rfl:a=x:=by have h:=e1.out;rw[hls.out] at h;simpa using h
 obtain rfl:b=y:=by have h:=e2.out;rw[hls.out] at h;simpa using h
 clear e1 e2 hq;rw[Nat.add_zero] at c1;obtain⟨q,hq⟩:∃ q,Hid (q=ls.length-2):=⟨_,rfl⟩;have q1:q+2<=ls.length:=by have:=hq.out;omega
 have q2:ls.length<=q+2:=by have:=hq.out;omega
 have ql:Hid (q=l.length):=Hd (by have:=ll.out;omega);have q5:q<=1000:=by have:=ql.out;omega
 have q3:(1:Int)<(ls.length:Int):=by omega
 have q4:0<ls.length:=by omega
 have q6:1<ls.length:=by omega
 have AT:Hid (∀ (W:World),Ext w W->∀ k,k<q->∃ v,W.cell? ⟨pb,po+2+k,none⟩=some (.int .i64 v)/\l.drop k=v::l.drop (k+1)):=fun W x k hk=>by
  obtain⟨pb',po',v,hq2,_,c3,e3,_⟩:=(hP.ext x).at (k:=2+k) (by omega);obtain⟨rfl,rfl⟩:pb=pb'/\po=po':=by simpa using hq2
  have hk2:k<l.length:=by have:=ql.out;omega
  have h:=e3.out;rw[hls.out,show 2+k=k+1+1 by omega,List.getElem?_cons_succ,List.getElem?_cons_succ,List.getElem?_eq_getElem hk2] at h;refine⟨v,by rw[Nat.add_assoc];exact c3,?_⟩;rw[List.drop_eq_getElem_cons hk2,Option.some.inj h]
 obtain⟨r,hr⟩:∃ r,Hid (l.foldl Yp (min a b,max a b)=r):=⟨_,rfl⟩;rw[hr.out];replace hP:=Hd hP;replace hc2:=Hd hc2;replace hls:=Hd hls;clear hls;generalize ls.length=n at *
 by_cases hcz:c=2
 ·obtain rfl:c=2:=hcz
  obtain rfl:n=2:=by omega
  by_cases hba:b<a
  ·have S0:Hid ((l.drop 0).foldl Yp (b,a)=r):=by
    have h:(l.drop 0).foldl Yp (b,a)=r:=by rw[<-hr.out,List.drop_zero,Int.min_eq_right (by omega),Int.max_eq_left (by omega)]
    exact h
   clear hr;go_enter Tryz.func302,Tryz.ntmps302;go_wp2_with (fail);go_region_held3 (fun w'=>w'.cell? ⟨pb,po,none⟩=some (.int .i64 a)/\w'.cell? ⟨pb,po+1,none⟩=some (.int .i64 b)) (go_keep) (fail);go_wp2_with (fail);go_loopw [4,5,22] (fun v4 v5 v22 wr=>v22=.int .i64 0/\v4=.int .i64 b/\v5=.int .i64 a/\Hid (Ext w wr)) (fun _ _ _ _=>0)
   case atStart=>exact⟨rfl,rfl,rfl,by(repeat (first | assumption | exact Ext.rf _ | apply Ext.drew | apply Ext.drewN | apply Ext.alloc))⟩
   case round =>
    obtain⟨wo,rfl⟩:∃ wo:World,wo=wr:=⟨_,rfl⟩;obtain⟨rfl,rfl,rfl,Y⟩:=hrel;have E:Hid (r=(b,a)):=by
     have h:=S0.out;rw[List.drop_of_length_le (by have:=ql.out;omega)] at h;exact h.symm
    clear S0;go_wp2_with (fail);go_ret2;rw[E.out];exact⟨rfl,Y.out.tr (by(repeat (first | assumption | exact Ext.rf _ | apply Ext.drew | apply Ext.drewN | apply Ext.alloc)))⟩
  ·have S0:Hid ((l.drop 0).foldl Yp (a,b)=r):=by
    have h:(l.drop 0).foldl Yp (a,b)=r:=by rw[<-hr.out,List.drop_zero,Int.min_eq_left (by omega),Int.max_eq_right (by omega)]
    exact h
   clear hr;go_enter Tryz.func302,Tryz.ntmps302;go_wp2_with (fail);go_region_held3 (fun w'=>w'.cell? ⟨pb,po,none⟩=some (.int .i64 a)/\w'.cell? ⟨pb,po+1,none⟩=some (.int .i64 b)) (go_keep) (fail);go_wp2_with (fail);go_loopw [4,5,22] (fun v4 v5 v22 wr=>v22=.int .i64 0/\v4=.int .i64 a/\v5=.int .i64 b/\Hid (Ext w wr)) (fun _ _ _ _=>0)
   case atStart=>exact⟨rfl,rfl,rfl,by(repeat (first | assumption | exact Ext.rf _ | apply Ext.drew | apply Ext.drewN | apply Ext.alloc))⟩
   case round =>
    obtain⟨wo,rfl⟩:∃ wo:World,wo=wr:=⟨_,rfl⟩;obtain⟨rfl,rfl,rfl,Y⟩:=hrel;have E:Hid (r=(a,b)):=by
     have h:=S0.out;rw[List.drop_of_length_le (by have:=ql.out;omega)] at h;exact h.symm
    clear S0;go_wp2_with (fail);go_ret2;rw[E.out];exact⟨rfl,Y.out.tr (by(repeat (first | assumption | exact Ext.rf _ | apply Ext.drew | apply Ext.drewN | apply Ext.alloc)))⟩
 ·by_cases hba:b<a
  ·have S0:Hid ((l.drop 0).foldl Yp (b,a)=r):=by
    have h:(l.drop 0).foldl Yp (b,a)=r:=by rw[<-hr.out,List.drop_zero,Int.min_eq_right (by omega),Int.max_eq_left (by omega)]
    exact h
   clear hr;go_enter Tryz.func302,Tryz.ntmps302;go_wp2_with (fail);go_region_held3 (fun w'=>w'.cell? ⟨pb,po,none⟩=some (.int .i64 a)/\w'.cell? ⟨pb,po+1,none⟩=some (.int .i64 b)) (go_keep) (fail);go_wp2_with (fail);rw[<-hq.out];clear hq;go_loopw [4,5,22] (fun v4 v5 v22 wr=>∃ (k:Nat) (x y:Int),v22=.int .i64 k/\v4=.int .i64 x/\v5=.int .i64 y/\k<=q/\Hid ((l.drop k).foldl Yp (x,y)=r)/\Hid (Ext w wr)) (fun _ _ v _=>q-(intOf v).toNat)
   case atStart=>exact⟨0,b,a,rfl,rfl,rfl,by omega,S0,by(repeat (first | assumption | exact Ext.rf _ | apply Ext.drew | apply Ext.drewN | apply Ext.alloc))⟩
   case round =>
    obtain⟨wo,rfl⟩:∃ wo:World,wo=wr:=⟨_,rfl⟩;clear S0;obtain⟨k,x,y,rfl,rfl,rfl,hk,hS,Y⟩:=hrel
    by_cases hlt:k<q
    ·obtain⟨v,cv,dv⟩:=AT.out wo Y.out k hlt
     have r1:(k:Int)<(q:Int):=by omega
     have HS:=hS.out;rw[dv,List.foldl_cons] at HS;unfold Yp at HS;clear dv hS
     by_cases h1:v<x
     ·have HS2:Hid ((l.drop (k+1)).foldl Yp (v,x)=r):=by rw[if_pos h1] at HS;exact HS
      clear HS;go_wp2_with (fail);go_roundw
      case rel=>exact⟨k+1,v,x,by go_num,by go_num,by go_num,by omega,HS2,Y.out.tr (by(repeat (first | assumption | exact Ext.rf _ | apply Ext.drew | apply Ext.drewN | apply Ext.alloc)))⟩
      case measure=>simp[intOf];omega
     ·by_cases h2:v<y
      ·have HS2:Hid ((l.drop (k+1)).foldl Yp (x,v)=r):=by rw[if_neg h1,if_pos h2] at HS;exact HS
       clear HS;go_wp2_with (fail);go_roundw
       case rel=>exact⟨k+1,x,v,by go_num,by go_num,by go_num,by omega,HS2,Y.out.tr (by(repeat (first | assumption | exact Ext.rf _ | apply Ext.drew | apply Ext.drewN | apply Ext.alloc)))⟩
       case measure=>simp[intOf];omega
      ·have HS2:Hid ((l.drop (k+1)).foldl Yp (x,y)=r):=by rw[if_neg h1,if_neg h2] at HS;exact HS
       clear HS;go_wp2_with (fail);go_roundw
       case rel=>exact⟨k+1,x,y,by go_num,by go_num,by go_num,by omega,HS2,Y.out.tr (by(repeat (first | assumption | exact Ext.rf _ | apply Ext.drew | apply Ext.drewN | apply Ext.alloc)))⟩
       case measure=>simp[intOf];omega
    ·obtain rfl:k=q:=by omega
     have E:Hid (r=(x,y)):=by
      have h:=hS.out;rw[ql.out,List.drop_length] at h;exact h.symm
     clear hS;go_wp2_with (fail);go_ret2;rw[E.out];exact⟨rfl,Y.out.tr (by(repeat (first | assumption | exact Ext.rf _ | apply Ext.drew | apply Ext.drewN | apply Ext.alloc)))⟩
  ·have S0:Hid ((l.drop 0).foldl Yp (a,b)=r):=by
    have h:(l.drop 0).foldl Yp (a,b)=r:=by rw[<-hr.out,List.drop_zero,Int.min_eq_left (by omega),Int.max_eq_right (by omega)]
    exact h
   clear hr;go_enter Tryz.func302,Tryz.ntmps302;go_wp2_with (fail);go_region_held3 (fun w'=>w'.cell? ⟨pb,po,none⟩=some (.int .i64 a)/\w'.cell? ⟨pb,po+1,none⟩=some (.int .i64 b)) (go_keep) (fail);go_wp2_with (fail);rw[<-hq.out];clear hq;go_loopw [4,5,22] (fun v4 v5 v22 wr=>∃ (k:Nat) (x y:Int),v22=.int .i64 k/\v4=.int .i64 x/\v5=.int .i64 y/\k<=q/\Hid ((l.drop k).foldl Yp (x,y)=r)/\Hid (Ext w wr)) (fun _ _ v _=>q-(intOf v).toNat)
   case atStart=>exact⟨0,a,b,rfl,rfl,rfl,by omega,S0,by(repeat (first | assumption | exact Ext.rf _ | apply Ext.drew | apply Ext.drewN | apply Ext.alloc))⟩
   case round =>
    obtain⟨wo,rfl⟩:∃ wo:World,wo=wr:=⟨_,rfl⟩;clear S0;obtain⟨k,x,y,rfl,rfl,rfl,hk,hS,Y⟩:=hrel
    by_cases hlt:k<q
    ·obtain⟨v,cv,dv⟩:=AT.out wo Y.out k hlt
     have r1:(k:Int)<(q:Int):=by omega
     have HS:=hS.out;rw[dv,List.foldl_cons] at HS;unfold Yp at HS;clear dv hS
     by_cases h1:v<x
     ·have HS2:Hid ((l.drop (k+1)).foldl Yp (v,x)=r):=by rw[if_pos h1] at HS;exact HS
      clear HS;go_wp2_with (fail);go_roundw
      case rel=>exact⟨k+1,v,x,by go_num,by go_num,by go_num,by omega,HS2,Y.out.tr (by(repeat (first | assumption | exact Ext.rf _ | apply Ext.drew | apply Ext.drewN | apply Ext.alloc)))⟩
      case measure=>simp[intOf];omega
     ·by_cases h2:v<y
      ·have HS2:Hid ((l.drop (k+1)).foldl Yp (x,v)=r):=by rw[if_neg h1,if_pos h2] at HS;exact HS
       clear HS;go_wp2_with (fail);go_roundw
       case rel=>exact⟨k+1,x,v,by go_num,by go_num,by go_num,by omega,HS2,Y.out.tr (by(repeat (first | assumption | exact Ext.rf _ | apply Ext.drew | apply Ext.drewN | apply Ext.alloc)))⟩
       case measure=>simp[intOf];omega
      ·have HS2:Hid ((l.drop (k+1)).foldl Yp (x,y)=r):=by rw[if_neg h1,if_neg h2] at HS;exact HS
       clear HS;go_wp2_with (fail);go_roundw
       case rel=>exact⟨k+1,x,y,by go_num,by go_num,by go_num,by omega,HS2,Y.out.tr (by(repeat (first | assumption | exact Ext.rf _ | apply Ext.drew | apply Ext.drewN | apply Ext.alloc)))⟩
       case measure=>simp[intOf];omega
    ·obtain rfl:k=q:=by omega
     have E:Hid (r=(x,y)):=by
      have h:=hS.out;rw[ql.out,List.drop_length] at h;exact h.symm
     clear hS;go_wp2_with (fail);go_ret2;rw[E.out];exact⟨rfl,Y.out.tr (by(repeat (first | assumption | exact Ext.rf _ | apply Ext.drew | apply Ext.drewN | apply Ext.alloc)))⟩
theorem Zis {rows:List (List Int)}{us:List Nat}{last src dst:Nat}(hd:dst∈us)(hl:last∉us)(h0:0∉us) : XH rows us last src dst=if src=dst then -1 else Za rows src dst:=by
 unfold XH YR
 by_cases e:src=last
 ·subst e
  rw[if_pos rfl,if_pos hd,if_neg (fun e:src=dst=>hl (by rw[e];exact hd))]
 ·rw[if_neg e]
  by_cases e2:src=dst
  ·subst e2
   rw[if_pos rfl,if_neg];intro h;rcases List.mem_cons.1 h with h | h
   ·exact h0 (h ▸ hd)
   ·simp at h
  ·rw[if_neg e2,if_pos]
   exact List.mem_cons.2 (.inr (List.mem_filter.2 ⟨hd,by simpa using e2⟩))
theorem Zgn {rows:List (List Int)}{us:List Nat}{last src:Nat}(h0:0∉us) : XH rows us last src 0=if src=last then -1 else Za rows src 0:=by
 unfold XH YR
 by_cases e:src=last
 ·rw[if_pos e,if_pos e,if_neg h0]
 ·rw[if_neg e,if_neg e,if_pos List.mem_cons_self]
def Zi1 (n:Nat)(ms:List (List Int))(w:World)(e:Ending)(w':World) : Prop:=∃ (M:Option Addr) (mc:Nat) (ws:List Value),e=.returned (.slice M n mc)/\OwV w' w.heap.size 22 1 M n mc ws/\RowsO w' w.heap.size ws ms/\RowsD ws/\Ext w w'
theorem ZdY (w:World)(g:Nat)(mi:Bool)(co:List (List Int))(H:CiB w g mi co)(rok:RowsOk co)(P:Option Addr)(c:Nat)(us:List Nat)(last:Nat)(hP:RdI w P (Zd us))(hus:∀ u∈us,u<co.length)(hla:last<co.length)(hl:last∉us)(h0:0∉us)(hl24:us.length<=24) :
  Calls Tryz.prog 300 #[.pointer (some ⟨g,0,none⟩),.slice P us.length c,.int .i64 last] w (Zi1 (us.length+1) (Wv co us last) w):=by
 obtain⟨C,d,h1,hd1,hd2,hC⟩:=H;have t0:=h1.c0;have z0:=h1.lt;obtain⟨ls,hls⟩:∃ ls,Hid (ls=Zd us):=⟨_,rfl⟩;have hn:Hid (ls.length=us.length):=Hd (by rw[hls.out,Zg]);rw[<-hls.out] at hP;have MA:Hid (∀ k src,(last::us)[k]?=some src->(Wv co us last)[k]?=some ((us++[0]).map fun dst=>XH co us last src dst)):=fun k src h=>by
  unfold Wv;rw[List.getElem?_map,h];rfl
 have ML:Hid ((Wv co us last).length=ls.length+1):=Hd (by unfold Wv;rw[List.length_map,List.length_cons,hn.out]);have EU:=Hd (fun(src dst:Nat) (hd:dst∈us)=>Zis (rows:=co) (src:=src) hd hl h0);have EH:=Hd (fun(src:Nat)=>Zgn (rows:=co) (last:=last) (src:=src) h0);have LB:Hid (∀ k src,(last::us)[k]?=some src->src<co.length):=fun k src h=>by
  rcases List.mem_cons.1 (List.mem_of_getElem? h) with h | h
  ·omega
  ·exact hus _ h
 have hn24:ls.length<=24:=by rw[hn.out];exact hl24
 rw[<-hn.out];unfold Zi1;have l2:=rok.n2;obtain⟨i0,hi,hz0,hz1,hz2⟩:=info_parts (VU);replace hi:=Hd hi;replace hz0:=Hd hz0;replace hz1:=Hd hz1;replace hz2:=Hd hz2;generalize Wv co us last=MT at *;replace rok:=Hd rok;replace hC:=Hd hC;replace hP:=Hd hP;replace hus:=Hd hus;replace h1:=Hd h1;replace hl:=Hd hl;replace h0:=Hd h0;clear hl24;have OL:=Hd (ZdM (w:=w) (last:Int));go_enter Tryz.func300,Tryz.ntmps300;go_wp2_with (at_builtin;(refine ZG _ rfl _ _ rfl w.heap.size (some ⟨w.heap.size,0,none⟩) 1 1 [(last:Int)] ls P c rfl rfl rfl ?_ ?_ ?_ ?_ ?_;(exact OL.out);(exact hP.out.ext ((Ext.rf _).alloc _));(simp;omega);(simp);rintro A1 c1 w1 o1 g1 _;have Y1:Ext w w1:=Ext.grow (a:=w) ((Ext.rf w).alloc _) g1 (fun kk hkk=>(OL.out.lt kk hkk).1)));have X1:=Hd Y1;have B1:=Hd Y1.size;have o1r:Hid (RdI w1 A1 (Zd (last::us))):=Hd (by
  have h:=o1.read;rw[hls.out] at h;exact h)
 have LEN:Hid ((Zd (last::us)).length=ls.length+1):=Hd (by rw[Zg,hn.out];rfl);clear o1 g1 Y1;have START:Hid (OwV w1 w1.heap.size 22 1 none 0 0 []/\RowsO w1 w1.heap.size [] (MT.take 0)/\RowsD []/\Ext w1 w1):=⟨OwV.nil _ _ _ _,RowsO.nil _ _,RowsD.nil,Ext.rf _⟩;go_loopw [7,19] (fun mv v wr=>∃ (k:Nat) (M':Option Addr) (mc:Nat) (ws:List Value),v=.int .i64 k/\mv=.slice M' k mc/\k<=ls.length+1/\Hid (OwV wr w1.heap.size 22 1 M' k mc ws/\RowsO wr w1.heap.size ws (MT.take k)/\RowsD ws/\Ext w1 wr)) (fun _ v _=>ls.length+1-(intOf v).toNat)
 case atStart=>exact⟨0,none,0,[],rfl,rfl,by omega,START⟩
 case round =>
  obtain⟨wp,rfl⟩:∃ wp:World,wp=wr:=⟨_,rfl⟩;obtain⟨k,M',mc,ws,rfl,rfl,hk,HH⟩:=hrel;clear START;obtain⟨oV,oR,oD,YP⟩:=HH.out;have XP:=Hd (X1.out.tr YP)
  by_cases hkn:k<ls.length+1
  ·have q1:(k:Int)<(ls.length:Int)+1:=by omega
   obtain⟨src,es⟩:∃ src,(last::us)[k]?=some src:=⟨_,List.getElem?_eq_getElem (by rw[List.length_cons,<-hn.out];exact hkn)⟩;obtain⟨ab,ao,sv,rfl,za,ca,ea,_⟩:=(o1r.out.ext YP).at (k:=k) (by rw[LEN.out];exact hkn);obtain rfl:sv=(src:Int):=by
    have h:=ea.out;rw[ZD es] at h;exact(Option.some.inj h).symm
   have hsl:=LB.out k src es;obtain⟨cb,cof,D',row,d',rfl,zcb,cD,er,_,rD,iD,ld,md⟩:=(hC.out.ext XP.out fun _ _ h=>h.ext XP.out).ints hsl;have hmem:=List.mem_of_getElem? er.out;have lrow:=Hd (rok.out.row row hmem);have hrow:Hid (∀ dst,Za co src dst=row.getD dst 0):=fun dst=>by unfold Za;rw[QJ er.out]
   have etk:Hid (MT.take (k+1)=MT.take k++[(us++[0]).map fun dst=>XH co us last src dst]):=Hd (by rw[List.take_add_one,MA.out k src es];rfl);have z1p:=YP.size;have S0:Hid (OwI wp wp.heap.size none 0 []):=OwI.nil _ _;have X0:Hid (Ext wp wp):=Ext.rf _;have q2:(src:Int)<(co.length:Int):=by omega
   have tg:wp.cell? ⟨g,0,none⟩=some (.slice (some ⟨cb,cof,none⟩) co.length d):=Zc XP.out z0 t0;have zg:g<wp.heap.size:=by have:=XP.out.size;omega
   replace oV:=Hd oV;replace oR:=Hd oR;replace oD:=Hd oD;replace YP:=Hd YP;replace rD:=Hd rD;have zD:=World.block_lt_of_cell? _ _ cD;clear er hmem HH ea es;go_wp2_with (fail);go_loopw [10,25] (fun rv v wr=>∃ (j:Nat) (R':Option Addr) (rc:Nat) (xs:List Int),v=.int .i64 j/\rv=.slice R' xs.length rc/\j<=ls.length/\Hid (xs=(us.take j).map fun dst=>XH co us last src dst)/\Hid (OwI wr wp.heap.size R' rc xs)/\Hid (Ext wp wr)) (fun _ v _=>ls.length-(intOf v).toNat)
   case atStart=>exact⟨0,none,0,[],rfl,rfl,by omega,rfl,S0,by(repeat (first | assumption | exact Ext.rf _ | apply Ext.drew | apply Ext.drewN | apply Ext.alloc))⟩
   case round =>
    obtain⟨wi,rfl⟩:∃ wi:World,wi=wr:=⟨_,rfl⟩;obtain⟨j,R',rc,xs,rfl,rfl,hj,hxs,oX,YI⟩:=hrel;clear S0 X0;have lx24:xs.length<=24:=by rw[hxs.out,List.length_map,List.length_take];omega
    have zpi:=YI.out.size;have tg2:=Zc YI.out zg tg;have cD2:=Zc YI.out zD cD
    by_cases hjl:j<ls.length
    ·have q3:(j:Int)<(ls.length:Int):=by omega
     have hju:j<us.length:=by rw[<-hn.out];exact hjl
     have ej:us[j]?=some us[j]:=List.getElem?_eq_getElem hju;have hjs:=hus.out _ (List.getElem_mem hju);have ENT:=EU.out src _ (List.getElem_mem hju);have hxs2:Hid (xs++[XH co us last src us[j]]=(us.take (j+1)).map fun dst=>XH co us last src dst):=Hd (by
      rw[List.take_add_one,ej,List.map_append,<-hxs.out];rfl)
     generalize us[j]=dst at *;obtain⟨lb,lo,xk,rfl,zl,ck,exk,_⟩:=((hP.out.ext XP.out).ext YI.out).at (k:=j) hjl;obtain rfl:xk=(dst:Int):=by
      have h:=exk.out;rw[hls.out,ZD ej] at h;exact(Option.some.inj h).symm
     obtain⟨rb,ro,y,rfl,zy,cy,ey,_⟩:=(rD.out.ext YI.out).at (k:=dst) (by rw[lrow.out];exact hjs);rw[hrow.out,getD_some ey.out] at ENT;have q4:(dst:Int)<(row.length:Int):=by rw[lrow.out];omega
     clear exk ej ey hjs hxs hju
     by_cases hsd:src=dst
     ·rw[if_pos hsd] at ENT
      rw[ENT] at hxs2;subst hsd;clear ENT;go_wp2_with (at_builtin;(refine ZG _ rfl _ _ rfl wp.heap.size R' xs.length rc xs [-1] (some ⟨wi.heap.size,0,none⟩) 1 rfl rfl rfl ?_ ?_ ?_ ?_ ?_;(exact oX.out.ext ((Ext.rf _).alloc _));(exact .blk (.new (by simp)) rfl);(simp;omega);(simp;omega);rintro A7 c7 w7 o7 g7 _;have Y7:Ext wp w7:=Ext.grow (a:=wp) (YI.out.alloc _) g7 (fun kk hkk=>(oX.out.lt kk hkk).1)));have O7:Hid (OwI w7 wp.heap.size A7 c7 (xs++[-1])):=o7;replace Y7:=Hd Y7;clear o7 g7;go_wp2_with (fail);go_roundw
      case rel=>exact⟨j+1,A7,c7,xs++[-1],by go_num,by first | rfl | simp,by omega,hxs2,OwI.ext O7.out (by(repeat (first | assumption | exact Ext.rf _ | apply Ext.drew | apply Ext.drewN | apply Ext.alloc))),Ext.tr Y7.out (by(repeat (first | assumption | exact Ext.rf _ | apply Ext.drew | apply Ext.drewN | apply Ext.alloc)))⟩
      case measure=>simp[intOf];omega
     ·rw[if_neg hsd] at ENT
      rw[ENT] at hxs2;have hsd2:((src:Int)==(dst:Int))=false:=by simp;omega
      have hsd3:¬((src:Int)=(dst:Int)):=by omega
      clear ENT;go_wp2_with (at_builtin;(refine ZG _ rfl _ _ rfl wp.heap.size R' xs.length rc xs [y] (some ⟨wi.heap.size,0,none⟩) 1 rfl rfl rfl ?_ ?_ ?_ ?_ ?_;(exact oX.out.ext ((Ext.rf _).alloc _));(exact .blk (.new (by simp)) rfl);(simp;omega);(simp;omega);rintro A7 c7 w7 o7 g7 _;have Y7:Ext wp w7:=Ext.grow (a:=wp) (YI.out.alloc _) g7 (fun kk hkk=>(oX.out.lt kk hkk).1)));have O7:Hid (OwI w7 wp.heap.size A7 c7 (xs++[y])):=o7;replace Y7:=Hd Y7;clear o7 g7;go_wp2_with (fail);go_roundw
      case rel=>exact⟨j+1,A7,c7,xs++[y],by go_num,by first | rfl | simp,by omega,hxs2,OwI.ext O7.out (by(repeat (first | assumption | exact Ext.rf _ | apply Ext.drew | apply Ext.drewN | apply Ext.alloc))),Ext.tr Y7.out (by(repeat (first | assumption | exact Ext.rf _ | apply Ext.drew | apply Ext.drewN | apply Ext.alloc)))⟩
      case measure=>simp[intOf];omega
    ·obtain rfl:j=ls.length:=by omega
     have hxs2:Hid (xs=us.map fun dst=>XH co us last src dst):=by
      have h:=hxs.out;rw[hn.out,List.take_length] at h;exact h
     have hxs4:Hid (xs++[XH co us last src 0]=(us++[0]).map fun dst=>XH co us last src dst):=Hd (by rw[List.map_append,<-hxs2.out];rfl);have ENT:=EH.out src;obtain⟨rb,ro,y,rfl,zy,cy,ey,_⟩:=(rD.out.ext YI.out).at (k:=0) (by rw[lrow.out];omega);rw[hrow.out,getD_some ey.out] at ENT;rw[Nat.add_zero] at cy;have q4:(0:Int)<(row.length:Int):=by rw[lrow.out];omega
     have q5:0<row.length:=by omega
     clear ey hxs hxs2
     by_cases hsl2:src=last
     ·rw[if_pos hsl2] at ENT
      have hxs3:=hxs4;rw[ENT] at hxs3;subst hsl2;clear ENT hxs4;go_wp2_with (first
       | (at_builtin;(refine ZG _ rfl _ _ rfl wp.heap.size R' xs.length rc xs [-1] (some ⟨wi.heap.size,0,none⟩) 1 rfl rfl rfl ?_ ?_ ?_ ?_ ?_;(exact oX.out.ext ((Ext.rf _).alloc _));(exact .blk (.new (by simp)) rfl);(simp;omega);(simp;omega);rintro A7 c7 w7 o7 g7 _;have Y7:Ext wp w7:=Ext.grow (a:=wp) (YI.out.alloc _) g7 (fun kk hkk=>(oX.out.lt kk hkk).1);have z7:=Y7.size;have M5:=Hd ((oV.out.ext Y7).ext ((Ext.rf w7).alloc (.cells #[.slice A7 (xs.length+1) c7] 22)))))
       | (at_builtin;(refine Yd _ (e:=22) Tryz.underlying23 hi.out hz0.out hz1.out hz2.out (by simp[Value.cells]) (by omega) rfl _ _ rfl w1.heap.size M' k mc ws (some ⟨w7.heap.size,0,none⟩) 1 1 [.slice A7 (xs.length+1) c7] rfl rfl M5.out (RdV.blk (.new (by simp))).rdC (by simp) (by simp[Value.oneCell']) (by simp only[maxLen];omega) (by omega) (by simp;omega) ?_;rintro C6 c6 w6 o6 g6 _)))
      have M6:=M5.out.grownT g6;have X6:=Hd (Y7.alloc (.cells #[.slice A7 (xs.length+1) c7] 22));have O7:OwI w7 wp.heap.size A7 c7 (xs++[-1]):=o7;have L7:(xs++[-1]).length=xs.length+1:=by simp
      have NEW:Hid (OwV w6 w1.heap.size 22 1 C6 (k+1) c6 (ws++[.slice A7 (xs.length+1) c7])/\RowsO w6 w1.heap.size (ws++[.slice A7 (xs.length+1) c7]) (MT.take (k+1))/\RowsD (ws++[.slice A7 (xs.length+1) c7])/\Ext w1 w6):=by
       rw[<-L7];refine⟨by rw[L7];exact o6,?_,oD.out.snoc oR.out O7,(YP.out.tr X6.out).modT M6 (Nat.le_refl _)⟩;rw[etk.out,<-hxs3.out];exact((oR.out.ext X6.out).modT M6 (by decide)).snoc (((O7.more z1p).ext ((Ext.rf _).alloc _)).modT M6 (by decide))
      clear o6 g6 M6 o7 g7 O7 L7 Y7 M5;go_wp2_with (fail);go_roundw
      case rel=>exact⟨k+1,C6,c6,_,by go_num,rfl,by omega,NEW⟩
      case measure=>simp[intOf];omega
     ·rw[if_neg hsl2] at ENT
      have hxs3:=hxs4;rw[ENT] at hxs3;have hsd2:((src:Int)==(last:Int))=false:=by simp;omega
      have hsd3:¬((src:Int)=(last:Int)):=by omega
      clear ENT hxs4;go_wp2_with (first
       | (at_builtin;(refine ZG _ rfl _ _ rfl wp.heap.size R' xs.length rc xs [y] (some ⟨wi.heap.size,0,none⟩) 1 rfl rfl rfl ?_ ?_ ?_ ?_ ?_;(exact oX.out.ext ((Ext.rf _).alloc _));(exact .blk (.new (by simp)) rfl);(simp;omega);(simp;omega);rintro A7 c7 w7 o7 g7 _;have Y7:Ext wp w7:=Ext.grow (a:=wp) (YI.out.alloc _) g7 (fun kk hkk=>(oX.out.lt kk hkk).1);have z7:=Y7.size;have M5:=Hd ((oV.out.ext Y7).ext ((Ext.rf w7).alloc (.cells #[.slice A7 (xs.length+1) c7] 22)))))
       | (at_builtin;(refine Yd _ (e:=22) Tryz.underlying23 hi.out hz0.out hz1.out hz2.out (by simp[Value.cells]) (by omega) rfl _ _ rfl w1.heap.size M' k mc ws (some ⟨w7.heap.size,0,none⟩) 1 1 [.slice A7 (xs.length+1) c7] rfl rfl M5.out (RdV.blk (.new (by simp))).rdC (by simp) (by simp[Value.oneCell']) (by simp only[maxLen];omega) (by omega) (by simp;omega) ?_;rintro C6 c6 w6 o6 g6 _)))
      have M6:=M5.out.grownT g6;have X6:=Hd (Y7.alloc (.cells #[.slice A7 (xs.length+1) c7] 22));have O7:OwI w7 wp.heap.size A7 c7 (xs++[y]):=o7;have L7:(xs++[y]).length=xs.length+1:=by simp
      have NEW:Hid (OwV w6 w1.heap.size 22 1 C6 (k+1) c6 (ws++[.slice A7 (xs.length+1) c7])/\RowsO w6 w1.heap.size (ws++[.slice A7 (xs.length+1) c7]) (MT.take (k+1))/\RowsD (ws++[.slice A7 (xs.length+1) c7])/\Ext w1 w6):=by
       rw[<-L7];refine⟨by rw[L7];exact o6,?_,oD.out.snoc oR.out O7,(YP.out.tr X6.out).modT M6 (Nat.le_refl _)⟩;rw[etk.out,<-hxs3.out];exact((oR.out.ext X6.out).modT M6 (by decide)).snoc (((O7.more z1p).ext ((Ext.rf _).alloc _)).modT M6 (by decide))
      clear o6 g6 M6 o7 g7 O7 L7 Y7 M5;go_wp2_with (fail);go_roundw
      case rel=>exact⟨k+1,C6,c6,_,by go_num,rfl,by omega,NEW⟩
      case measure=>simp[intOf];omega
  ·obtain rfl:k=ls.length+1:=by omega
   have F:Hid (RowsO wp w.heap.size ws MT):=by
    have h:=oR;rw[<-ML.out,List.take_length] at h;exact h.more B1.out
   have V:=Hd (oV.more B1.out);replace oD:=Hd oD;clear HH oV oR;go_wp2_with (fail);go_ret;exact⟨M',mc,ws,rfl,V.out.ext (by(repeat (first | assumption | exact Ext.rf _ | apply Ext.drew | apply Ext.drewN | apply Ext.alloc))),F.out.ext (by(repeat (first | assumption | exact Ext.rf _ | apply Ext.drew | apply Ext.drewN | apply Ext.alloc))),oD.out,XP.out.tr (by(repeat (first | assumption | exact Ext.rf _ | apply Ext.drew | apply Ext.drewN | apply Ext.alloc)))⟩
theorem Za4 {w:World}{cb cof:Nat}{co:List (List Int)}(hC:RdE 1 RInts w (some ⟨cb,cof,none⟩) co)(rok:RowsOk co){a:Nat}(ha:a<co.length) : ∃ rb ro d',w.cell? ⟨cb,cof+a,none⟩=some (.slice (some ⟨rb,ro,none⟩) co.length d')/\cb<w.heap.size/\rb<w.heap.size/\∀ x,x<co.length->w.cell? ⟨rb,ro+x,none⟩=some (.int .i64 (Za co a x)):=by
 obtain⟨cb',cof',D',row,d',hq,_,cD,er,_,rD,iD,ld,md⟩:=hC.ints ha;obtain⟨rfl,rfl⟩:cb=cb'/\cof=cof':=by simpa using hq
 have lrow:=rok.row row (List.mem_of_getElem? er.out);have l1:=rok.n1;obtain⟨rb,ro,y,rfl,zy,_,_,_⟩:=rD.at (k:=0) (by omega);refine⟨rb,ro,d',by rw[<-lrow];exact cD,World.block_lt_of_cell? _ _ cD,zy,fun x hx=>?_⟩;obtain⟨rb',ro',y,hq2,zy,cy,ey,_⟩:=rD.at (k:=x) (by omega);obtain⟨rfl,rfl⟩:rb=rb'/\ro=ro':=by simpa using hq2
 unfold Za;rw[QJ er.out,getD_some ey.out];exact cy
theorem Zaa (f:Nat->Int)(u:Nat)(q:List Nat)(h:0<=f u) : Zs f (f u) (u::q)=Zs f (-1) (u::q):=by
 have e:∀ d:Int,Zs f d (u::q)=Zs f (if d<0 then f u else if f u<d then f u else d) q:=fun d=>rfl
 rw[e,e,if_neg (by omega),if_neg (by omega),if_pos (by omega)]
theorem Zgo {co:List (List Int)}{us:List Nat}{last:Nat}{u:Nat}{q:List Nat}(hu:us=u::q)(num:∀ v∈us,0<=Za co last v/\0<=Za co v 0){s o i:Int}(h:U0 co us last us (0,Za co last u,Za co u 0)=(s,o,i)) : s+o+i=Xv co us last:=by
 have hn:=num u (by rw[hu];exact List.mem_cons_self);rw[ZdD co us last us _ _ _ hn.1 hn.2 num] at h
 injection h with h1 h2
 injection h2 with h2 h3
 unfold Xv;rw[<-h1,<-h2,<-h3];have e1:=Zaa (fun v=>Za co last v) u q hn.1;have e2:=Zaa (fun v=>Za co v 0) u q hn.2;rw[<-hu] at e1 e2;rw[e1,e2];omega
theorem Zgp (co:List (List Int))(us:List Nat)(last u:Nat) : (((us.filter fun x=>decide (u≠x)).map fun v=>Za co u v).foldl Yp (min (Za co u last) (Za co u 0),max (Za co u last) (Za co u 0)))=ZO co us last u:=by
 rw[List.foldl_map]
 rfl
theorem Zgq (w:World)(g:Nat)(mi:Bool)(co:List (List Int))(H:CiB w g mi co)(rok:RowsOk co)(P:Option Addr)(c:Nat)(us:List Nat)(last:Nat)(hP:RdI w P (Zd us))(hne:us≠[])(hus:∀ u∈us,u<co.length)(hla:last<co.length)(hl24:us.length<=24) :
  Calls Tryz.prog 301 #[.pointer (some ⟨g,0,none⟩),.slice P us.length c,.int .i64 last] w fun e w'=>e=.returned (.int .i64 (Xv co us last))/\Ext w w':=by
 obtain⟨C,d,h1,hd1,hd2,hC⟩:=H;have l1:=rok.n1;have t0:=h1.c0;have z0:=h1.lt;obtain⟨cb,cof,rfl⟩:∃ cb cof,C=some ⟨cb,cof,none⟩:=by
  obtain⟨cb,cof,D',row,d',h,_⟩:=hC.ints (show 0<co.length by omega);exact⟨cb,cof,h⟩
 obtain⟨ls,hls⟩:∃ ls,Hid (ls=Zd us):=⟨_,rfl⟩;have hn:Hid (ls.length=us.length):=Hd (by rw[hls.out,Zg]);rw[<-hls.out] at hP;rw[<-hn.out];have hn24:ls.length<=24:=by rw[hn.out];exact hl24
 have ln0:0<ls.length:=by rw[hn.out];cases us with
  | nil=>exact absurd rfl hne
  | cons a l=>simp
 have ln1:(0:Int)<(ls.length:Int):=by omega
 obtain⟨u0,q0,hu0⟩:∃ u q,Hid (us=u::q):=by
  cases us with
  | nil=>exact absurd rfl hne
  | cons a l=>exact⟨a,l,rfl⟩
 have hu0l:=hus u0 (by rw[hu0.out];exact List.mem_cons_self);obtain⟨lb,lo,xk,rfl,zl,ck,exk,_⟩:=hP.at (k:=0) ln0;obtain rfl:xk=(u0:Int):=by
  have h:=exk.out;rw[hls.out,hu0.out] at h;simp[Zd] at h;exact h.symm
 rw[Nat.add_zero] at ck;obtain⟨rb,ro,rd,cr,zc,zr,CR⟩:=Za4 hC rok hla;obtain⟨sb,so,sd,cs,_,zs,CS⟩:=Za4 hC rok hu0l;have c1:=CR u0 hu0l;have c2:=CS 0 (by omega);rw[Nat.add_zero] at c2;have i1:(last:Int)<(co.length:Int):=by omega
 have i2:(u0:Int)<(co.length:Int):=by omega
 have i3:(0:Int)<(co.length:Int):=by omega
 have i4:0<co.length:=by omega
 have bd:=Hd (fun(a b:Nat) (ha:a<co.length) (hb:b<co.length)=>Zcx rok a b ha hb);have S0:Hid (U0 co us last (us.drop 0) (0,Za co last u0,Za co u0 0)=U0 co us last us (0,Za co last u0,Za co u0 0)):=rfl;have b1:=bd.out last u0 hla hu0l;have b2:=bd.out u0 0 hu0l (by omega);have FIN:Hid (∀ s o i,U0 co us last us (0,Za co last u0,Za co u0 0)=(s,o,i)->s+o+i=Xv co us last):=fun s o i h=>Zgo hu0.out (fun v hv=>⟨(bd.out last v hla (hus v hv)).1,(bd.out v 0 (hus v hv) (by omega)).1⟩) h
 generalize U0 co us last us (0,Za co last u0,Za co u0 0)=fin_ at *;generalize Xv co us last=tot at *;generalize Za co last u0=A0 at *;generalize Za co u0 0=B0 at *;replace hC:=Hd hC;replace hP:=Hd hP;replace rok:=Hd rok;replace hus:=Hd hus;replace h1:=Hd h1;clear CR CS exk hl24 hne;go_enter Tryz.func301,Tryz.ntmps301;go_wp2_with (fail);go_region_held3 (fun w'=>w'.cell? ⟨g,0,none⟩=some (.slice (some ⟨cb,cof,none⟩) co.length d)/\w'.cell? ⟨lb,lo,none⟩=some (.int .i64 u0)/\w'.cell? ⟨cb,cof+last,none⟩=some (.slice (some ⟨rb,ro,none⟩) co.length rd)/\w'.cell? ⟨cb,cof+u0,none⟩=some (.slice (some ⟨sb,so,none⟩) co.length sd)/\w'.cell? ⟨rb,ro+u0,none⟩=some (.int .i64 A0)/\w'.cell? ⟨sb,so,none⟩=some (.int .i64 B0)) (go_keep) (fail);go_wp2_with (fail);go_loopw [7,8,9,42] (fun v7 v8 v9 v42 wr=>∃ (k:Nat) (s o i:Int),v42=.int .i64 k/\v7=.int .i64 s/\v8=.int .i64 o/\v9=.int .i64 i/\k<=ls.length/\(0<=s/\s<=4294967294*k)/\(0<=o/\o<=2147483647)/\(0<=i/\i<=2147483647)/\Hid (U0 co us last (us.drop k) (s,o,i)=fin_)/\Hid (Ext w wr)) (fun _ _ _ v _=>ls.length-(intOf v).toNat)
 case atStart=>exact⟨0,0,A0,B0,rfl,rfl,rfl,rfl,by omega,by omega,by omega,by omega,S0,by(repeat (first | assumption | exact Ext.rf _ | apply Ext.drew | apply Ext.drewN | apply Ext.alloc))⟩
 case round =>
  obtain⟨wo,rfl⟩:∃ wo:World,wo=wr:=⟨_,rfl⟩;clear S0 b1 b2 c1 c2 cr cs;obtain⟨k,s,o,i,rfl,rfl,rfl,rfl,hk,hs,ho,hi,hM,Y⟩:=hrel
  by_cases hlt:k<ls.length
  ·have q1:(k:Int)<(ls.length:Int):=by omega
   have k24:(k:Int)<=24:=by omega
   have hku:k<us.length:=by rw[<-hn.out];exact hlt
   have ej:us[k]?=some us[k]:=List.getElem?_eq_getElem hku;have hjs:=hus.out _ (List.getElem_mem hku);have HM:Hid (U0 co us last (us.drop (k+1)) (s+((ZO co us last us[k]).1+(ZO co us last us[k]).2),min o (Za co last us[k]),min i (Za co us[k] 0))=fin_):=by
    have h:=hM.out;rw[List.drop_eq_getElem_cons hku] at h;exact h
   generalize us[k]=u at *;obtain⟨kb,ko,xk,hq,zk,ck2,exk,_⟩:=(hP.out.ext Y.out).at (k:=k) hlt;obtain⟨rfl,rfl⟩:lb=kb/\lo=ko:=by simpa using hq
   obtain rfl:xk=(u:Int):=by
    have h:=exk.out;rw[hls.out,ZD ej] at h;exact(Option.some.inj h).symm
   obtain⟨ub,uo,ud,cu,zcu,zu,CU⟩:=Za4 (hC.out.ext Y.out fun _ _ h=>h.ext Y.out) rok.out hjs;have tg:wo.cell? ⟨g,0,none⟩=some (.slice (some ⟨cb,cof,none⟩) co.length d):=Zc Y.out z0 t0;have e1:=CU last hla;have e2:=CU 0 (by omega);rw[Nat.add_zero] at e2;have i6:(u:Int)<(co.length:Int):=by omega
   have PF:=Zgp co us last u;have n1:=bd.out u last hjs hla;have n2:=bd.out u 0 hjs (by omega);replace CU:=Hd CU;replace PF:=Hd PF;clear hq exk ej hku hM;obtain⟨x1,hx1⟩:∃ x1,Hid (x1=Za co u last):=⟨_,rfl⟩;obtain⟨x2,hx2⟩:∃ x2,Hid (x2=Za co u 0):=⟨_,rfl⟩;rw[<-hx1.out] at e1 n1;rw[<-hx2.out] at e2 n2;go_wp2_with (fail);go_region_held3 (fun w'=>w'.cell? ⟨g,0,none⟩=some (.slice (some ⟨cb,cof,none⟩) co.length d)/\w'.cell? ⟨cb,cof+u,none⟩=some (.slice (some ⟨ub,uo,none⟩) co.length ud)/\w'.cell? ⟨ub,uo+last,none⟩=some (.int .i64 x1)/\w'.cell? ⟨ub,uo,none⟩=some (.int .i64 x2)) (go_keep) (fail);go_wp2_with (fail);have zg:g<wo.heap.size:=by have:=Y.out.size;omega
   have O0:Hid (OwI (wo.alloc (.cells #[.int .i64 x1,.int .i64 x2] 3)).drew wo.heap.size (some ⟨wo.heap.size,0,none⟩) 2 [x1,x2]):=OwI.ext (ZdN x1 x2) (by(repeat (first | assumption | exact Ext.rf _ | apply Ext.drew | apply Ext.drewN | apply Ext.alloc)));go_loopw [12,68] (fun rv v wr=>∃ (j:Nat) (R':Option Addr) (rc:Nat) (xs:List Int),v=.int .i64 j/\rv=.slice R' xs.length rc/\j<=ls.length/\Hid (xs=x1::x2::((us.take j).filter fun x=>decide (u≠x)).map fun v=>Za co u v)/\Hid (OwI wr wo.heap.size R' rc xs)/\Hid (Ext wo wr)) (fun _ v _=>ls.length-(intOf v).toNat)
   case atStart=>exact⟨0,_,2,[x1,x2],rfl,rfl,by omega,rfl,O0,by(repeat (first | assumption | exact Ext.rf _ | apply Ext.drew | apply Ext.drewN | apply Ext.alloc))⟩
   case round =>
    obtain⟨wi,rfl⟩:∃ wi:World,wi=wr:=⟨_,rfl⟩;clear O0;obtain⟨j,R',rc,xs,rfl,rfl,hj,hxs,oX,YI⟩:=hrel;have lx24:xs.length<=26:=by
     rw[hxs.out,List.length_cons,List.length_cons,List.length_map];have h1:=List.length_filter_le (fun x=>decide (u≠x)) (us.take j);rw[List.length_take] at h1;omega
    have zpi:=YI.out.size;have tg2:=Zc YI.out zg tg;have cu2:=Zc YI.out zcu cu
    by_cases hjl:j<ls.length
    ·have q3:(j:Int)<(ls.length:Int):=by omega
     have hju:j<us.length:=by rw[<-hn.out];exact hjl
     have ej:us[j]?=some us[j]:=List.getElem?_eq_getElem hju;have hjs2:=hus.out _ (List.getElem_mem hju);have FS:(us.take (j+1)).filter (fun x=>decide (u≠x))=(us.take j).filter (fun x=>decide (u≠x))++if decide (u≠us[j])=true then [us[j]] else []:=by
      rw[List.take_add_one,ej,List.filter_append]
      congr 1
      by_cases h:decide (u≠us[j])=true
      ·rw[if_pos h];simp only[Option.toList,List.filter_cons,List.filter_nil,h,if_true]
      ·rw[if_neg h];simp only[Option.toList,List.filter_cons,List.filter_nil,h];rfl
     generalize us[j]=v at *;obtain⟨kb,ko,xk,hq,zk2,ck3,exk,_⟩:=((hP.out.ext Y.out).ext YI.out).at (k:=j) hjl;obtain⟨rfl,rfl⟩:lb=kb/\lo=ko:=by simpa using hq
     obtain rfl:xk=(v:Int):=by
      have h:=exk.out;rw[hls.out,ZD ej] at h;exact(Option.some.inj h).symm
     have e3:=Zc YI.out zu (CU.out v hjs2);have i7:(v:Int)<(co.length:Int):=by omega
     obtain⟨y,hy⟩:∃ y,Hid (y=Za co u v):=⟨_,rfl⟩;rw[<-hy.out] at e3;clear hq exk ej hju
     by_cases hvu:u=v
     ·have hxs2:Hid (xs=x1::x2::((us.take (j+1)).filter fun x=>decide (u≠x)).map fun v=>Za co u v):=by
       have h:xs=x1::x2::((us.take (j+1)).filter fun x=>decide (u≠x)).map fun v=>Za co u v:=by
        rw[FS,if_neg (by simp[hvu]),List.append_nil];exact hxs.out
       exact h
      subst hvu;clear FS hxs;go_wp2_with (fail);go_roundw
      case rel=>exact⟨j+1,R',rc,xs,by go_num,rfl,by omega,hxs2,oX.out.ext (by(repeat (first | assumption | exact Ext.rf _ | apply Ext.drew | apply Ext.drewN | apply Ext.alloc))),YI.out.tr (by(repeat (first | assumption | exact Ext.rf _ | apply Ext.drew | apply Ext.drewN | apply Ext.alloc)))⟩
      case measure=>simp[intOf];omega
     ·have hxs2:Hid (xs++[y]=x1::x2::((us.take (j+1)).filter fun x=>decide (u≠x)).map fun v=>Za co u v):=by
       have h:xs++[y]=x1::x2::((us.take (j+1)).filter fun x=>decide (u≠x)).map fun v=>Za co u v:=by
        rw[FS,if_pos (by simp[hvu]),List.map_append,hxs.out,hy.out];rfl
       exact h
      have h3:¬((v:Int)=(u:Int)):=by omega
      clear FS hxs;go_wp2_with (at_builtin;(refine ZG _ rfl _ _ rfl wo.heap.size R' xs.length rc xs [y] (some ⟨wi.heap.size,0,none⟩) 1 rfl rfl rfl ?_ ?_ ?_ ?_ ?_;(exact oX.out.ext ((Ext.rf _).alloc _));(exact .blk (.new (by simp)) rfl);(simp;omega);(simp;omega);rintro A7 c7 w7 o7 g7 _;have Y7:Ext wo w7:=Ext.grow (a:=wo) (YI.out.alloc _) g7 (fun kk hkk=>(oX.out.lt kk hkk).1)));have O7:Hid (OwI w7 wo.heap.size A7 c7 (xs++[y])):=o7;replace Y7:=Hd Y7;clear o7 g7;go_wp2_with (fail);go_roundw
      case rel=>exact⟨j+1,A7,c7,xs++[y],by go_num,by first | rfl | simp,by omega,hxs2,OwI.ext O7.out (by(repeat (first | assumption | exact Ext.rf _ | apply Ext.drew | apply Ext.drewN | apply Ext.alloc))),Ext.tr Y7.out (by(repeat (first | assumption | exact Ext.rf _ | apply Ext.drew | apply Ext.drewN | apply Ext.alloc)))⟩
      case measure=>simp[intOf];omega
    ·obtain rfl:j=ls.length:=by omega
     obtain⟨lq,hlq⟩:∃ lq,Hid (lq=(us.filter fun x=>decide (u≠x)).map fun v=>Za co u v):=⟨_,rfl⟩;have hx4:xs=x1::x2::lq:=by
      have h:=hxs.out;rw[hn.out,List.take_length] at h;rw[hlq.out];exact h
     have ol:=oX.out.le;have llq:lq.length<=1000:=by rw[hx4] at lx24;simp at lx24;omega
     have TW:=fun(W:World) (x:Ext wi W)=>Zir W R' rc x1 x2 lq (by rw[<-hx4];exact oX.out.read.ext x) (by rw[<-hx4];exact ol.1) ol.2 llq
     rw[<-hx4,hlq.out,hx1.out,hx2.out,PF.out] at TW;have PB:=ZaN (rows:=co) (us:=us) (last:=last) (fun a b ha hb=>bd.out a b ha hb) (by omega) hla hus.out hjs;obtain⟨pa,hpa⟩:∃ pa,Hid (pa=(ZO co us last u).1):=⟨_,rfl⟩;obtain⟨pb,hpb⟩:∃ pb,Hid (pb=(ZO co us last u).2):=⟨_,rfl⟩;rw[<-hpa.out,<-hpb.out] at TW PB HM;replace TW:=Hd TW;obtain⟨vb,vo,vd,cv,zcv,zv,CV⟩:=Za4 ((hC.out.ext Y.out fun _ _ h=>h.ext Y.out).ext YI.out fun _ _ h=>h.ext YI.out) rok.out hla;have e4:=CV u hjs;have e5:=Zc YI.out zu e2;have zgi:g<wi.heap.size:=by omega
     have zui:ub<wi.heap.size:=by omega
     have m1:=bd.out last u hla hjs;obtain⟨y1,hy1⟩:∃ y1,Hid (y1=Za co last u):=⟨_,rfl⟩;rw[<-hy1.out] at e4 m1 HM;rw[<-hx2.out] at HM;have mo:0<=min o y1/\min o y1<=2147483647:=by omega
     have mi2:0<=min i x2/\min i x2<=2147483647:=by omega
     have MN:Hid (∀ a b:Int,(if a<b then a else b)=min b a):=fun a b=>by split<;>omega
     clear hxs hx4 CV PF;go_wp2_with (fail);refine(TW.out _ (by(repeat (first | assumption | exact Ext.rf _ | apply Ext.drew | apply Ext.drewN | apply Ext.alloc)))).mono ?_;rintro e w5 ⟨rfl,x5⟩;have X5:=Hd (Ext.tr (a:=wi) (by(repeat (first | assumption | exact Ext.rf _ | apply Ext.drew | apply Ext.drewN | apply Ext.alloc))) x5);have tg5:=Zc X5.out zgi tg2;have cu5:=Zc X5.out zcv cu2;have cv5:=Zc X5.out zcv cv;have e45:=Zc X5.out zv e4;have e55:=Zc X5.out zui e5;clear x5 tg2 cu2 cv e4 e5 TW;go_wp2_with (fail);go_region_held3 (fun w'=>w'.cell? ⟨g,0,none⟩=some (.slice (some ⟨cb,cof,none⟩) co.length d)/\w'.cell? ⟨cb,cof+u,none⟩=some (.slice (some ⟨ub,uo,none⟩) co.length ud)/\w'.cell? ⟨cb,cof+last,none⟩=some (.slice (some ⟨vb,vo,none⟩) co.length vd)/\w'.cell? ⟨vb,vo+u,none⟩=some (.int .i64 y1)/\w'.cell? ⟨ub,uo,none⟩=some (.int .i64 x2)) (go_keep) (fail);go_wp2_with (fail)
     all_goals
      go_roundw
      case rel=>exact⟨k+1,s+(pa+pb),min o y1,min i x2,by go_num,rfl,by first | rfl | rw[MN.out],by first | rfl | rw[MN.out],by omega,by omega,mo,mi2,HM,(Y.out.tr YI.out).tr (X5.out.tr (by(repeat (first | assumption | exact Ext.rf _ | apply Ext.drew | apply Ext.drewN | apply Ext.alloc))))⟩
      case measure=>simp[intOf];omega
  ·obtain rfl:k=ls.length:=by omega
   have E:Hid (s+o+i=tot):=by
    have h:=hM.out;rw[hn.out,List.drop_length] at h;exact FIN.out s o i h.symm
   have k24:(ls.length:Int)<=24:=by omega
   clear hM;go_wp2_with (fail);go_ret;exact⟨ZM E.out,Y.out.tr (by(repeat (first | assumption | exact Ext.rf _ | apply Ext.drew | apply Ext.drewN | apply Ext.alloc)))⟩
theorem Zit {rows:List (List Int)}{us:List Nat}{last src dst:Nat}(h:0<=Za rows src dst/\Za rows src dst<=2147483647) : -1<=XH rows us last src dst/\XH rows us last src dst<=2147483647:=by
 unfold XH;split<;>omega
theorem Ziu {rows:List (List Int)}{us:List Nat}{last:Nat}(num:∀ a b,a<rows.length->b<rows.length->0<=Za rows a b/\Za rows a b<=2147483647)(h0:0<rows.length)(hl:last<rows.length)(hu:∀ x∈us,x<rows.length) : ∀ r∈Wv rows us last,∀ x∈r,-1<=x/\x<=2147483647:=fun r hr x hx=>by
 unfold Wv at hr;obtain⟨src,hs,rfl⟩:=List.mem_map.1 hr;obtain⟨dst,hd,rfl⟩:=List.mem_map.1 hx;refine Zit (num src dst ?_ ?_)
 ·rcases List.mem_cons.1 hs with rfl | h
  ·exact hl
  ·exact hu _ h
 ·rcases List.mem_append.1 hd with h | h
  ·exact hu _ h
  ·rw[List.mem_singleton.1 h];exact h0
theorem ZdZ (w:World)(g:Nat)(mi:Bool)(co:List (List Int))(H:CiB w g mi co)(rok:RowsOk co)(P:Option Addr)(c:Nat)(p:List Int)(hP:RdI w P p)(m last:Nat)(cost:Int)(hr:Z5 co p=some (m,last,cost)) :
  Calls Tryz.prog 296 #[.pointer (some ⟨g,0,none⟩),.slice P p.length c] w fun e w'=>e=.returned (.int .i64 (YD co mi p).1)/\Ext w w':=by
 have l1:=rok.n1;have l2:=rok.n2;obtain⟨pl,WO⟩:=YK l1 l2 hr;have hS:=WO.sub;have hla:=JF l1 WO;have h0m:0∉Zf m:=fun h=>((WO.rest 0).1 h).1.2 rfl
 have hlen:(Zf m).length<=23:=by have:=WO.len;omega
 have hnl:last∉Zf m:=fun h=>by
  have h1:=(WO.rest last).1 h;rw[WO.last] at h1;rcases Vj pl 0 with e | e
  ·rw[e] at h1;exact h1.1.2 rfl
  ·exact h1.2 e
 have num:=Zcx rok;have lp:p.length<=24:=by
  have:=WO.len;rw[WO.eq,Zg];omega
 have bcost:0<=cost/\cost<=2147483647*24:=by
  have h1:=Zcr num pl 0 (by omega) fun x hx=>(WO.inn x hx).1
  have h2:=WO.len;rw[WO.cost];omega
 have GO:=Hd (fun(W:World) (x:Ext w W)=>Zgm W g mi co (H.ext x) rok P c p (hP.ext x) m last cost hr);have KR:=fun(W:World) (x:Ext w W)=>Za3 W g mi co (H.ext x) (by omega) P c p (hP.ext x) (by omega)
 rw[Jc l1 l2 hr] at KR;unfold Zcz at KR;rw[Zg] at KR;replace KR:=Hd KR;have SQ:=fun(W:World) (x:Ext w W) (A:Option Addr) (ac:Nat) (hA:RdI W A (Zd (Zf m)))=>ZdY W g mi co (H.ext x) rok A ac (Zf m) last hA hS.2 hla hnl h0m (by omega)
 unfold Zi1 at SQ;replace SQ:=Hd SQ;have MT:=Hd (fun(hne:Zf m≠[]) (W:World) (x:Ext w W) (A:Option Addr) (ac:Nat) (hA:RdI W A (Zd (Zf m)))=>Zgq W g mi co (H.ext x) rok A ac (Zf m) last hA hne hS.2 hla (by omega));have bred:=ZaM num (by omega) hla hS.2 (show (Zf m).length<=24 by omega);have bend:=Zdl num (by omega) hla hS.2 (show (Zf m).length<=24 by omega);have RM:=J2 (rows:=co) (us:=Zf m) (last:=last) (fun a b ha hb=>(num a b (by rcases ha with rfl | ha;exact hla;exact hS.2 _ ha) (by rcases hb with rfl | hb;omega;exact hS.2 _ hb)).1) hnl h0m;have MB:=Ziu (us:=Zf m) num (by omega) hla hS.2;have ML:(Wv co (Zf m) last).length=(Zf m).length+1:=by unfold Wv;rw[List.length_map,List.length_cons]
 have MR:∀ r∈Wv co (Zf m) last,r.length=(Zf m).length+1:=fun r hr=>by
  unfold Wv at hr;obtain⟨src,hs,rfl⟩:=List.mem_map.1 hr;rw[List.length_map,List.length_append];rfl
 have e:(YD co mi p).1=cost+(if Zf m=[] then Za co last 0 else if mi=true then max (ZT co (Zf m) last) ((Xv co (Zf m) last+1) / 2) else ZT co (Zf m) last):=by unfold YD;rw[hr]
 obtain⟨tot,ht⟩:∃ tot,Hid (tot=cost+(if Zf m=[] then Za co last 0 else if mi=true then max (ZT co (Zf m) last) ((Xv co (Zf m) last+1) / 2) else ZT co (Zf m) last)):=⟨_,rfl⟩;rw[e,<-ht.out];clear e;obtain⟨C,d,h1,hd1,hd2,hC⟩:=H;have t0:=h1.c0;have t1:=h1.c1;have z0:=h1.lt;obtain⟨cb,cof,rfl⟩:∃ cb cof,C=some ⟨cb,cof,none⟩:=by
  obtain⟨cb,cof,D',row,d',h,_⟩:=hC.ints (show 0<co.length by omega);exact⟨cb,cof,h⟩
 obtain⟨rb,ro,rd,cr,zc,zr,CR⟩:=Za4 hC rok hla;have c1:=CR 0 (by omega);rw[Nat.add_zero] at c1;have b0:=num last 0 hla (by omega);have i1:(last:Int)<(co.length:Int):=by omega
 have i2:(0:Int)<(co.length:Int):=by omega
 have i3:0<co.length:=by omega
 replace h1:=Hd h1;replace hP:=Hd hP;replace hC:=Hd hC;replace rok:=Hd rok;have hsub0:∀ u∈Zf m,u<co.length:=hS.2;clear WO hS h0m hnl num CR hr;obtain⟨y0,hy0⟩:∃ y0,Hid (y0=Za co last 0):=⟨_,rfl⟩;rw[<-hy0.out] at c1 b0 ht;generalize Zf m=us at *;obtain⟨n,hn⟩:∃ n,Hid (n=us.length):=⟨_,rfl⟩;have hn2:n<=23:=by rw[hn.out];exact hlen
 rw[<-hn.out] at KR SQ MT RM MR ML
 by_cases hn0:n=0
 ·have hu0:us=[]:=List.eq_nil_of_length_eq_zero (by rw[<-hn.out];exact hn0)
  have E:Hid (cost+y0=tot):=Hd (by rw[ht.out,if_pos hu0]);subst hn0;clear SQ MT bred bend RM MB ML MR ht hu0;go_enter Tryz.func296,Tryz.ntmps296;go_wp2_with (fail);refine(GO.out _ (by(repeat (first | assumption | exact Ext.rf _ | apply Ext.drew | apply Ext.drewN | apply Ext.alloc)))).mono ?_;rintro e w1 ⟨rfl,x1⟩;have X1:=Hd (Ext.tr (a:=w) (by(repeat (first | assumption | exact Ext.rf _ | apply Ext.drew | apply Ext.drewN | apply Ext.alloc))) x1);clear x1;go_wp2_with (fail);refine(KR.out _ (X1.out.tr (by(repeat (first | assumption | exact Ext.rf _ | apply Ext.drew | apply Ext.drewN | apply Ext.alloc))))).mono ?_;rintro e w2 ⟨A,ac,rfl,oA,x2⟩;have X2:=Hd (X1.out.tr (Ext.tr (by(repeat (first | assumption | exact Ext.rf _ | apply Ext.drew | apply Ext.drewN | apply Ext.alloc))) x2));have d0:=Zc X2.out z0 t0;have dr:=Zc X2.out zc cr;have d1:=Zc X2.out zr c1;clear x2 oA t0 t1 cr c1;go_wp2_with (fail);go_ret;exact⟨ZM E.out,X2.out.tr (by(repeat (first | assumption | exact Ext.rf _ | apply Ext.drew | apply Ext.drewN | apply Ext.alloc)))⟩
 ·have hne:us≠[]:=fun h=>hn0 (by rw[hn.out,h];rfl)
  have bend:=bend hne;replace MT:=Hd (MT.out hne);obtain⟨rv,hrv⟩:∃ rv,Hid (rv=ZT co us last):=⟨_,rfl⟩;obtain⟨ev,hev⟩:∃ ev,Hid (ev=Xv co us last):=⟨_,rfl⟩;have ht2:Hid (tot=cost+(if mi=true then max rv ((ev+1) / 2) else rv)):=by
   have h:=ht.out;rw[if_neg hne,<-hrv.out,<-hev.out] at h;exact h
  rw[<-hrv.out] at RM bred;rw[<-hev.out] at MT bend;have ne1:¬((n:Int)=0):=by omega
  have RD:=Hd (fun(base:Nat) (M:Option Addr) (mc:Nat) (ws:List Value) (W:World) (hb:base<=W.heap.size) (hV:RdV W 22 M ws) (hR:RowsO W base ws (Wv co us last)) (hD:RowsD ws)=>by
   have h:=J9 base M (n+1) mc (n+1) ws (Wv co us last) W hb hV hR hD ML (by omega) (by omega) MR (by omega) MB;rw[RM] at h;exact h)
  unfold Uw at RD;clear RM MB ML MR ht hne;go_enter Tryz.func296,Tryz.ntmps296;go_wp2_with (fail);refine(GO.out _ (by(repeat (first | assumption | exact Ext.rf _ | apply Ext.drew | apply Ext.drewN | apply Ext.alloc)))).mono ?_;rintro e w1 ⟨rfl,x1⟩;have X1:=Hd (Ext.tr (a:=w) (by(repeat (first | assumption | exact Ext.rf _ | apply Ext.drew | apply Ext.drewN | apply Ext.alloc))) x1);clear x1;go_wp2_with (fail);refine(KR.out _ (X1.out.tr (by(repeat (first | assumption | exact Ext.rf _ | apply Ext.drew | apply Ext.drewN | apply Ext.alloc))))).mono ?_;rintro e w2 ⟨A,ac,rfl,oA,x2⟩;have X2:=Hd (X1.out.tr (Ext.tr (by(repeat (first | assumption | exact Ext.rf _ | apply Ext.drew | apply Ext.drewN | apply Ext.alloc))) x2));have rA:=Hd oA.read;clear x2 oA;go_wp2_with (fail);refine(SQ.out _ (X2.out.tr (by(repeat (first | assumption | exact Ext.rf _ | apply Ext.drew | apply Ext.drewN | apply Ext.alloc)))) A ac (rA.out.ext (by(repeat (first | assumption | exact Ext.rf _ | apply Ext.drew | apply Ext.drewN | apply Ext.alloc))))).mono ?_;rintro e w3 ⟨M,mc,ws,rfl,oV,oR,oD,x3⟩;have X3:=Hd (X2.out.tr (Ext.tr (by(repeat (first | assumption | exact Ext.rf _ | apply Ext.drew | apply Ext.drewN | apply Ext.alloc))) x3));have Y3:=Hd (Ext.tr (a:=w2) (by(repeat (first | assumption | exact Ext.rf _ | apply Ext.drew | apply Ext.drewN | apply Ext.alloc))) x3);replace oV:=Hd oV;replace oR:=Hd oR;replace oD:=Hd oD;have z3:=Y3.out.size;clear x3;go_wp2_with (fail);refine(RD.out w2.heap.size M mc ws _ (by first | exact z3 | (simp;exact z3)) (oV.out.ext (by(repeat (first | assumption | exact Ext.rf _ | apply Ext.drew | apply Ext.drewN | apply Ext.alloc)))).read (oR.out.ext (by(repeat (first | assumption | exact Ext.rf _ | apply Ext.drew | apply Ext.drewN | apply Ext.alloc)))) oD.out).mono ?_;rintro e w4 ⟨rfl,x4⟩;have Y4:Hid (Ext w2 w4):=Ext.below2 (Ext.rf w2) (Y3.out.tr (by(repeat (first | assumption | exact Ext.rf _ | apply Ext.drew | apply Ext.drewN | apply Ext.alloc)))) x4;have X4:=Hd (X2.out.tr Y4.out);have d1:=Zc X4.out z0 t1;clear x4 oV oR oD Y3 X3
  cases mi with
  | false =>
   have E:Hid (cost+rv=tot):=ht2.out.symm;go_wp2_with (fail);go_ret;exact⟨ZM E.out,X4.out.tr (by(repeat (first | assumption | exact Ext.rf _ | apply Ext.drew | apply Ext.drewN | apply Ext.alloc)))⟩
  | true =>
   have hq:(ev+1).tdiv 2=(ev+1) / 2:=Int.tdiv_eq_ediv_of_nonneg (by omega);have hw2:IntKind.i64.wrap ((ev+1) / 2)=(ev+1) / 2:=IntWalk.i64_in _ (by omega);have hmax:(if rv<(ev+1) / 2 then(ev+1) / 2 else rv)=max rv ((ev+1) / 2):=by split<;>omega
   obtain⟨mv,hmv⟩:∃ mv,Hid (max rv ((ev+1) / 2)=mv):=⟨_,rfl⟩;have bmv:0<=mv/\mv<=4294967294*100:=by rw[<-hmv.out];omega
   rw[hmv.out] at hmax;have E:Hid (cost+mv=tot):=by
    have h:=ht2.out;rw[if_pos rfl,hmv.out] at h;exact h.symm
   go_wp2_with (fail);refine(MT.out _ (X4.out.tr (by(repeat (first | assumption | exact Ext.rf _ | apply Ext.drew | apply Ext.drewN | apply Ext.alloc)))) A ac (rA.out.ext (Y4.out.tr (by(repeat (first | assumption | exact Ext.rf _ | apply Ext.drew | apply Ext.drewN | apply Ext.alloc)))))).mono ?_;rintro e w5 ⟨rfl,x5⟩;have X5:=Hd (X4.out.tr (Ext.tr (by(repeat (first | assumption | exact Ext.rf _ | apply Ext.drew | apply Ext.drewN | apply Ext.alloc))) x5));clear x5;go_wp2_with (fail);go_ret;exact⟨ZM E.out,X5.out.tr (by(repeat (first | assumption | exact Ext.rf _ | apply Ext.drew | apply Ext.drewN | apply Ext.alloc)))⟩
theorem ZcF (i:InstP)(us:List Value)(P:Option Addr)(c:Nat)(x:List Int)(w:World)(H:RInst w us i)(hc:Zh i=0)(lx:¬(x.length:Int)=i.n) :
  Calls Tryz.prog 56 #[.agg (List.toArray us),.slice P x.length c] w fun e w'=>e=.returned (.tuple #[.int .i64 (ZV i x).1,.int .i64 (ZV i x).2.1,.int .i64 (ZV i x).2.2])/\Ext w w':=by
 rw[Zhw hc lx];obtain⟨kind,nn,cap,xw,xv,co⟩:=i;obtain⟨A,a,B,b,D,d,rfl,-,-,-⟩:=H;simp only at *;have e1:((x.length:Int)==nn)=false:=by simpa using lx
 clear hc;go_enter Tryz.func56,Tryz.ntmps56;go_wp2_with (fail);go_ret3;exact⟨rfl,by(repeat (first | assumption | exact Ext.rf _ | apply Ext.drew | apply Ext.drewN | apply Ext.alloc))⟩
theorem ZcG (i:InstP)(us:List Value)(P:Option Addr)(c:Nat)(x:List Int)(w:World)(H:RInst w us i)(hc:Zh i=0)(hk:i.kind=1)(hP:RdI w P x)(lx:(x.length:Int)=i.n) :
  Calls Tryz.prog 56 #[.agg (List.toArray us),.slice P x.length c] w fun e w'=>e=.returned (.tuple #[.int .i64 (ZV i x).1,.int .i64 (ZV i x).2.1,.int .i64 (ZV i x).2.2])/\Ext w w':=by
 have WE:=Hd (fun(W:World) (y:Ext w W)=>Ze0 i us P c x W (H.ext y) (ZR hc hk) (hP.ext y) lx);rw[Ze1 hc hk lx];obtain⟨RES,hR⟩:∃ RES,Hid (Uu i x=RES):=⟨_,rfl⟩;rw[hR.out] at WE ⊢;clear hR hP hc;obtain⟨r1,r2,r3⟩:=RES;obtain⟨kind,nn,cap,xw,xv,co⟩:=i;obtain⟨A,a,B,b,D,d,rfl,-,-,-⟩:=H;simp only at *;subst hk;replace lx:=Hd lx;have e1:((x.length:Int)==nn)=true:=by rw[lx.out];simp
 go_enter Tryz.func56,Tryz.ntmps56;go_wp2_with (fail);refine(WE.out _ (by(repeat (first | assumption | exact Ext.rf _ | apply Ext.drew | apply Ext.drewN | apply Ext.alloc)))).mono ?_;rintro e w1 ⟨rfl,x1⟩;have X1:=Hd (Ext.tr (a:=w) (by(repeat (first | assumption | exact Ext.rf _ | apply Ext.drew | apply Ext.drewN | apply Ext.alloc))) x1);clear x1 WE;go_wp2_with (fail);go_ret3;exact⟨rfl,X1.out.tr (by(repeat (first | assumption | exact Ext.rf _ | apply Ext.drew | apply Ext.drewN | apply Ext.alloc)))⟩
theorem Zd0 (i:InstP)(us:List Value)(P:Option Addr)(c:Nat)(x:List Int)(w:World)(H:RInst w us i)(hc:Zh i=0)(hP:RdI w P x)(lc:x.length<=c)(mc:c<=maxLen) :
  Calls Tryz.prog 56 #[.agg (List.toArray us),.slice P x.length c] w fun e w'=>e=.returned (.tuple #[.int .i64 (ZV i x).1,.int .i64 (ZV i x).2.1,.int .i64 (ZV i x).2.2])/\Ext w w':=by
 by_cases lx:(x.length:Int)=i.n
 ·rcases ZU hc with h | h | h
  ·exact ZcG i us P c x w H hc h hP lx
  ·exact ZcA i us P c x w H hc h hP lx lc mc
  ·exact ZcB i us P c x w H hc h hP lx lc mc
 ·exact ZcF i us P c x w H hc lx
def JN (T:TypeId)(R:World->Nat->Prop)(w:World)(e:Ending)(w':World) : Prop:=∃ g,e=.returned (.iface T (.pointer (some ⟨g,0,none⟩)))/\R w' g/\Ext w w'
theorem Ziv (i:InstP)(us:List Value)(w:World)(H:RInst w us i)(hc:Zh i=0)(hk:i.kind=1) :
  Calls Tryz.prog 57 #[.agg (List.toArray us)] w (JN 156 (fun W g=>KnB W g i.cap (wsP i) (vsP i)) w):=by
 have OR:=Hd (fun(W:World) (y:Ext w W)=>ZcD i us W (H.ext y) hc hk);obtain⟨R,hR⟩:∃ R:World->Nat->Prop,Hid (R=fun W g=>KnB W g i.cap (wsP i) (vsP i)):=⟨_,rfl⟩;have RE:Hid (∀ W W' g,R W g->Ext W W'->R W' g):=fun W W' g h x=>by
  rw[hR.out] at h ⊢;exact KnB.ext h x
 have OR2:Hid (∀ W,Ext w W->Calls Tryz.prog 104 #[.agg (List.toArray us)] W fun e w'=>∃ g,e=.returned (.pointer (some ⟨g,0,none⟩))/\R w' g/\Ext W w'):=fun W y=>by
  have h:=OR.out W y;unfold ZcC at h;rw[hR.out];exact h
 unfold JN;rw[<-hR.out];clear hR OR hc;obtain⟨kind,nn,cap,xw,xv,co⟩:=i;obtain⟨A,a,B,b,D,d,rfl,-,-,-⟩:=H;simp only at *;subst hk;go_enter Tryz.func57,Tryz.ntmps57;go_wp2_with (fail);refine(OR2.out _ (by(repeat (first | assumption | exact Ext.rf _ | apply Ext.drew | apply Ext.drewN | apply Ext.alloc)))).mono ?_;rintro e w1 ⟨g,rfl,r1,x1⟩;have X1:=Hd (Ext.tr (a:=w) (by(repeat (first | assumption | exact Ext.rf _ | apply Ext.drew | apply Ext.drewN | apply Ext.alloc))) x1);have R1:=Hd r1;clear x1 r1;go_wp2_with (fail);go_ret;exact⟨g,rfl,RE.out _ _ _ R1.out (by(repeat (first | assumption | exact Ext.rf _ | apply Ext.drew | apply Ext.drewN | apply Ext.alloc))),X1.out.tr (by(repeat (first | assumption | exact Ext.rf _ | apply Ext.drew | apply Ext.drewN | apply Ext.alloc)))⟩
theorem Ziw (i:InstP)(us:List Value)(w:World)(H:RInst w us i)(hk:i.kind=2) :
  Calls Tryz.prog 57 #[.agg (List.toArray us)] w (JN 158 (fun W g=>RwB W g i.cost) w):=by
 obtain⟨kind,nn,cap,xw,xv,co⟩:=i;obtain⟨A,a,B,b,D,d,rfl,-,-,hC,hC1,hC2⟩:=H;simp only at *;subst hk;unfold JN;replace hC:=Hd hC;have FIN:Hid (∀ (W:World) (x:Ext w W),RwB (W.alloc (.cells #[.slice D co.length d] 160)) W.heap.size co):=fun W x=>⟨D,d,.new rfl,hC1,hC2,(hC.out.ext x fun _ _ h=>h.ext x).ext ((Ext.rf _).alloc _) fun _ _ h=>h.ext ((Ext.rf _).alloc _)⟩
 go_enter Tryz.func57,Tryz.ntmps57;go_upto_region 5 with(fail);obtain⟨wb,hwb⟩:∃ wb,wb=w.alloc (.cells #[.int .i64 2,.int .i64 nn,.int .i64 cap,.slice A xw.length a,.slice B xv.length b,.slice D co.length d] 25):=⟨_,rfl⟩;have XB:Hid (Ext w wb):=Hd (by rw[hwb];exact(Ext.rf w).alloc _);have B1:Hid (Blk wb w.heap.size 25 #[.int .i64 2,.int .i64 nn,.int .i64 cap,.slice A xw.length a,.slice B xv.length b,.slice D co.length d]):=Hd (by rw[hwb];exact .new rfl);have d5:=B1.out.c5;rw[<-hwb];clear hwb;go_wp2_with (fail);go_ret;exact⟨_,rfl,FIN.out _ XB.out,XB.out.tr (by(repeat (first | assumption | exact Ext.rf _ | apply Ext.drew | apply Ext.drewN | apply Ext.alloc)))⟩
theorem Zix (i:InstP)(us:List Value)(w:World)(H:RInst w us i)(hc:Zh i=0)(hk:i.kind=3) :
  Calls Tryz.prog 57 #[.agg (List.toArray us)] w (JN 161 (fun W g=>CiB W g (WX i.cost) i.cost) w):=by
 have MI:=Hd (fun(W:World) (y:Ext w W)=>ZeD i us W (H.ext y) hc hk);obtain⟨mm,hmm⟩:∃ mm,Hid (WX i.cost=mm):=⟨_,rfl⟩;unfold JN;rw[hmm.out] at MI ⊢;clear hmm hc;obtain⟨kind,nn,cap,xw,xv,co⟩:=i;obtain⟨A,a,B,b,D,d,rfl,-,-,hC,hC1,hC2⟩:=H;simp only at *;subst hk;replace hC:=Hd hC;have FIN:Hid (∀ (W:World) (x:Ext w W),CiB (W.alloc (.cells #[.slice D co.length d,.bool mm] 163)) W.heap.size mm co):=fun W x=>⟨D,d,.new rfl,hC1,hC2,(hC.out.ext x fun _ _ h=>h.ext x).ext ((Ext.rf _).alloc _) fun _ _ h=>h.ext ((Ext.rf _).alloc _)⟩
 have B1:Hid (Blk (w.alloc (.cells #[.int .i64 3,.int .i64 nn,.int .i64 cap,.slice A xw.length a,.slice B xv.length b,.slice D co.length d] 25)) w.heap.size 25 #[.int .i64 3,.int .i64 nn,.int .i64 cap,.slice A xw.length a,.slice B xv.length b,.slice D co.length d]):=.new rfl;go_enter Tryz.func57,Tryz.ntmps57;go_wp2_with (fail);obtain⟨wb,hwb⟩:∃ wb,wb=w.alloc (.cells #[.int .i64 3,.int .i64 nn,.int .i64 cap,.slice A xw.length a,.slice B xv.length b,.slice D co.length d] 25):=⟨_,rfl⟩;have XB:Hid (Ext w wb):=Hd (by rw[hwb];exact(Ext.rf w).alloc _);rw[<-hwb] at B1 ⊢;clear hwb;have d0:=B1.out.c0;have d1:=B1.out.c1;have d2:=B1.out.c2;have d3:=B1.out.c3;have d4:=B1.out.c4;have d5:=B1.out.c5;have zw:=B1.out.lt;go_region_held3 (fun w'=>w'.cell? ⟨w.heap.size,0,none⟩=some (.int .i64 3)/\w'.cell? ⟨w.heap.size,1,none⟩=some (.int .i64 nn)/\w'.cell? ⟨w.heap.size,2,none⟩=some (.int .i64 cap)/\w'.cell? ⟨w.heap.size,3,none⟩=some (.slice A xw.length a)/\w'.cell? ⟨w.heap.size,4,none⟩=some (.slice B xv.length b)/\w'.cell? ⟨w.heap.size,5,none⟩=some (.slice D co.length d)) (go_keep)
  (first | (go_at_call 74;refine(MI.out _ (XB.out.tr (by(repeat (first | assumption | exact Ext.rf _ | apply Ext.drew | apply Ext.drewN | apply Ext.alloc))))).mono ?_;rintro e w2 ⟨rfl,x2⟩;have Y2:=Ext.tr (a:=wb) (by(repeat (first | assumption | exact Ext.rf _ | apply Ext.drew | apply Ext.drewN | apply Ext.alloc))) x2;have s1:=Zc Y2 zw d0;have s2:=Zc Y2 zw d1;have s3:=Zc Y2 zw d2;have s4:=Zc Y2 zw d3;have s5:=Zc Y2 zw d4;have s6:=Zc Y2 zw d5))
 all_goals
  have X2:=Hd (XB.out.tr Y2);go_wp2_with (fail);go_ret;exact⟨_,rfl,FIN.out _ X2.out,X2.out.tr (by(repeat (first | assumption | exact Ext.rf _ | apply Ext.drew | apply Ext.drewN | apply Ext.alloc)))⟩
def ltK (l:List Int)(a b:Nat) : Bool:=decide (l.getD a 0<l.getD b 0)
theorem Jf (l:List Int) : Weak (ltK l) where
 asym:=fun a b h=>by
  unfold ltK at h ⊢;have:=of_decide_eq_true h;exact decide_eq_false (by omega)
 neg:=fun a b c h=>by
  unfold ltK at h ⊢;have:=of_decide_eq_true h
  by_cases h1:l.getD a 0<l.getD b 0
  ·exact .inl (decide_eq_true h1)
  ·exact .inr (decide_eq_true (by omega))
def Ua (l:List Int) : List Nat:=Wb (ltK l) (List.range l.length)
theorem Vl (l:List Int) : (Ua l).length=l.length:=by unfold Ua;rw[Xs,List.length_range]
theorem Zd1 {l:List Int}{k a:Nat}(h:(Ua l)[k]?=some a) : a<l.length:=by
 have hm:=List.mem_of_getElem? h;unfold Ua at hm;have:=(WV (Jf l) List.pairwise_lt_range).mem.1 hm;exact List.mem_range.1 this
def WH (l:List Int) : List Int:=(Ua l).map fun a=>l.getD a 0
theorem Ux (l:List Int) : (WH l).length=l.length:=by unfold WH;rw[List.length_map,Vl]
theorem Zgr (l:List Int) : (List.range l.length).map (fun a=>l.getD a 0)=l:=by
 apply List.ext_getElem
 ·simp
 ·intro k h1 h2
  simp[List.getD,List.getElem?_eq_getElem h2]
theorem Zgs {l k:List Int}(hp:k.Perm l)(hs:k.Pairwise (· < ·)) : WH l=k:=by
 have I:=WV (Jf l) (List.pairwise_lt_range (n:=l.length));refine List.Perm.eq_of_pairwise (le:=(· <= ·)) (fun a b _ _ h1 h2=>by omega) ?_ (hs.imp fun h=>by omega) ?_
 ·unfold WH
  rw[List.pairwise_map];refine I.2.imp fun {a b} h=>?_
  rcases h with h | ⟨h,_⟩
  ·unfold ltK at h
   have:=of_decide_eq_true h;omega
  ·unfold ltK at h
   have:=of_decide_eq_false h;omega
 ·have h1:(WH l).Perm ((List.range l.length).map fun a=>l.getD a 0):=I.1.map _
  rw[Zgr] at h1;exact h1.trans hp.symm
def YH (i:InstP)(p:List Int) : List Int:=if i.kind=1 then(VJ i.cap (wsP i) (vsP i) p).1 else if i.kind=2 then(V2 i.cost p).1 else(V4 i.cost p).1
theorem Zab (m:Nat) : (Zd (Zf m)).Pairwise (· < ·):=by
 unfold Zd;rw[List.pairwise_map];exact(Zw m).imp fun h=>by omega
theorem Zb6 {i:InstP}(hc:Zh i=0){p:List Int}(ho:okI i p)(hl:p.length<Zi i) : WH (YH i p)=Zo i p:=by
 have hh:(Zo i p).Perm (YH i p)/\(Zo i p).Pairwise (· < ·):=by
  unfold okI at ho;rcases ZU hc with h | h | h
  ·have ok:=ZR hc h
   obtain⟨f1,f2,f3,f4,f5⟩:=Ur ok;rw[if_pos h] at ho;obtain⟨⟨r,o⟩,hs⟩:=ho;have hd:Zi i=(wsP i).length:=by unfold Zi;rw[if_neg (by omega)];omega
   rw[hd] at hl;unfold Zo YH U1;rw[if_pos h,if_pos h,(W5 hs).1];unfold VJ;rw[hs];have e:=List.drop_eq_getElem_cons hl;rw[e];simp only;split
   ·exact⟨List.Perm.swap 1 0 [],by simp⟩
   ·exact⟨List.Perm.refl _,by simp⟩
  ·have sq:=Zp hc (by omega)
   have rok:=ZF sq;rw[if_neg (by omega),if_pos h] at ho;obtain⟨m,hm⟩:=ho;obtain⟨l,e1,e2,_⟩:=Q3 hm;have e:Zo i p=Zd (Zf m):=by unfold Zo;rw[if_neg (by omega),if_pos h,Uq rok.n2 hm]
   have e':YH i p=Zd l:=by unfold YH;rw[if_neg (by omega),if_pos h,e1]
   rw[e,e'];exact⟨(e2.symm).map _,Zab m⟩
  ·have sq:=Zp hc (by omega)
   have rok:=ZF sq;rw[if_neg (by omega),if_neg (by omega)] at ho;obtain⟨⟨m,last,cost⟩,hm⟩:=ho;obtain⟨l,e1,e2,_⟩:=Q5 hm;have e:Zo i p=Zd (Zf m):=by unfold Zo;rw[if_neg (by omega),if_neg (by omega),Jc rok.n1 rok.n2 hm]
   have e':YH i p=Zd l:=by unfold YH;rw[if_neg (by omega),if_neg (by omega),e1]
   rw[e,e'];exact⟨(e2.symm).map _,Zab m⟩
 exact Zgs hh.1 hh.2
structure PV (i:InstP)(g:Nat)(W0:World)(px:Value)(fD fK fB:Nat) : Prop where
 chk:Zh i=0
 n64:Zi i<=64
 cD:∀ (W:World),Below g W0 W->Calls Tryz.prog fD #[px] W fun e w'=>e=.returned (.int .i64 (Zi i))/\Ext W w'
 cK:∀ (W:World) (P:Option Addr) (c:Nat) (p:List Int),Below g W0 W->RdI W P p->okI i p->p.length<Zi i->Calls Tryz.prog fK #[px,.slice P p.length c] W (Zcz (Zo i p) W)
 cB:∀ (W:World) (P:Option Addr) (c:Nat) (p:List Int),Below g W0 W->RdI W P p->okI i p->Calls Tryz.prog fB #[px,.slice P p.length c] W fun e w'=>e=.returned (.int .i64 (Zk i p))/\Ext W w'
def Zb7 (g:Nat)(T:TypeId)(px:Value)(cost:Int)(res:Int×Wd)(W:World)(e:Ending)(W':World) : Prop :=
 e=.returned (.int .i64 res.1)/\Blk W' g 101 #[.iface T px,.int .i64 cost,.string ⟨res.2.toArray⟩]/\Mod (fun k=>k=g) W W'
theorem RdI.modW {W W':World}{P:Option Addr}{p:List Int}{g:Nat}(h:RdI W P p)(m:Mod (fun k=>k=g) W W')(hne:∀ b,bl P=some b->b≠g) : RdI W' P p:=by
 rcases h with rfl | ⟨b,off,rfl,hlt,hc⟩
 ·exact .inl rfl
 ·refine .inr ⟨b,off,rfl,Nat.lt_of_lt_of_le hlt m.size,fun j x hj=>?_⟩
  rw[<-hc j x hj];exact World.cell?_of_block (m.block b hlt (hne b rfl))
theorem WJ {W0 W W':World}{g:Nat}(h:Below g W0 W)(m:Mod (fun k=>k=g) W W')(hg:g<=W.heap.size) : Below g W0 W':=h.trans (m.below hg fun k hk e=>by omega)
def Qp (i:InstP)(g:Nat)(W0:World)(T:TypeId)(px:Value)(cost:Int)(f:Nat) : Prop :=
 ∀ (W:World) (P:Option Addr) (c:Nat) (p:List Int) (r:Wd),Below g W0 W->Blk W g 101 #[.iface T px,.int .i64 cost,.string ⟨r.toArray⟩]->RdI W P p->(∀ b,bl P=some b->b≠g)->okI i p->f+p.length=Zi i+1->r.length<=1000 ->
  Calls Tryz.prog 58 #[.pointer (some ⟨g,0,none⟩),.slice P p.length c] W (Zb7 g T px cost (ZK (Zi i) (Zo i) (Zk i) cost f p r) W)
def Zb8 (i:InstP)(g:Nat)(W0:World)(T:TypeId)(px:Value)(cost:Int)(f:Nat) : Prop :=
 ∀ (W:World) (P:Option Addr) (c:Nat) (p:List Int) (r:Wd),Below g W0 W->Blk W g 101 #[.iface T px,.int .i64 cost,.string ⟨r.toArray⟩]->RdI W P p->(∀ b,bl P=some b->b≠g)->okI i p->f+p.length=Zi i->p.length<Zi i->r.length<=1000 ->
  Calls Tryz.prog 105 #[.pointer (some ⟨g,0,none⟩),.slice P p.length c] W (Zb7 g T px cost (Wr (fun n v=>ZK (Zi i) (Zo i) (Zk i) cost f (p++[n]) v) (Zo i p) r) W)
theorem Vx {D:Nat}{kids:List Int->List Int}{bound:List Int->Int}{cost:Int} : ∀ (f:Nat) (p:List Int) (r:Wd),(ZK D kids bound cost f p r).2.length<=r.length
 | 0,p,r=>Nat.le_refl _
 | f+1,p,[]=>Nat.le_refl _
 | f+1,p,c::r=>by
  rw[Vw];have key:∀ (l:List Int) (r:Wd),(Wr (fun n v=>ZK D kids bound cost f (p++[n]) v) l r).2.length<=r.length:=by
   intro l
   induction l with
   | nil=>intro r;exact Nat.le_refl _
   | cons n l ih =>
    intro r;unfold Wr;split
    ·exact Nat.le_trans (ih _) (Vx f _ r)
    ·exact Vx f _ r
  repeat' split
  all_goals (simp only[List.length_cons];try omega)
  exact Nat.le_trans (key _ r) (by omega)
theorem QK {w w':World}{base:Nat}{A:Option Addr}{c:Nat}{xs:List Int}(h:OwI w base A c xs)(hg:w.grownBy w' (bl A)) : ModT base [3] w w':=by
 refine Mod.grown hg fun g hA=>?_
 rcases h.cases with⟨rfl,_,_⟩ | ⟨g',cur,rfl,hb,hh,_⟩
 ·simp[bl] at hA
 ·simp[bl] at hA
  subst hA;exact⟨hb,cur,_,hh,by simp⟩
theorem Vy {i:InstP}{g:Nat}{W0:World}{px:Value}{cost:Int}(H:PV i g W0 px 288 289 287)(f:Nat)(ihk:Zb8 i g W0 156 px cost f) : Qp i g W0 156 px cost (f+1):=by
 intro W P c p r hB hblk hP hne ho hf hr
 cases r with
 | nil =>
  have t2:=hblk.c2;have e:ZK (Zi i) (Zo i) (Zk i) cost (f+1) p []=(6,[]):=rfl;rw[e];go_enter Tryz.func58,Tryz.ntmps58;go_wp2_with (fail);go_ret;exact⟨rfl,hblk,Mod.rf _⟩
 | cons x r =>
  have t2:=hblk.c2;have f2:=hblk.free 2;have EX:(⟨(x::r).toArray⟩:ByteArray).extract 1 (r.length+1)=⟨r.toArray⟩:=by
   apply ByteArray.ext;rw[ByteArray.data_extract];simp
  have hsz:0<(⟨(x::r).toArray⟩:ByteArray).size:=by simp[ByteArray.size]
  have E0:(⟨(x::r).toArray⟩:ByteArray)[0]'hsz=x:=rfl;have hB1:=Hd (hblk.set 2 (.string ⟨r.toArray⟩));have MM:Hid (Mod (fun k=>k=g) W (W.setCell ⟨g,2,none⟩ (.string ⟨r.toArray⟩))):=Mod.set (S:=fun k=>k=g) (Mod.rf W) (p:=⟨g,2,none⟩) (.inl rfl) _;have gl:=hblk.lt;obtain⟨RES,hRES⟩:∃ RES,Hid (ZK (Zi i) (Zo i) (Zk i) cost (f+1) p (x::r)=RES):=⟨_,rfl⟩;rw[hRES.out];have RE:=hRES.out;rw[Vw] at RE;replace RE:=Hd RE;have hBl:=Hd (WJ hB MM.out (by omega));have hPl:=Hd (hP.modW MM.out hne);have mD:∀ (x:Value) (u:World),(callMethod (.iface 156 x) "kurgan/check.depth" #[]).run Tryz.prog u=.ok (.enter 288 #[x]) u:=fun _ _=>by kernel_rfl
  have mB:∀ (x:Value) (u:World),(method 420 156 x "kurgan/check.bound").run Tryz.prog u=.ok (287,x) u:=fun _ _=>by kernel_rfl
  have hlen:=(by omega:p.length<=Zi i);have hr':r.length<=1000:=by simp at hr;omega
  clear hRES;go_enter Tryz.func58,Tryz.ntmps58;go_upto_region 5 with(fail);generalize W.setCell ⟨g,2,none⟩ (.string ⟨r.toArray⟩)=W1 at *;have B1:=Hd (show Blk W1 g 101 #[.iface 156 px,.int .i64 cost,.string ⟨r.toArray⟩] from hB1.out);have t0:=B1.out.c0;clear t2 f2 EX E0 hB1 hsz hblk;go_wp2_with (fail);refine(H.cD _ (hBl.out.trans (Below.refl _ _))).mono ?_;rintro e W2 ⟨rfl,x2⟩;have B2:=Hd (B1.out.ext x2);have M2:=Hd (MM.out.ext x2);have P2:=Hd (hPl.out.ext x2);have hB2:=Hd (hBl.out.trans (Below.mono x2 (by have:=MM.out.size;omega)));clear x2 t0 B1 MM hPl hBl;have gl2:=B2.out.lt;have t0:=B2.out.c0;have t1:=B2.out.c1;have CB:=Hd (fun(W:World) (y:Ext W2 W)=>H.cB W P c p (hB2.out.trans (Below.mono y (by omega))) (P2.out.ext y) ho)
  by_cases hw:p.length=Zi i
  ·have e1:((p.length:Int)==(Zi i:Int))=true:=by simp[hw]
   replace hw:=Hd hw
   by_cases h98:x=98
   ·subst h98
    obtain rfl:RES=(8,r):=by have h:=RE.out;rw[if_pos rfl,if_pos hw.out] at h;exact h.symm
    go_wp2_with (fail);go_ret;exact⟨rfl,B2.out,M2.out⟩
   ·have n98:((x.toNat:Int)==98)=false:=by
     have:x.toNat≠98:=fun h=>h98 (UInt8.toNat_inj.1 h)
     simp;omega
    by_cases h108:x=108
    ·subst h108
     have RB:Hid ((if Zk i p<cost then((13,r):Int×Wd) else(0,r))=RES):=Hd (by
      have h:=RE.out;rw[if_neg h98,if_pos rfl,if_pos hw.out] at h;exact h)
     by_cases hb:Zk i p<cost
     ·obtain rfl:RES=(13,r):=by have h:=RB.out;rw[if_pos hb] at h;exact h.symm
      go_wp2_with (fail);go_region_held3 (fun w'=>w'.cell? ⟨g,0,none⟩=some (.iface 156 px)/\w'.cell? ⟨g,1,none⟩=some (.int .i64 cost)) (go_keep)
       (first | (go_at_call 287;refine(CB.out _ (by(repeat (first | assumption | exact Ext.rf _ | apply Ext.drew | apply Ext.drewN | apply Ext.alloc)))).mono ?_;rintro e W3 ⟨rfl,x3⟩;have y3:=Ext.tr (a:=W2) (by(repeat (first | assumption | exact Ext.rf _ | apply Ext.drew | apply Ext.drewN | apply Ext.alloc))) x3;have s1:=Zc y3 gl2 t0;have s2:=Zc y3 gl2 t1))
      all_goals go_wp2_with (fail)
      all_goals go_ret
      all_goals exact⟨rfl,B2.out.ext y3,M2.out.ext y3⟩
     ·obtain rfl:RES=(0,r):=by have h:=RB.out;rw[if_neg hb] at h;exact h.symm
      go_wp2_with (fail);go_region_held3 (fun w'=>w'.cell? ⟨g,0,none⟩=some (.iface 156 px)/\w'.cell? ⟨g,1,none⟩=some (.int .i64 cost)) (go_keep)
       (first | (go_at_call 287;refine(CB.out _ (by(repeat (first | assumption | exact Ext.rf _ | apply Ext.drew | apply Ext.drewN | apply Ext.alloc)))).mono ?_;rintro e W3 ⟨rfl,x3⟩;have y3:=Ext.tr (a:=W2) (by(repeat (first | assumption | exact Ext.rf _ | apply Ext.drew | apply Ext.drewN | apply Ext.alloc))) x3;have s1:=Zc y3 gl2 t0;have s2:=Zc y3 gl2 t1))
      all_goals go_wp2_with (fail)
      all_goals go_ret
      all_goals exact⟨rfl,B2.out.ext y3,M2.out.ext y3⟩
    ·have n108:((x.toNat:Int)==108)=false:=by
      have:x.toNat≠108:=fun h=>h108 (UInt8.toNat_inj.1 h)
      simp;omega
     by_cases h112:x=112
     ·subst h112
      have RB:Hid ((if Zk i p<cost then((13,r):Int×Wd) else(0,r))=RES):=Hd (by
       have h:=RE.out;rw[if_neg h98,if_neg h108,if_pos rfl] at h;exact h)
      by_cases hb:Zk i p<cost
      ·obtain rfl:RES=(13,r):=by have h:=RB.out;rw[if_pos hb] at h;exact h.symm
       go_wp2_with (fail);go_region_held3 (fun w'=>w'.cell? ⟨g,0,none⟩=some (.iface 156 px)/\w'.cell? ⟨g,1,none⟩=some (.int .i64 cost)) (go_keep)
        (first | (go_at_call 287;refine(CB.out _ (by(repeat (first | assumption | exact Ext.rf _ | apply Ext.drew | apply Ext.drewN | apply Ext.alloc)))).mono ?_;rintro e W3 ⟨rfl,x3⟩;have y3:=Ext.tr (a:=W2) (by(repeat (first | assumption | exact Ext.rf _ | apply Ext.drew | apply Ext.drewN | apply Ext.alloc))) x3;have s1:=Zc y3 gl2 t0;have s2:=Zc y3 gl2 t1))
       all_goals go_wp2_with (fail)
       all_goals go_ret
       all_goals exact⟨rfl,B2.out.ext y3,M2.out.ext y3⟩
      ·obtain rfl:RES=(0,r):=by have h:=RB.out;rw[if_neg hb] at h;exact h.symm
       go_wp2_with (fail);go_region_held3 (fun w'=>w'.cell? ⟨g,0,none⟩=some (.iface 156 px)/\w'.cell? ⟨g,1,none⟩=some (.int .i64 cost)) (go_keep)
        (first | (go_at_call 287;refine(CB.out _ (by(repeat (first | assumption | exact Ext.rf _ | apply Ext.drew | apply Ext.drewN | apply Ext.alloc)))).mono ?_;rintro e W3 ⟨rfl,x3⟩;have y3:=Ext.tr (a:=W2) (by(repeat (first | assumption | exact Ext.rf _ | apply Ext.drew | apply Ext.drewN | apply Ext.alloc))) x3;have s1:=Zc y3 gl2 t0;have s2:=Zc y3 gl2 t1))
       all_goals go_wp2_with (fail)
       all_goals go_ret
       all_goals exact⟨rfl,B2.out.ext y3,M2.out.ext y3⟩
     ·have n112:((x.toNat:Int)==112)=false:=by
       have:x.toNat≠112:=fun h=>h112 (UInt8.toNat_inj.1 h)
       simp;omega
      obtain rfl:RES=(2,r):=by have h:=RE.out;rw[if_neg h98,if_neg h108,if_neg h112] at h;exact h.symm
      go_wp2_with (fail);go_ret;exact⟨rfl,B2.out,M2.out⟩
  ·have e1:((p.length:Int)==(Zi i:Int))=false:=by simp;omega
   by_cases h98:x=98
   ·subst h98
    have RK:Hid (Wr (fun n v=>ZK (Zi i) (Zo i) (Zk i) cost f (p++[n]) v) (Zo i p) r=RES):=Hd (by
     have h:=RE.out;rw[if_pos rfl,if_neg hw] at h;exact h)
    have K:=Hd (ihk W2 P c p r hB2.out B2.out P2.out hne ho (by omega) (by omega) hr');rw[RK.out] at K;go_wp2_with (fail);refine K.out.mono ?_;rintro e W3 ⟨rfl,b3,m3⟩;have M3:=Hd (M2.out.tr m3);replace b3:=Hd b3;clear m3;go_wp2_with (fail);go_ret;exact⟨rfl,b3.out,M3.out⟩
   ·have n98:((x.toNat:Int)==98)=false:=by
     have:x.toNat≠98:=fun h=>h98 (UInt8.toNat_inj.1 h)
     simp;omega
    by_cases h108:x=108
    ·subst h108
     obtain rfl:RES=(8,r):=by have h:=RE.out;rw[if_neg h98,if_pos rfl,if_neg hw] at h;exact h.symm
     go_wp2_with (fail);go_ret;exact⟨rfl,B2.out,M2.out⟩
    ·have n108:((x.toNat:Int)==108)=false:=by
      have:x.toNat≠108:=fun h=>h108 (UInt8.toNat_inj.1 h)
      simp;omega
     by_cases h112:x=112
     ·subst h112
      have RB:Hid ((if Zk i p<cost then((13,r):Int×Wd) else(0,r))=RES):=Hd (by
       have h:=RE.out;rw[if_neg h98,if_neg h108,if_pos rfl] at h;exact h)
      by_cases hb:Zk i p<cost
      ·obtain rfl:RES=(13,r):=by have h:=RB.out;rw[if_pos hb] at h;exact h.symm
       go_wp2_with (fail);go_region_held3 (fun w'=>w'.cell? ⟨g,0,none⟩=some (.iface 156 px)/\w'.cell? ⟨g,1,none⟩=some (.int .i64 cost)) (go_keep)
        (first | (go_at_call 287;refine(CB.out _ (by(repeat (first | assumption | exact Ext.rf _ | apply Ext.drew | apply Ext.drewN | apply Ext.alloc)))).mono ?_;rintro e W3 ⟨rfl,x3⟩;have y3:=Ext.tr (a:=W2) (by(repeat (first | assumption | exact Ext.rf _ | apply Ext.drew | apply Ext.drewN | apply Ext.alloc))) x3;have s1:=Zc y3 gl2 t0;have s2:=Zc y3 gl2 t1))
       all_goals go_wp2_with (fail)
       all_goals go_ret
       all_goals exact⟨rfl,B2.out.ext y3,M2.out.ext y3⟩
      ·obtain rfl:RES=(0,r):=by have h:=RB.out;rw[if_neg hb] at h;exact h.symm
       go_wp2_with (fail);go_region_held3 (fun w'=>w'.cell? ⟨g,0,none⟩=some (.iface 156 px)/\w'.cell? ⟨g,1,none⟩=some (.int .i64 cost)) (go_keep)
        (first | (go_at_call 287;refine(CB.out _ (by(repeat (first | assumption | exact Ext.rf _ | apply Ext.drew | apply Ext.drewN | apply Ext.alloc)))).mono ?_;rintro e W3 ⟨rfl,x3⟩;have y3:=Ext.tr (a:=W2) (by(repeat (first | assumption | exact Ext.rf _ | apply Ext.drew | apply Ext.drewN | apply Ext.alloc))) x3;have s1:=Zc y3 gl2 t0;have s2:=Zc y3 gl2 t1))
       all_goals go_wp2_with (fail)
       all_goals go_ret
       all_goals exact⟨rfl,B2.out.ext y3,M2.out.ext y3⟩
     ·have n112:((x.toNat:Int)==112)=false:=by
       have:x.toNat≠112:=fun h=>h112 (UInt8.toNat_inj.1 h)
       simp;omega
      obtain rfl:RES=(2,r):=by have h:=RE.out;rw[if_neg h98,if_neg h108,if_neg h112] at h;exact h.symm
      go_wp2_with (fail);go_ret;exact⟨rfl,B2.out,M2.out⟩
theorem QL {i:InstP}{g:Nat}{W0:World}{px:Value}{cost:Int}(H:PV i g W0 px 288 289 287)(f:Nat)(ihn:Qp i g W0 156 px cost f) : Zb8 i g W0 156 px cost f:=by
 intro W P c p r hB hblk hP hne ho hf hlt0 hr;have n64:=H.n64;have t0:=hblk.c0;have gl:=hblk.lt;have mK:∀ (x a:Value) (u:World),(callMethod (.iface 156 x) "kurgan/check.kids" #[a]).run Tryz.prog u=.ok (.enter 289 #[x,a]) u:=fun _ _ _=>by kernel_rfl
 have CK:=Hd (fun(W':World) (y:Ext W W')=>H.cK W' P c p (hB.trans (Below.mono y (by omega))) (hP.ext y) ho hlt0);have KID:=Hd ((Wt H.chk).kid p ho hlt0);obtain⟨RES,hRES⟩:∃ RES,Hid (Wr (fun n v=>ZK (Zi i) (Zo i) (Zk i) cost f (p++[n]) v) (Zo i p) r=RES):=⟨_,rfl⟩;rw[hRES.out];have KL:(Zo i p).length<=64:=by
  have:=We H.chk p ho hlt0;split at this<;>omega
 have S0:Hid (Wr (fun n v=>ZK (Zi i) (Zo i) (Zk i) cost f (p++[n]) v) ((Zo i p).drop 0) r=RES):=hRES;generalize Zo i p=l at *;replace hblk:=Hd hblk;replace hP:=Hd hP;replace hB:=Hd hB;replace hf:=Hd hf;replace hlt0:=Hd hlt0;clear hRES;unfold Zcz at CK;go_enter Tryz.func105,Tryz.ntmps105;go_wp2_with (fail);refine(CK.out _ (by(repeat (first | assumption | exact Ext.rf _ | apply Ext.drew | apply Ext.drewN | apply Ext.alloc)))).mono ?_;rintro e W2 ⟨A,ac,rfl,oA,x2⟩;have X2:=Ext.tr (a:=W) (by(repeat (first | assumption | exact Ext.rf _ | apply Ext.drew | apply Ext.drewN | apply Ext.alloc))) x2;have B2:=Hd (hblk.out.ext X2);have M2:Hid (Mod (fun k=>k=g) W W2):=Mod.of_ext X2;have RA:=Hd oA.read;have neA:Hid (∀ b,bl A=some b->b≠g):=fun b hb=>by have:=(oA.lt b hb).1;omega
 clear x2 X2 oA CK t0;go_wp2_with (fail);go_loopw [16] (fun v16 wr=>∃ (m:Nat) (r':Wd),v16=.int .i64 m/\m<=l.length/\r'.length<=1000/\Hid (Wr (fun n v=>ZK (Zi i) (Zo i) (Zk i) cost f (p++[n]) v) (l.drop m) r'=RES)/\Hid (Blk wr g 101 #[.iface 156 px,.int .i64 cost,.string ⟨r'.toArray⟩])/\Hid (RdI wr A l)/\Hid (Mod (fun k=>k=g) W wr)) (fun v _=>l.length-(intOf v).toNat)
 case atStart=>exact⟨0,r,rfl,by omega,hr,S0,B2,RA,M2⟩
 case round =>
  obtain⟨wo,rfl⟩:∃ wo:World,wo=wr:=⟨_,rfl⟩;clear S0 B2 RA M2;obtain⟨m,r',rfl,hm,hr',hS,BB,RA,MM⟩:=hrel;have zo:=MM.out.size
  by_cases hmt:m<l.length
  ·obtain⟨pb,po,n,rfl,zn,cn,en,dn⟩:=RA.out.at (k:=m) hmt
   have q1:(m:Int)<(l.length:Int):=by omega
   have RP:=Hd (hP.out.modW MM.out hne);have OKN:=Hd (KID.out n (List.mem_of_getElem? en.out));have p64:p.length<=64:=by have:=hlt0.out;omega
   have el:(p++[n]).length=p.length+1:=by simp
   have SD:=hS.out;rw[dn.out,Wr] at SD;replace SD:=Hd SD;clear en dn hS;go_wp2_with (first
    | (at_builtin;refine Vn _ rfl _ _ rfl wo.heap.size _ p P c rfl rfl ?_ ?_ ?_ ?_ ?_;(first | exact .new (by simp) | exact .drew (.new (by simp)) | exact .alloc (.new (by simp)) _ | exact .drew (.alloc (.new (by simp)) _) | exact .alloc (.alloc (.new (by simp)) _) _ | exact .drew (.alloc (.alloc (.new (by simp)) _) _) | (repeat (first | assumption | (refine Blk.new ?_;(focus (simp;done))) | apply Blk.drew | apply Blk.drewN | apply Blk.alloc)));(first | exact Nat.le_refl _ | omega | (focus (simp;try omega)));(refine RP.out.ext ?_;(repeat (first | assumption | exact Ext.rf _ | apply Ext.drew | apply Ext.drewN | apply Ext.alloc)));omega;rintro A7 c7 w7 o7 x7;have y7:=Ext.tr (a:=wo) (by(repeat (first | assumption | exact Ext.rf _ | apply Ext.drew | apply Ext.drewN | apply Ext.alloc))) x7;have zw7:=y7.size)
    | (at_builtin;refine ZG _ rfl _ _ rfl wo.heap.size A7 p.length c7 p [n] (some ⟨w7.heap.size,0,none⟩) 1 rfl rfl rfl (o7.ext ((Ext.rf _).alloc _)) (.blk (.new rfl) rfl) (by simp;omega) (by simp;omega) ?_;rintro A8 c8 w8 o8 g8 _))
   have y8:Ext wo (w7.alloc (.cells #[.int .i64 n] 3)):=y7.alloc _;have X8:=y8.modT (QK (o7.ext ((Ext.rf w7).alloc (.cells #[.int .i64 n] 3))) g8) (Nat.le_refl _);have B8:=BB.out.ext X8;have M8:=MM.out.ext X8;have ne8:∀ b,bl A8=some b->b≠g:=fun b hb=>by have:=(o8.lt b hb).1;omega
   have hB8:=WJ hB.out M8 (by omega);have CN:=ihn w8 A8 c8 (p++[n]) r' hB8 B8 o8.read ne8 OKN.out (by rw[el];have:=hf.out;omega) hr';rw[el] at CN;have RL:(ZK (Zi i) (Zo i) (Zk i) cost f (p++[n]) r').2.length<=1000:=Nat.le_trans (Vx f _ _) hr';generalize ZK (Zi i) (Zo i) (Zk i) cost f (p++[n]) r'=res at *;obtain⟨re,rr⟩:=res;have RA8:=Hd (RA.out.ext X8);have z8:=M8.size;replace CN:=Hd CN;replace M8:=Hd M8;unfold Zb7 at CN;clear y8 X8 B8 o8 g8 o7 y7 zw7 ne8 hB8 x7 OKN RP el;go_wp2_with (fail);refine CN.out.mono ?_;rintro e w9 ⟨rfl,b9,m9⟩;have M9:=Hd (M8.out.tr m9);have RA9:=Hd (RA8.out.modW m9 neA.out);replace b9:=Hd b9;clear m9 CN RA8 M8 BB RA MM
   try simp only at SD
   try simp only at b9
   try simp only at RL
   by_cases he:re=0
   ·subst he
    have SD2:Hid (Wr (fun n v=>ZK (Zi i) (Zo i) (Zk i) cost f (p++[n]) v) (l.drop (m+1)) rr=RES):=by
     have h:=SD.out;rw[if_pos rfl] at h;exact h
    clear SD;go_wp2_with (fail);go_roundw
    case rel=>exact⟨m+1,rr,by go_num,by omega,RL,SD2,b9,RA9,M9⟩
    case measure=>simp[intOf];omega
   ·have e1:(re != 0)=true:=by simpa using he
    obtain rfl:RES=(re,rr):=by have h:=SD.out;rw[if_neg he] at h;exact h.symm
    clear SD;go_wp2_with (fail);go_ret;exact⟨rfl,b9.out,M9.out⟩
  ·have q1:¬(m:Int)<(l.length:Int):=by omega
   obtain rfl:RES=(0,r'):=by
    have h:=hS.out;rw[List.drop_of_length_le (by omega)] at h;exact h.symm
   go_wp2_with (fail);go_ret;exact⟨rfl,BB.out,MM.out⟩
theorem VM {i:InstP}{g:Nat}{W0:World}{px:Value}{cost:Int}(H:PV i g W0 px 288 289 287) : ∀ f,Qp i g W0 156 px cost (f+1)
 | 0=>Vy H 0 (fun W P c p r _ _ _ _ _ hf hl _=>by omega)
 | f+1=>Vy H (f+1) (QL H (f+1) (VM H f))
theorem U5 {i:InstP}{g:Nat}{W0:World}{px:Value}{cost:Int}(H:PV i g W0 px 292 293 291)(f:Nat)(ihk:Zb8 i g W0 158 px cost f) : Qp i g W0 158 px cost (f+1):=by
 intro W P c p r hB hblk hP hne ho hf hr
 cases r with
 | nil =>
  have t2:=hblk.c2;have e:ZK (Zi i) (Zo i) (Zk i) cost (f+1) p []=(6,[]):=rfl;rw[e];go_enter Tryz.func58,Tryz.ntmps58;go_wp2_with (fail);go_ret;exact⟨rfl,hblk,Mod.rf _⟩
 | cons x r =>
  have t2:=hblk.c2;have f2:=hblk.free 2;have EX:(⟨(x::r).toArray⟩:ByteArray).extract 1 (r.length+1)=⟨r.toArray⟩:=by
   apply ByteArray.ext;rw[ByteArray.data_extract];simp
  have hsz:0<(⟨(x::r).toArray⟩:ByteArray).size:=by simp[ByteArray.size]
  have E0:(⟨(x::r).toArray⟩:ByteArray)[0]'hsz=x:=rfl;have hB1:=Hd (hblk.set 2 (.string ⟨r.toArray⟩));have MM:Hid (Mod (fun k=>k=g) W (W.setCell ⟨g,2,none⟩ (.string ⟨r.toArray⟩))):=Mod.set (S:=fun k=>k=g) (Mod.rf W) (p:=⟨g,2,none⟩) (.inl rfl) _;have gl:=hblk.lt;obtain⟨RES,hRES⟩:∃ RES,Hid (ZK (Zi i) (Zo i) (Zk i) cost (f+1) p (x::r)=RES):=⟨_,rfl⟩;rw[hRES.out];have RE:=hRES.out;rw[Vw] at RE;replace RE:=Hd RE;have hBl:=Hd (WJ hB MM.out (by omega));have hPl:=Hd (hP.modW MM.out hne);have mD:∀ (x:Value) (u:World),(callMethod (.iface 158 x) "kurgan/check.depth" #[]).run Tryz.prog u=.ok (.enter 292 #[x]) u:=fun _ _=>by kernel_rfl
  have mB:∀ (x:Value) (u:World),(method 420 158 x "kurgan/check.bound").run Tryz.prog u=.ok (291,x) u:=fun _ _=>by kernel_rfl
  have hlen:=(by omega:p.length<=Zi i);have hr':r.length<=1000:=by simp at hr;omega
  clear hRES;go_enter Tryz.func58,Tryz.ntmps58;go_upto_region 5 with(fail);generalize W.setCell ⟨g,2,none⟩ (.string ⟨r.toArray⟩)=W1 at *;have B1:=Hd (show Blk W1 g 101 #[.iface 158 px,.int .i64 cost,.string ⟨r.toArray⟩] from hB1.out);have t0:=B1.out.c0;clear t2 f2 EX E0 hB1 hsz hblk;go_wp2_with (fail);refine(H.cD _ (hBl.out.trans (Below.refl _ _))).mono ?_;rintro e W2 ⟨rfl,x2⟩;have B2:=Hd (B1.out.ext x2);have M2:=Hd (MM.out.ext x2);have P2:=Hd (hPl.out.ext x2);have hB2:=Hd (hBl.out.trans (Below.mono x2 (by have:=MM.out.size;omega)));clear x2 t0 B1 MM hPl hBl;have gl2:=B2.out.lt;have t0:=B2.out.c0;have t1:=B2.out.c1;have CB:=Hd (fun(W:World) (y:Ext W2 W)=>H.cB W P c p (hB2.out.trans (Below.mono y (by omega))) (P2.out.ext y) ho)
  by_cases hw:p.length=Zi i
  ·have e1:((p.length:Int)==(Zi i:Int))=true:=by simp[hw]
   replace hw:=Hd hw
   by_cases h98:x=98
   ·subst h98
    obtain rfl:RES=(8,r):=by have h:=RE.out;rw[if_pos rfl,if_pos hw.out] at h;exact h.symm
    go_wp2_with (fail);go_ret;exact⟨rfl,B2.out,M2.out⟩
   ·have n98:((x.toNat:Int)==98)=false:=by
     have:x.toNat≠98:=fun h=>h98 (UInt8.toNat_inj.1 h)
     simp;omega
    by_cases h108:x=108
    ·subst h108
     have RB:Hid ((if Zk i p<cost then((13,r):Int×Wd) else(0,r))=RES):=Hd (by
      have h:=RE.out;rw[if_neg h98,if_pos rfl,if_pos hw.out] at h;exact h)
     by_cases hb:Zk i p<cost
     ·obtain rfl:RES=(13,r):=by have h:=RB.out;rw[if_pos hb] at h;exact h.symm
      go_wp2_with (fail);go_region_held3 (fun w'=>w'.cell? ⟨g,0,none⟩=some (.iface 158 px)/\w'.cell? ⟨g,1,none⟩=some (.int .i64 cost)) (go_keep)
       (first | (go_at_call 291;refine(CB.out _ (by(repeat (first | assumption | exact Ext.rf _ | apply Ext.drew | apply Ext.drewN | apply Ext.alloc)))).mono ?_;rintro e W3 ⟨rfl,x3⟩;have y3:=Ext.tr (a:=W2) (by(repeat (first | assumption | exact Ext.rf _ | apply Ext.drew | apply Ext.drewN | apply Ext.alloc))) x3;have s1:=Zc y3 gl2 t0;have s2:=Zc y3 gl2 t1))
      all_goals go_wp2_with (fail)
      all_goals go_ret
      all_goals exact⟨rfl,B2.out.ext y3,M2.out.ext y3⟩
     ·obtain rfl:RES=(0,r):=by have h:=RB.out;rw[if_neg hb] at h;exact h.symm
      go_wp2_with (fail);go_region_held3 (fun w'=>w'.cell? ⟨g,0,none⟩=some (.iface 158 px)/\w'.cell? ⟨g,1,none⟩=some (.int .i64 cost)) (go_keep)
       (first | (go_at_call 291;refine(CB.out _ (by(repeat (first | assumption | exact Ext.rf _ | apply Ext.drew | apply Ext.drewN | apply Ext.alloc)))).mono ?_;rintro e W3 ⟨rfl,x3⟩;have y3:=Ext.tr (a:=W2) (by(repeat (first | assumption | exact Ext.rf _ | apply Ext.drew | apply Ext.drewN | apply Ext.alloc))) x3;have s1:=Zc y3 gl2 t0;have s2:=Zc y3 gl2 t1))
      all_goals go_wp2_with (fail)
      all_goals go_ret
      all_goals exact⟨rfl,B2.out.ext y3,M2.out.ext y3⟩
    ·have n108:((x.toNat:Int)==108)=false:=by
      have:x.toNat≠108:=fun h=>h108 (UInt8.toNat_inj.1 h)
      simp;omega
     by_cases h112:x=112
     ·subst h112
      have RB:Hid ((if Zk i p<cost then((13,r):Int×Wd) else(0,r))=RES):=Hd (by
       have h:=RE.out;rw[if_neg h98,if_neg h108,if_pos rfl] at h;exact h)
      by_cases hb:Zk i p<cost
      ·obtain rfl:RES=(13,r):=by have h:=RB.out;rw[if_pos hb] at h;exact h.symm
       go_wp2_with (fail);go_region_held3 (fun w'=>w'.cell? ⟨g,0,none⟩=some (.iface 158 px)/\w'.cell? ⟨g,1,none⟩=some (.int .i64 cost)) (go_keep)
        (first | (go_at_call 291;refine(CB.out _ (by(repeat (first | assumption | exact Ext.rf _ | apply Ext.drew | apply Ext.drewN | apply Ext.alloc)))).mono ?_;rintro e W3 ⟨rfl,x3⟩;have y3:=Ext.tr (a:=W2) (by(repeat (first | assumption | exact Ext.rf _ | apply Ext.drew | apply Ext.drewN | apply Ext.alloc))) x3;have s1:=Zc y3 gl2 t0;have s2:=Zc y3 gl2 t1))
       all_goals go_wp2_with (fail)
       all_goals go_ret
       all_goals exact⟨rfl,B2.out.ext y3,M2.out.ext y3⟩
      ·obtain rfl:RES=(0,r):=by have h:=RB.out;rw[if_neg hb] at h;exact h.symm
       go_wp2_with (fail);go_region_held3 (fun w'=>w'.cell? ⟨g,0,none⟩=some (.iface 158 px)/\w'.cell? ⟨g,1,none⟩=some (.int .i64 cost)) (go_keep)
        (first | (go_at_call 291;refine(CB.out _ (by(repeat (first | assumption | exact Ext.rf _ | apply Ext.drew | apply Ext.drewN | apply Ext.alloc)))).mono ?_;rintro e W3 ⟨rfl,x3⟩;have y3:=Ext.tr (a:=W2) (by(repeat (first | assumption | exact Ext.rf _ | apply Ext.drew | apply Ext.drewN | apply Ext.alloc))) x3;have s1:=Zc y3 gl2 t0;have s2:=Zc y3 gl2 t1))
       all_goals go_wp2_with (fail)
       all_goals go_ret
       all_goals exact⟨rfl,B2.out.ext y3,M2.out.ext y3⟩
     ·have n112:((x.toNat:Int)==112)=false:=by
       have:x.toNat≠112:=fun h=>h112 (UInt8.toNat_inj.1 h)
       simp;omega
      obtain rfl:RES=(2,r):=by have h:=RE.out;rw[if_neg h98,if_neg h108,if_neg h112] at h;exact h.symm
      go_wp2_with (fail);go_ret;exact⟨rfl,B2.out,M2.out⟩
  ·have e1:((p.length:Int)==(Zi i:Int))=false:=by simp;omega
   by_cases h98:x=98
   ·subst h98
    have RK:Hid (Wr (fun n v=>ZK (Zi i) (Zo i) (Zk i) cost f (p++[n]) v) (Zo i p) r=RES):=Hd (by
     have h:=RE.out;rw[if_pos rfl,if_neg hw] at h;exact h)
    have K:=Hd (ihk W2 P c p r hB2.out B2.out P2.out hne ho (by omega) (by omega) hr');rw[RK.out] at K;go_wp2_with (fail);refine K.out.mono ?_;rintro e W3 ⟨rfl,b3,m3⟩;have M3:=Hd (M2.out.tr m3);replace b3:=Hd b3;clear m3;go_wp2_with (fail);go_ret;exact⟨rfl,b3.out,M3.out⟩
   ·have n98:((x.toNat:Int)==98)=false:=by
     have:x.toNat≠98:=fun h=>h98 (UInt8.toNat_inj.1 h)
     simp;omega
    by_cases h108:x=108
    ·subst h108
     obtain rfl:RES=(8,r):=by have h:=RE.out;rw[if_neg h98,if_pos rfl,if_neg hw] at h;exact h.symm
     go_wp2_with (fail);go_ret;exact⟨rfl,B2.out,M2.out⟩
    ·have n108:((x.toNat:Int)==108)=false:=by
      have:x.toNat≠108:=fun h=>h108 (UInt8.toNat_inj.1 h)
      simp;omega
     by_cases h112:x=112
     ·subst h112
      have RB:Hid ((if Zk i p<cost then((13,r):Int×Wd) else(0,r))=RES):=Hd (by
       have h:=RE.out;rw[if_neg h98,if_neg h108,if_pos rfl] at h;exact h)
      by_cases hb:Zk i p<cost
      ·obtain rfl:RES=(13,r):=by have h:=RB.out;rw[if_pos hb] at h;exact h.symm
       go_wp2_with (fail);go_region_held3 (fun w'=>w'.cell? ⟨g,0,none⟩=some (.iface 158 px)/\w'.cell? ⟨g,1,none⟩=some (.int .i64 cost)) (go_keep)
        (first | (go_at_call 291;refine(CB.out _ (by(repeat (first | assumption | exact Ext.rf _ | apply Ext.drew | apply Ext.drewN | apply Ext.alloc)))).mono ?_;rintro e W3 ⟨rfl,x3⟩;have y3:=Ext.tr (a:=W2) (by(repeat (first | assumption | exact Ext.rf _ | apply Ext.drew | apply Ext.drewN | apply Ext.alloc))) x3;have s1:=Zc y3 gl2 t0;have s2:=Zc y3 gl2 t1))
       all_goals go_wp2_with (fail)
       all_goals go_ret
       all_goals exact⟨rfl,B2.out.ext y3,M2.out.ext y3⟩
      ·obtain rfl:RES=(0,r):=by have h:=RB.out;rw[if_neg hb] at h;exact h.symm
       go_wp2_with (fail);go_region_held3 (fun w'=>w'.cell? ⟨g,0,none⟩=some (.iface 158 px)/\w'.cell? ⟨g,1,none⟩=some (.int .i64 cost)) (go_keep)
        (first | (go_at_call 291;refine(CB.out _ (by(repeat (first | assumption | exact Ext.rf _ | apply Ext.drew | apply Ext.drewN | apply Ext.alloc)))).mono ?_;rintro e W3 ⟨rfl,x3⟩;have y3:=Ext.tr (a:=W2) (by(repeat (first | assumption | exact Ext.rf _ | apply Ext.drew | apply Ext.drewN | apply Ext.alloc))) x3;have s1:=Zc y3 gl2 t0;have s2:=Zc y3 gl2 t1))
       all_goals go_wp2_with (fail)
       all_goals go_ret
       all_goals exact⟨rfl,B2.out.ext y3,M2.out.ext y3⟩
     ·have n112:((x.toNat:Int)==112)=false:=by
       have:x.toNat≠112:=fun h=>h112 (UInt8.toNat_inj.1 h)
       simp;omega
      obtain rfl:RES=(2,r):=by have h:=RE.out;rw[if_neg h98,if_neg h108,if_neg h112] at h;exact h.symm
      go_wp2_with (fail);go_ret;exact⟨rfl,B2.out,M2.out⟩
theorem Za5 {i:InstP}{g:Nat}{W0:World}{px:Value}{cost:Int}(H:PV i g W0 px 292 293 291)(f:Nat)(ihn:Qp i g W0 158 px cost f) : Zb8 i g W0 158 px cost f:=by
 intro W P c p r hB hblk hP hne ho hf hlt0 hr;have n64:=H.n64;have t0:=hblk.c0;have gl:=hblk.lt;have mK:∀ (x a:Value) (u:World),(callMethod (.iface 158 x) "kurgan/check.kids" #[a]).run Tryz.prog u=.ok (.enter 293 #[x,a]) u:=fun _ _ _=>by kernel_rfl
 have CK:=Hd (fun(W':World) (y:Ext W W')=>H.cK W' P c p (hB.trans (Below.mono y (by omega))) (hP.ext y) ho hlt0);have KID:=Hd ((Wt H.chk).kid p ho hlt0);obtain⟨RES,hRES⟩:∃ RES,Hid (Wr (fun n v=>ZK (Zi i) (Zo i) (Zk i) cost f (p++[n]) v) (Zo i p) r=RES):=⟨_,rfl⟩;rw[hRES.out];have KL:(Zo i p).length<=64:=by
  have:=We H.chk p ho hlt0;split at this<;>omega
 have S0:Hid (Wr (fun n v=>ZK (Zi i) (Zo i) (Zk i) cost f (p++[n]) v) ((Zo i p).drop 0) r=RES):=hRES;generalize Zo i p=l at *;replace hblk:=Hd hblk;replace hP:=Hd hP;replace hB:=Hd hB;replace hf:=Hd hf;replace hlt0:=Hd hlt0;clear hRES;unfold Zcz at CK;go_enter Tryz.func105,Tryz.ntmps105;go_wp2_with (fail);refine(CK.out _ (by(repeat (first | assumption | exact Ext.rf _ | apply Ext.drew | apply Ext.drewN | apply Ext.alloc)))).mono ?_;rintro e W2 ⟨A,ac,rfl,oA,x2⟩;have X2:=Ext.tr (a:=W) (by(repeat (first | assumption | exact Ext.rf _ | apply Ext.drew | apply Ext.drewN | apply Ext.alloc))) x2;have B2:=Hd (hblk.out.ext X2);have M2:Hid (Mod (fun k=>k=g) W W2):=Mod.of_ext X2;have RA:=Hd oA.read;have neA:Hid (∀ b,bl A=some b->b≠g):=fun b hb=>by have:=(oA.lt b hb).1;omega
 clear x2 X2 oA CK t0;go_wp2_with (fail);go_loopw [16] (fun v16 wr=>∃ (m:Nat) (r':Wd),v16=.int .i64 m/\m<=l.length/\r'.length<=1000/\Hid (Wr (fun n v=>ZK (Zi i) (Zo i) (Zk i) cost f (p++[n]) v) (l.drop m) r'=RES)/\Hid (Blk wr g 101 #[.iface 158 px,.int .i64 cost,.string ⟨r'.toArray⟩])/\Hid (RdI wr A l)/\Hid (Mod (fun k=>k=g) W wr)) (fun v _=>l.length-(intOf v).toNat)
 case atStart=>exact⟨0,r,rfl,by omega,hr,S0,B2,RA,M2⟩
 case round =>
  obtain⟨wo,rfl⟩:∃ wo:World,wo=wr:=⟨_,rfl⟩;clear S0 B2 RA M2;obtain⟨m,r',rfl,hm,hr',hS,BB,RA,MM⟩:=hrel;have zo:=MM.out.size
  by_cases hmt:m<l.length
  ·obtain⟨pb,po,n,rfl,zn,cn,en,dn⟩:=RA.out.at (k:=m) hmt
   have q1:(m:Int)<(l.length:Int):=by omega
   have RP:=Hd (hP.out.modW MM.out hne);have OKN:=Hd (KID.out n (List.mem_of_getElem? en.out));have p64:p.length<=64:=by have:=hlt0.out;omega
   have el:(p++[n]).length=p.length+1:=by simp
   have SD:=hS.out;rw[dn.out,Wr] at SD;replace SD:=Hd SD;clear en dn hS;go_wp2_with (first
    | (at_builtin;refine Vn _ rfl _ _ rfl wo.heap.size _ p P c rfl rfl ?_ ?_ ?_ ?_ ?_;(first | exact .new (by simp) | exact .drew (.new (by simp)) | exact .alloc (.new (by simp)) _ | exact .drew (.alloc (.new (by simp)) _) | exact .alloc (.alloc (.new (by simp)) _) _ | exact .drew (.alloc (.alloc (.new (by simp)) _) _) | (repeat (first | assumption | (refine Blk.new ?_;(focus (simp;done))) | apply Blk.drew | apply Blk.drewN | apply Blk.alloc)));(first | exact Nat.le_refl _ | omega | (focus (simp;try omega)));(refine RP.out.ext ?_;(repeat (first | assumption | exact Ext.rf _ | apply Ext.drew | apply Ext.drewN | apply Ext.alloc)));omega;rintro A7 c7 w7 o7 x7;have y7:=Ext.tr (a:=wo) (by(repeat (first | assumption | exact Ext.rf _ | apply Ext.drew | apply Ext.drewN | apply Ext.alloc))) x7;have zw7:=y7.size)
    | (at_builtin;refine ZG _ rfl _ _ rfl wo.heap.size A7 p.length c7 p [n] (some ⟨w7.heap.size,0,none⟩) 1 rfl rfl rfl (o7.ext ((Ext.rf _).alloc _)) (.blk (.new rfl) rfl) (by simp;omega) (by simp;omega) ?_;rintro A8 c8 w8 o8 g8 _))
   have y8:Ext wo (w7.alloc (.cells #[.int .i64 n] 3)):=y7.alloc _;have X8:=y8.modT (QK (o7.ext ((Ext.rf w7).alloc (.cells #[.int .i64 n] 3))) g8) (Nat.le_refl _);have B8:=BB.out.ext X8;have M8:=MM.out.ext X8;have ne8:∀ b,bl A8=some b->b≠g:=fun b hb=>by have:=(o8.lt b hb).1;omega
   have hB8:=WJ hB.out M8 (by omega);have CN:=ihn w8 A8 c8 (p++[n]) r' hB8 B8 o8.read ne8 OKN.out (by rw[el];have:=hf.out;omega) hr';rw[el] at CN;have RL:(ZK (Zi i) (Zo i) (Zk i) cost f (p++[n]) r').2.length<=1000:=Nat.le_trans (Vx f _ _) hr';generalize ZK (Zi i) (Zo i) (Zk i) cost f (p++[n]) r'=res at *;obtain⟨re,rr⟩:=res;have RA8:=Hd (RA.out.ext X8);have z8:=M8.size;replace CN:=Hd CN;replace M8:=Hd M8;unfold Zb7 at CN;clear y8 X8 B8 o8 g8 o7 y7 zw7 ne8 hB8 x7 OKN RP el;go_wp2_with (fail);refine CN.out.mono ?_;rintro e w9 ⟨rfl,b9,m9⟩;have M9:=Hd (M8.out.tr m9);have RA9:=Hd (RA8.out.modW m9 neA.out);replace b9:=Hd b9;clear m9 CN RA8 M8 BB RA MM
   try simp only at SD
   try simp only at b9
   try simp only at RL
   by_cases he:re=0
   ·subst he
    have SD2:Hid (Wr (fun n v=>ZK (Zi i) (Zo i) (Zk i) cost f (p++[n]) v) (l.drop (m+1)) rr=RES):=by
     have h:=SD.out;rw[if_pos rfl] at h;exact h
    clear SD;go_wp2_with (fail);go_roundw
    case rel=>exact⟨m+1,rr,by go_num,by omega,RL,SD2,b9,RA9,M9⟩
    case measure=>simp[intOf];omega
   ·have e1:(re != 0)=true:=by simpa using he
    obtain rfl:RES=(re,rr):=by have h:=SD.out;rw[if_neg he] at h;exact h.symm
    clear SD;go_wp2_with (fail);go_ret;exact⟨rfl,b9.out,M9.out⟩
  ·have q1:¬(m:Int)<(l.length:Int):=by omega
   obtain rfl:RES=(0,r'):=by
    have h:=hS.out;rw[List.drop_of_length_le (by omega)] at h;exact h.symm
   go_wp2_with (fail);go_ret;exact⟨rfl,BB.out,MM.out⟩
theorem Qq {i:InstP}{g:Nat}{W0:World}{px:Value}{cost:Int}(H:PV i g W0 px 292 293 291) : ∀ f,Qp i g W0 158 px cost (f+1)
 | 0=>U5 H 0 (fun W P c p r _ _ _ _ _ hf hl _=>by omega)
 | f+1=>U5 H (f+1) (Za5 H (f+1) (Qq H f))
end Go.Proofs.YtmojhhlcocjoaaaGreatDoor
