/- parts, packed by a program -/
import Derived.Test.YtnbcmiaaleambaaGreatDoorShowTreesP8
import Derived.Shelf.Sort.AssemblyIn
import Derived.Sort.EveryDepth
import Derived.Shelf.Slices.In.SortNone
import Derived.Deep.CutBlock
import Derived.Shelf.Strings.Repeat
import Derived.Shelf.Strings.BuilderK
set_option maxRecDepth 100000
set_option maxHeartbeats 16000000
set_option linter.all false
namespace Go.Proofs.YtnbcmiaaleambaaGreatDoor
open Go.ChangeAt Go.ChangeShapes Go.Deep Go.RowKit Go.WideShapes
section
theorem Zfu (A B:Option Addr)(c d:Nat)(vs ws:List Int)(a b:Nat)(w:World)(hv:RdI w A vs)(hw:RdI w B ws)(sv:Small31 vs)(sw:Small31 ws)(ha:a<vs.length)(hb:b<vs.length)(ha':a<ws.length)(hb':b<ws.length)(lv:vs.length<=1000000)(lw:ws.length<=1000000) :
  Calls Tryz.prog 118 #[.slice A vs.length c,.slice B ws.length d,.int .i64 a,.int .i64 b] w fun e w'=>e=.returned (.bool (Wr vs ws a b))/\Ext w w':=by
 obtain⟨g1,o1,va,rfl,z1,c1,e1,_⟩:=hv.at ha;obtain⟨g1',o1',vb,h1',z1',c2,e2,_⟩:=hv.at hb;obtain⟨rfl,rfl⟩:g1=g1'/\o1=o1':=by injection h1' with h;injection h with h3 h4;exact⟨h3,h4⟩
 obtain⟨g2,o2,wa,rfl,z2,c3,e3,_⟩:=hw.at ha';obtain⟨g2',o2',wb,h2',z2',c4,e4,_⟩:=hw.at hb';obtain⟨rfl,rfl⟩:g2=g2'/\o2=o2':=by injection h2' with h;injection h with h3 h4;exact⟨h3,h4⟩
 have bva:=sv.get e1.out;have bvb:=sv.get e2.out;have bwa:=sw.get e3.out;have bwb:=sw.get e4.out;obtain⟨res,hres⟩:∃ res,Hid (res=Wr vs ws a b):=⟨_,rfl⟩;rw[<-hres.out];have HA:Hid (res=if wa=0\/wb=0 then decide (wa=0)&&(decide (wb≠0) || decide (a<b)) else decide (vb*wa<va*wb) || (decide (va*wb=vb*wa)&&decide (a<b))):=Hd (by
  rw[hres.out];unfold Wr;rw[getD_some e1.out,getD_some e2.out,getD_some e3.out,getD_some e4.out])
 clear h1' h2' hv hw sv sw e1 e2 e3 e4 hres
 by_cases hwa:wa=0
 ·subst hwa
  by_cases hwb:wb=0
  ·subst hwb
   have HR:Hid (res=decide (a<b)):=by
    have h:=HA.out;rw[if_pos (by simp)] at h;exact(by simpa using h:res=decide (a<b))
   clear HA;go_enter Tryz.func118,Tryz.ntmps118;go_wp2
   all_goals go_ret
   all_goals exact⟨XX HR.out.symm,Ext.rf _⟩
  ·have hwb':(wb != 0)=true:=by simpa using hwb
   have HR:Hid (res=true):=by
    have h:=HA.out;rw[if_pos (by simp)] at h;exact(by simpa [hwb] using h:res=true)
   clear HA hwb;go_enter Tryz.func118,Tryz.ntmps118;go_wp2
   all_goals go_ret
   all_goals exact⟨XX HR.out.symm,Ext.rf _⟩
 ·have hwa':(wa==0)=false:=by simpa using hwa
  by_cases hwb:wb=0
  ·subst hwb
   have HR:Hid (res=false):=by
    have h:=HA.out;rw[if_pos (by simp)] at h;exact(by simpa [hwa] using h:res=false)
   clear HA hwa;go_enter Tryz.func118,Tryz.ntmps118;go_wp2
   all_goals go_ret
   all_goals exact⟨XX HR.out.symm,Ext.rf _⟩
  ·have hwb':(wb==0)=false:=by simpa using hwb
   have HR0:Hid (res=(decide (vb*wa<va*wb) || (decide (va*wb=vb*wa)&&decide (a<b)))):=by
    have h:=HA.out;rw[if_neg (by simp[hwa,hwb])] at h;exact h
   obtain⟨p,hp⟩:∃ p,Hid (p=va*wb):=⟨_,rfl⟩;obtain⟨q,hq⟩:∃ q,Hid (q=vb*wa):=⟨_,rfl⟩;have bp:0<=p/\p<=4611686014132420609:=by rw[hp.out];exact Uh bva.1 bva.2 bwb.1 bwb.2
   have bq:0<=q/\q<=4611686014132420609:=by rw[hq.out];exact Uh bvb.1 bvb.2 bwa.1 bwa.2
   rw[<-hp.out,<-hq.out] at HR0;have hR:res=(decide (0<JK p q) || ((JK p q==0)&&decide (a<b))):=by
    have h:=HR0.out;unfold JK
    by_cases h1:p=q
    ·have h2:¬q<p:=by omega
     simp[h1,h]
    ·by_cases h2:p<q
     ·have h3:¬q<p:=by omega
      simp[h1,h2,h3,h]
     ·have h3:q<p:=by omega
      simp[h1,h2,h3,h]
   have HR:=Hd hR;clear hR;have CM:=Hd (fun W=>Zir p q W bp bq);have bc:-1<=JK p q/\JK p q<=1:=by unfold JK;split<;>(try split)<;>omega
   have M1:=Hd (fun W=>Zgg va wb p W bva bwb hp.out);have M2:=Hd (fun W=>Zgg vb wa q W bvb bwa hq.out);generalize JK p q=cc at *;clear HA hwa hwb HR0 bp bq;go_enter Tryz.func118,Tryz.ntmps118;go_wp2_with (fail);go_region_held3 (fun w'=>w'.cell? ⟨g1,o1+a,none⟩=some (.int .i64 va)/\w'.cell? ⟨g1,o1+b,none⟩=some (.int .i64 vb)/\w'.cell? ⟨g2,o2+a,none⟩=some (.int .i64 wa)/\w'.cell? ⟨g2,o2+b,none⟩=some (.int .i64 wb)) (go_keep)
    (first
    | (go_at_call_of 138 (Value.int .i64 va);refine(Zaq va _ bva.1 bva.2).mono ?_;rintro e w2 ⟨rfl,x2⟩;have y:=Ext.tr (a:=w) XI x2;have s1:=Zd y z1 c1;have s2:=Zd y z1 c2;have s3:=Zd y z2 c3;have s4:=Zd y z2 c4)
    | (go_at_call_of 138 (Value.int .i64 wb);refine(Zaq wb _ bwb.1 bwb.2).mono ?_;rintro e w3 ⟨rfl,x3⟩;have y:=Ext.tr (a:=w) (by(repeat (first | assumption | exact Ext.rf _ | apply Ext.drew | apply Ext.drewN | apply Ext.alloc))) x3;have s1:=Zd y z1 c1;have s2:=Zd y z1 c2;have s3:=Zd y z2 c3;have s4:=Zd y z2 c4)
    | (go_at_call_of 138 (Value.int .i64 vb);refine(Zaq vb _ bvb.1 bvb.2).mono ?_;rintro e w4 ⟨rfl,x4⟩;have y:=Ext.tr (a:=w) (by(repeat (first | assumption | exact Ext.rf _ | apply Ext.drew | apply Ext.drewN | apply Ext.alloc))) x4;have s1:=Zd y z1 c1;have s2:=Zd y z1 c2;have s3:=Zd y z2 c3;have s4:=Zd y z2 c4)
    | (go_at_call_of 138 (Value.int .i64 wa);refine(Zaq wa _ bwa.1 bwa.2).mono ?_;rintro e w5 ⟨rfl,x5⟩;have y:=Ext.tr (a:=w) (by(repeat (first | assumption | exact Ext.rf _ | apply Ext.drew | apply Ext.drewN | apply Ext.alloc))) x5;have s1:=Zd y z1 c1;have s2:=Zd y z1 c2;have s3:=Zd y z2 c3;have s4:=Zd y z2 c4)
    | (go_at_call_of 137 (YD false va 0);refine(M1.out _).mono ?_;rintro e w6 ⟨rfl,x6⟩;have y:=Ext.tr (a:=w) (by(repeat (first | assumption | exact Ext.rf _ | apply Ext.drew | apply Ext.drewN | apply Ext.alloc))) x6;have s1:=Zd y z1 c1;have s2:=Zd y z1 c2;have s3:=Zd y z2 c3;have s4:=Zd y z2 c4)
    | (go_at_call_of 137 (YD false vb 0);refine(M2.out _).mono ?_;rintro e w7 ⟨rfl,x7⟩;have y:=Ext.tr (a:=w) (by(repeat (first | assumption | exact Ext.rf _ | apply Ext.drew | apply Ext.drewN | apply Ext.alloc))) x7;have s1:=Zd y z1 c1;have s2:=Zd y z1 c2;have s3:=Zd y z2 c3;have s4:=Zd y z2 c4)
    | (go_at_call 136;refine(CM.out _).mono ?_;rintro e w8 ⟨rfl,x8⟩;have y:=Ext.tr (a:=w) (by(repeat (first | assumption | exact Ext.rf _ | apply Ext.drew | apply Ext.drewN | apply Ext.alloc))) x8;have s1:=Zd y z1 c1;have s2:=Zd y z1 c2;have s3:=Zd y z2 c3;have s4:=Zd y z2 c4))
   obtain rfl | rfl | rfl:cc=-1\/cc=0\/cc=1:=by omega
   ·have HF:Hid (res=false):=HR.out
    go_wp2
    all_goals go_ret
    all_goals exact⟨XX HF.out.symm,by(repeat (first | assumption | exact Ext.rf _ | apply Ext.drew | apply Ext.drewN | apply Ext.alloc))⟩
   ·have HF:Hid (res=decide (a<b)):=HR.out
    go_wp2
    all_goals go_ret
    all_goals exact⟨XX HF.out.symm,by(repeat (first | assumption | exact Ext.rf _ | apply Ext.drew | apply Ext.drewN | apply Ext.alloc))⟩
   ·have HF:Hid (res=true):=HR.out
    go_wp2
    all_goals go_ret
    all_goals exact⟨XX HF.out.symm,by(repeat (first | assumption | exact Ext.rf _ | apply Ext.drew | apply Ext.drewN | apply Ext.alloc))⟩
def Zbn (l:List Nat)(w:World)(e:Ending)(w':World) : Prop:=∃ A c,e=.returned (.tuple #[.slice A l.length c,.int .i64 0])/\OwI w' w.heap.size A c (nl l)/\Ext w w'
theorem Zfv (A B:Option Addr)(a b:Nat)(vs ws:List Int)(w:World)(hA:RdI w A vs)(hB:RdI w B ws)(hl:vs.length=ws.length)(h64:vs.length<=64)(sv:Small31 vs)(sw:Small31 ws) :
  Calls Tryz.prog 106 #[.slice A vs.length a,.slice B ws.length b] w (Zbn (ZR vs ws) w):=by
 have hne:((vs.length:Int) != (ws.length:Int))=false:=by simp[hl]
 have h64':(vs.length:Int)<=64:=by omega
 have BT:=fun(i j:Nat) (hi:i<vs.length) (hj:j<vs.length) (W:World) (x:Ext w W)=>Zfu A B a b vs ws i j W (hA.ext x) (hB.ext x) sv sw hi hj (by omega) (by omega) (by omega) (by omega)
 have PR:=Zdd (v:=vs) (w:=ws) (fun x hx=>(sw x hx).1);have RL:=Xw vs ws;have AL:=fun i m=>Zgn vs ws i m
 have PA:Hid (∀ i,i<vs.length->YK vs ws i vs.length<vs.length):=fun i hi=>by
  have hm:=(Qd (v:=vs) (w:=ws) (a:=i)).2 hi;obtain⟨k,hk,he⟩:=List.mem_iff_getElem.1 hm;have:=Jn (v:=vs) (w:=ws) (fun x hx=>(sw x hx).1) (k:=k) (a:=i) (by rw[List.getElem?_eq_getElem hk,he]);rw[Xw] at hk;omega
 replace hl:=Hd hl;replace BT:=Hd BT;replace PR:=Hd PR;replace RL:=Hd RL;replace AL:=Hd AL;go_enter Tryz.func106,Tryz.ntmps106;go_wp2_with (fail);go_loopw [6] (fun i wr=>∃ k:Nat,i=.int .i64 k/\k<=vs.length/\Ext w wr) (fun i _=>vs.length-(intOf i).toNat)
 case atStart=>exact⟨0,rfl,by omega,Ext.rf _⟩
 case round =>
  obtain⟨w1,rfl⟩:=Wq wr;obtain⟨k,rfl,hk,Y⟩:=hrel
  by_cases hlt:k<vs.length
  ·obtain⟨g1,o1,x,rfl,_,c1,e1,_⟩:=(hA.ext Y).at hlt
   obtain⟨g2,o2,y,rfl,_,c2,e2,_⟩:=(hB.ext Y).at (k:=k) (by rw[<-hl.out];exact hlt);have b1:=sv.get e1.out;have b2:=sw.get e2.out;have hkw:k<ws.length:=by rw[<-hl.out];exact hlt
   clear e1 e2;go_wp2;go_roundw
   case rel=>exact⟨k+1,by go_num,by omega,Y⟩
   case measure=>simp[intOf];omega
  ·obtain rfl:k=vs.length:=by omega
   clear hlt;have Yo:=Hd Y;go_wp2_with (at_make;refine W7 _ rfl _ _ rfl w.heap.size _ _ vs.length rfl rfl rfl rfl (by omega) Y.size ?_;rintro w3 o3 g3);have X3:=Hd (Y.grownNone g3);have O3:Hid (OwI w3 w.heap.size (some ⟨w1.heap.size,0,none⟩) vs.length (Vv (fun i=>YK vs ws i vs.length) vs.length 0)):=o3;have zr:=Y.size;clear o3 g3;go_loopw [8] (fun i wq=>∃ m:Nat,i=.int .i64 m/\m<=vs.length/\Hid (OwI wq w.heap.size (some ⟨w1.heap.size,0,none⟩) vs.length (Vv (fun i=>YK vs ws i vs.length) vs.length m))/\Ext w wq) (fun i _=>vs.length-(intOf i).toNat)
   case atStart=>exact⟨0,rfl,by omega,O3,X3.out⟩
   case round =>
    obtain⟨wo,rfl⟩:=Wq wr;obtain⟨m,rfl,hm,HO,Z⟩:=hrel
    by_cases hlm:m<vs.length
    ·go_wp2_with (fail)
     go_loopw [9,10] (fun n i wq=>∃ (j c:Nat),i=.int .i64 j/\n=.int .i64 c/\j<=vs.length/\c<=j/\Hid (c=YK vs ws m j)/\Ext wo wq) (fun _ i _=>vs.length-(intOf i).toNat)
     case atStart=>exact⟨0,0,rfl,rfl,by omega,by omega,by exact rfl,Ext.rf _⟩
     case round =>
      obtain⟨j,c,rfl,rfl,hj,hcj,HC,V⟩:=hrel;have HN:Hid (YK vs ws m (j+1)=c+if (decide (j≠m)&&Wr vs ws j m)=true then 1 else 0):=by
       have h:=Zdc vs ws m j;rw[<-HC.out] at h;exact h
      by_cases hlj:j<vs.length
      ·by_cases hjm:j=m
       ·subst hjm
        have HN2:Hid (c=YK vs ws j (j+1)):=by
         have h:=HN.out;simp at h;exact h.symm
        go_wp2_with (fail);go_roundw
        case rel=>exact⟨j+1,c,by go_num,rfl,by omega,by omega,HN2,V⟩
        case measure=>simp[intOf];omega
       ·have hb:((j:Int) != (m:Int))=true:=by rw[bne_iff_ne];omega
        have K:=BT.out j m hlj hlm _ (Z.tr V)
        cases hq:Wr vs ws j m with
        | true =>
         rw[hq] at K;have HN2:Hid (c+1=YK vs ws m (j+1)):=by
          have h:=HN.out;rw[hq] at h;simp[hjm] at h;exact h.symm
         clear hq hjm;go_wp2_with (fail);refine K.mono ?_;rintro e w5 ⟨rfl,x5⟩;go_wp2;go_roundw
         case rel=>exact⟨j+1,c+1,by go_num,by go_num,by omega,by omega,HN2,V.tr x5⟩
         case measure=>simp[intOf];omega
        | false =>
         rw[hq] at K;have HN2:Hid (c=YK vs ws m (j+1)):=by
          have h:=HN.out;rw[hq] at h;simp at h;exact h.symm
         clear hq hjm;go_wp2_with (fail);refine K.mono ?_;rintro e w5 ⟨rfl,x5⟩;go_wp2;go_roundw
         case rel=>exact⟨j+1,c,by go_num,rfl,by omega,by omega,HN2,V.tr x5⟩
         case measure=>simp[intOf];omega
      ·obtain rfl:j=vs.length:=by omega
       have hc:c<vs.length:=by rw[HC.out];exact PA.out m hlm
       have HO2:=HO.out.ext V;obtain⟨x,hcx,hfx,hbx,_,hset⟩:=HO2.cell (k:=c) (by rw[V9];exact hc);have HN2:Hid (OwI (wr.setCell ⟨w1.heap.size,c,none⟩ (.int .i64 m)) w.heap.size (some ⟨w1.heap.size,0,none⟩) vs.length (Vv (fun i=>YK vs ws i vs.length) vs.length (m+1))):=by
        have h:=hset.out m;rw[HC.out] at h ⊢;exact h
       have ZN:=Hd ((Z.tr V).setNew (p:=⟨w1.heap.size,c,none⟩) zr (.int .i64 m));clear hset HO2 HN;go_wp2;go_roundw
       case rel=>exact⟨m+1,by go_num,by omega,HN2,ZN.out⟩
       case measure=>simp[intOf];omega
    ·obtain rfl:m=vs.length:=by omega
     have HF:Hid (OwI wo w.heap.size (some ⟨w1.heap.size,0,none⟩) vs.length (nl (ZR vs ws))):=by
      have h:=HO.out;rw[PR.out] at h;exact h
     clear hlm HO;go_wp2;go_ret2;exact⟨_,_,by rw[RL.out];rfl,HF.out,Z⟩
def Yw (i:InstP) : List Nat:=ZR i.value i.weight
def wsP (i:InstP) : List Int:=Zu (Yw i) i.weight
def vsP (i:InstP) : List Int:=Zu (Yw i) i.value
theorem Wm {i:InstP}(ok:KnapOk i) : ((Yw i).length:Int)=i.n:=by unfold Yw;rw[Xw];exact ok.v
theorem Wt {l:List Nat}{v:List Int}(h:Small31 v) : Small31 (Zu l v):=by
 intro x hx;obtain⟨q,hq,rfl⟩:=List.mem_map.1 hx
 cases hv:v[q]? with
 | none=>simp[List.getD,hv]
 | some y=>rw[getD_some hv];exact h.get hv
theorem kok {i:InstP}(ok:KnapOk i) : KOk i.cap (Yw i) (wsP i) (vsP i) (Xr (vsP i) 0) :=
 ⟨ok.cap,by have:=Wm ok;have:=ok.n2;omega,YS _ _,YS _ _,by rw[VM];unfold vsP;rw[YS],Wt ok.sw,Wt ok.sv⟩
def Zjw (l:List Nat)(st:Option (Int×Int))(w:World)(e:Ending)(w':World) : Prop:=Ext w w'/\match st with
 | none=>e=.returned (.tuple #[.slice none 0 0,.int .i64 0,.int .i64 0,.bool false])
 | some (r,o)=>∃ A c,e=.returned (.tuple #[.slice A l.length c,.int .i64 r,.int .i64 o,.bool true])/\RdI w' A (nl l)
theorem Zbo (i:InstP)(us:List Value)(P:Option Addr)(c:Nat)(p:List Int)(w:World)(H:RInst w us i)(ok:KnapOk i)(hP:RdI w P p)(lp:p.length<=1000000000) :
  Calls Tryz.prog 82 #[.agg (List.toArray us),.slice P p.length c] w (Zjw (Yw i) (stP i.cap 0 (wsP i) (vsP i) p) w):=by
 have K:=kok ok;have lN:=Wm ok;have RA:=fun(A B:Option Addr) (a b:Nat) (W:World) (hA:RdI W A i.value) (hB:RdI W B i.weight)=>Zfv A B a b i.value i.weight W hA hB (by have:=ok.w;have:=ok.v;omega) (by have:=ok.v;have:=ok.n2;omega) ok.sv ok.sw
 have LM:∀ k q,(Yw i)[k]?=some q->q<i.weight.length/\q<i.value.length:=fun k q h=>by
  have h1:=VD h;have:=ok.w;have:=ok.v;omega
 have EW:∀ k q x,(Yw i)[k]?=some q->i.weight[q]?=some x->(wsP i)[k]?=some x:=fun k q x h1 h2=>WC h1 h2
 have EV:∀ k q x,(Yw i)[k]?=some q->i.value[q]?=some x->(vsP i)[k]?=some x:=fun k q x h1 h2=>WC h1 h2
 change ∀ (A B:Option Addr) (a b:Nat) (W:World),RdI W A i.value->RdI W B i.weight->Calls Tryz.prog _ _ W (Zbn (Yw i) W) at RA
 have K1:=K.cap;have K2:=K.l64;have K3:=K.lw;have K4:=K.lv;have K5:=K.sw;have K6:=K.sv;generalize Yw i=l at *;generalize wsP i=ws at *;generalize vsP i=vs at *;clear K ok;obtain⟨kind,nn,cap,xw,xv,co⟩:=i;obtain⟨A,a,B,b,D,d,rfl,⟨rA,iA,lA,mA⟩,⟨rB,iB,lB,mB⟩,-⟩:=H;simp only at *;obtain⟨n,rfl⟩:∃ n:Nat,nn=(n:Int):=⟨nn.toNat,by omega⟩;have hn:l.length=n:=by omega
 clear lN;obtain⟨kc1,kc2⟩:=K1;replace RA:=Hd RA;replace LM:=Hd LM;replace EW:=Hd EW;replace EV:=Hd EV;replace K3:=Hd K3;replace K4:=Hd K4;replace K5:=Hd K5;replace K6:=Hd K6;replace rA:=Hd rA;replace rB:=Hd rB;replace iA:=Hd iA;replace iB:=Hd iB;replace mA:=Hd mA;replace mB:=Hd mB;have hn2:n<=64:=by omega
 replace hn:=Hd hn;have B1:Hid (Blk (w.alloc (.cells #[.int .i64 kind,.int .i64 n,.int .i64 cap,.slice A xw.length a,.slice B xv.length b,.slice D co.length d] 25)) w.heap.size 25 #[.int .i64 kind,.int .i64 n,.int .i64 cap,.slice A xw.length a,.slice B xv.length b,.slice D co.length d]):=.new rfl;obtain⟨st,hst⟩:∃ st,Hid (stP cap 0 ws vs p=st):=⟨_,rfl⟩;rw[hst.out];go_enter Tryz.func82,Tryz.ntmps82;go_wp2_with (fail);refine(RA.out B A b a _ (rB.out.ext ((Ext.rf _).alloc _)) (rA.out.ext ((Ext.rf _).alloc _))).mono ?_;rintro e w2 ⟨LA,lc,rfl,oL,x2⟩;have X2:=Hd (Ext.tr (a:=w) XI x2);have B2:=Hd (B1.out.ext x2);have rL:=Hd oL.read;have d1:=B2.out.c1;have d2:=B2.out.c2;have d3:=B2.out.c3;have d4:=B2.out.c4;have zb:=B2.out.lt;clear x2 oL
 by_cases hlen:n<p.length
 ·have HN:Hid (st=none):=by
   have h:=hst.out;rw[Wv (by rw[K3.out,hn.out];exact hlen)] at h;exact h.symm
  go_wp2_with (fail);refine bodyPost_ret (v:=.tuple #[.slice none 0 0,.int .i64 0,.int .i64 0,.bool false]) (by simp[results,Tryz.results82,go_sem]) rfl ?_;rw[HN.out];exact⟨X2.out,rfl⟩
 ·have hlb:decide (n<p.length)=false:=by simpa using hlen
  go_wp2_with (fail);go_loopw [10,11,12] (fun r o i wr=>∃ (k:Nat) (room out:Int),i=.int .i64 k/\r=.int .i64 room/\o=.int .i64 out/\k<=p.length/\0<=room/\room<=2147483647/\0<=out/\out<=2147483647*(k:Int)/\Hid (st=stP room out (ws.drop k) (vs.drop k) (p.drop k))/\Ext w2 wr) (fun _ _ i _=>p.length-(intOf i).toNat)
  case atStart=>exact⟨0,cap,0,rfl,rfl,rfl,by omega,kc1,kc2,by omega,by omega,hst.out.symm,Ext.rf _⟩
  case round =>
   obtain⟨wo,rfl⟩:=Wq wr;obtain⟨k,room,out,rfl,rfl,rfl,hk,b1,b2,b3,b4,HS,Y⟩:=hrel
   by_cases hlt:k<p.length
   ·obtain⟨pb,po,x,rfl,_,cx,ex,dx⟩:=(hP.ext (X2.out.tr Y)).at hlt
    have hkl:k<l.length:=by rw[hn.out];omega
    obtain⟨q,hq0⟩:∃ q,Hid (l[k]?=some q):=⟨l[k],List.getElem?_eq_getElem hkl⟩;obtain⟨qb,qo,qi,rfl,zq,cq,eq,_⟩:=(rL.out.ext Y).at (k:=k) (by rw[ZT];exact hkl);obtain rfl:qi=(q:Int):=by
     have h1:=ZaN hq0.out;rw[eq.out] at h1;exact Option.some.inj h1
    obtain⟨hqw,hqv⟩:=LM.out k q hq0.out;obtain⟨wb,wo',u,rfl,zu,cu,eu,_⟩:=(rA.out.ext (X2.out.tr Y)).at hqw;obtain⟨vb,vo',v,rfl,zv,cv,ev,_⟩:=(rB.out.ext (X2.out.tr Y)).at hqv;have du:Hid (ws.drop k=u::ws.drop (k+1)):=by
     obtain⟨h1,h2⟩:=List.getElem?_eq_some_iff.1 (EW.out k q u hq0.out eu.out);exact(by rw[List.drop_eq_getElem_cons h1,h2]:ws.drop k=u::ws.drop (k+1))
    have dv:Hid (vs.drop k=v::vs.drop (k+1)):=by
     obtain⟨h1,h2⟩:=List.getElem?_eq_some_iff.1 (EV.out k q v hq0.out ev.out);exact(by rw[List.drop_eq_getElem_cons h1,h2]:vs.drop k=v::vs.drop (k+1))
    have bu:=K5.out.get (EW.out k q u hq0.out eu.out);have bv:=K6.out.get (EV.out k q v hq0.out ev.out);have e3:=Zd Y zb d3;have e4:=Zd Y zb d4;have HT:Hid (st=if x=1 then(if room-u<0 then none else stP (room-u) out (ws.drop (k+1)) (vs.drop (k+1)) (p.drop (k+1))) else if x=0 then(if room<0 then none else stP room (out+v) (ws.drop (k+1)) (vs.drop (k+1)) (p.drop (k+1))) else none):=by
     have h:=HS.out;rw[dx.out,du.out,dv.out] at h;exact h
    have wr1:Hid (IntKind.i64.wrap (room-u)=room-u):=IntWalk.i64_in _ (by omega);have wr2:Hid (IntKind.i64.wrap (out+v)=out+v):=IntWalk.i64_in _ (by omega);clear HS ex eu ev dx du dv eq;have qi1:(q:Int)<(xw.length:Int):=by omega
    have qi2:(q:Int)<(xv.length:Int):=by omega
    have qi3:(k:Int)<(l.length:Int):=by omega
    by_cases x1:x=1
    ·subst x1
     have wr1':=wr1.out
     by_cases hneg:room-u<0
     ·have HN:Hid (st=none):=by
       have h:=HT.out;rw[if_pos rfl,if_pos hneg] at h;exact h
      go_wp2_with (go_quiet (fail))
      all_goals (refine bodyPost_ret (v:=.tuple #[.slice none 0 0,.int .i64 0,.int .i64 0,.bool false]) (by simp[results,Tryz.results82,go_sem]) rfl ?_)
      all_goals rw[HN.out]
      all_goals exact⟨Ext.tr X2.out (by repeat (first | exact Y | apply Ext.drewN)),rfl⟩
     ·have HN:Hid (st=stP (room-u) out (ws.drop (k+1)) (vs.drop (k+1)) (p.drop (k+1))):=by
       have h:=HT.out;rw[if_pos rfl,if_neg hneg] at h;exact h
      go_wp2_with (go_quiet (fail));go_roundw
      case rel=>exact⟨k+1,room-u,out,by go_num,rfl,rfl,by omega,by omega,by omega,by omega,by omega,HN,by repeat (first | exact Y | apply Ext.drewN)⟩
      case measure=>simp[intOf];omega
    ·have x1':(x==1)=false:=by simpa using x1
     have x1n:(x != 1)=true:=by simpa using x1
     by_cases x0:x=0
     ·subst x0
      have wr2':=wr2.out;have HN:Hid (st=stP room (out+v) (ws.drop (k+1)) (vs.drop (k+1)) (p.drop (k+1))):=by
       have h:=HT.out;rw[if_neg x1,if_pos rfl,if_neg (by omega)] at h;exact h
      clear x1;go_wp2_with (go_quiet (fail));go_roundw
      case rel=>exact⟨k+1,room,out+v,by go_num,rfl,rfl,by omega,by omega,by omega,by omega,by omega,HN,by repeat (first | exact Y | apply Ext.drewN)⟩
      case measure=>simp[intOf];omega
     ·have x0n:(x != 0)=true:=by simpa using x0
      have HN:Hid (st=none):=by
       have h:=HT.out;rw[if_neg x1,if_neg x0] at h;exact h
      clear x1 x0;go_wp2_with (go_quiet (fail))
      all_goals (refine bodyPost_ret (v:=.tuple #[.slice none 0 0,.int .i64 0,.int .i64 0,.bool false]) (by simp[results,Tryz.results82,go_sem]) rfl ?_)
      all_goals rw[HN.out]
      all_goals exact⟨Ext.tr X2.out (by repeat (first | exact Y | apply Ext.drewN)),rfl⟩
   ·have HN:Hid (st=some (room,out)):=by
     have h:=HS.out;rw[List.drop_of_length_le (l:=p) (i:=k) (by omega)] at h;have h2:stP room out (ws.drop k) (vs.drop k) []=some (room,out):=by cases ws.drop k<;>cases vs.drop k<;>rfl
     rw[h2] at h;exact h
    clear HS;go_wp2_with (fail);refine bodyPost_ret (v:=.tuple #[.slice LA l.length lc,.int .i64 room,.int .i64 out,.bool true]) (by simp[results,Tryz.results82,go_sem]) rfl ?_;rw[HN.out];exact⟨Ext.tr X2.out Y,LA,lc,rfl,rL.out.ext Y⟩
theorem KrnOk.perm {D:Nat}{kids kids':List Int->List Int}{bound:List Int->Int}{okp:List Int->Prop}{bx:List Int->Int}(h:KrnOk D kids bound okp bx)(hk:∀ p,okp p->p.length<D->∀ n,n∈kids p↔n∈kids' p) : KrnOk D kids' bound okp bx where
 len:=h.len
 kid:=fun p ho hl n hn=>h.kid p ho hl n ((hk p ho hl n).2 hn)
 leaf:=h.leaf
 low:=h.low
 node:=fun p ho hl=>JI (hk p ho hl) (h.node p ho hl)
def Zo (i:InstP) : Nat:=if i.kind=3 then i.n.toNat-1 else i.n.toNat
def J7 (cap:Int)(ws p:List Int) : List Int:=match ws.drop p.length with
 | []=>[]
 | w::_=>if w<=Zgf cap ws p then [0,1] else [0]
def ZbF (a n:Nat)(p:List Int) : List Int:=Zf ((List.range n).filter fun c=>decide (a<=c) && !p.contains (c:Int))
def ZB (i:InstP)(p:List Int) : List Int:=if i.kind=1 then J7 i.cap (wsP i) p else ZbF (if i.kind=2 then 0 else 1) i.cost.length p
def QB (i:InstP)(p:List Int) : Int:=if i.kind=1 then(Ym i.cap (wsP i) (vsP i) p).1 else if i.kind=2 then(ZX i.cost p).1 else(ZZ i.cost (Wh i.cost) p).1
def okI (i:InstP)(p:List Int) : Prop:=if i.kind=1 then ∃ q,stP i.cap 0 (wsP i) (vsP i) p=some q else if i.kind=2 then ∃ m,Ye i.cost.length p=some m else ∃ s,Yq i.cost p=some s
def bxI (i:InstP)(p:List Int) : Int:=if i.kind=1 then W9 i.cap (wsP i) (vsP i) p else if i.kind=2 then Vt i.cost i.cost.length (i.cost.length-p.length) p else Vu i.cost (i.cost.length-1-p.length) p
theorem ZbG {l:List Nat}{c:Nat} : (Zf l).contains (c:Int)=true↔c∈l:=by
 rw[List.contains_iff_mem];unfold Zf;rw[List.mem_map]
 constructor
 ·rintro ⟨d,hd,e⟩
  have:d=c:=by omega
  exact this ▸ hd
 ·exact fun h=>⟨c,h,rfl⟩
theorem Zcu {n:Nat}{p:List Int}{l:List Nat}{m a:Nat}(hp:p=Zf l)(hm:∀ x,x∈Zb m↔(x<n/\a<=x)/\x∉l) : ZbF a n p=Zf (Zb m):=by
 unfold ZbF
 congr 1
 refine List.Perm.eq_of_pairwise (le:=(· < ·)) (fun a b _ _ h1 h2=>by omega) (List.Pairwise.filter _ List.pairwise_lt_range) (ZD m) ?_;refine(List.perm_ext_iff_of_nodup ((List.Pairwise.filter _ List.pairwise_lt_range).imp fun h=>Nat.ne_of_lt h) ((ZD m).imp fun h=>Nat.ne_of_lt h)).2 fun c=>?_
 rw[hm c,List.mem_filter,List.mem_range,Bool.and_eq_true,decide_eq_true_eq,Bool.not_eq_true',hp];have:=ZbG (l:=l) (c:=c)
 constructor
 ·rintro ⟨h1,h2,h3⟩
  exact⟨⟨h1,h2⟩,fun h=>by rw[this.2 h] at h3;cases h3⟩
 ·rintro ⟨⟨h1,h2⟩,h3⟩
  refine⟨h1,h2,?_⟩
  cases h4:(Zf l).contains (c:Int) with
  | false=>rfl
  | true=>exact absurd (this.1 h4) h3
theorem QC {n:Nat}(h24:n<=24){p:List Int}{m:Nat}(h:Ye n p=some m) : ZbF 0 n p=Zf (Zb m):=by
 obtain⟨l,e1,_,_,e4⟩:=Za2 h24 h;exact Zcu e1 fun x=>by rw[e4 x];simp
theorem Zbp {rows:List (List Int)}(h1:1<=rows.length)(h24:rows.length<=24){p:List Int}{m last:Nat}{cost:Int}(h:Yq rows p=some (m,last,cost)) : ZbF 1 rows.length p=Zf (Zb m):=by
 obtain⟨l,W⟩:=XM h1 h24 h;exact Zcu W.eq fun x=>by
  rw[W.rest x]
  constructor
  ·rintro ⟨⟨h1,h2⟩,h3⟩;exact⟨⟨h1,by omega⟩,h3⟩
  ·rintro ⟨⟨h1,h2⟩,h3⟩;exact⟨⟨h1,by omega⟩,h3⟩
theorem Zjx {cap:Int}{ws vs p:List Int}{r o:Int}(h:stP cap 0 ws vs p=some (r,o))(n:Int) : n∈(XG cap ws vs p).1↔n∈J7 cap ws p:=by
 have e:=(Jg h).1;unfold XG J7;rw[h,e];simp only
 cases ws.drop p.length with
 | nil=>simp
 | cons w t =>
  simp only;split<;>simp[or_comm]
theorem QD {i:InstP}(ok:KnapOk i) : (wsP i).length=(vsP i).length/\((wsP i).length:Int)=i.n/\(∀ x∈wsP i,0<=x)/\(∀ x∈vsP i,0<=x/\x<=2147483647)/\Falls (wsP i) (vsP i):=by
 have sw:=ok.sw;have sv:=ok.sv;have hw:∀ x∈i.weight,0<=x:=fun x hx=>(sw x hx).1
 have hv:∀ x∈i.value,0<=x:=fun x hx=>(sv x hx).1
 have l1:(wsP i).length=(Yw i).length:=YS _ _;have l2:(vsP i).length=(Yw i).length:=YS _ _;have lo:=Wm ok;refine⟨by omega,by omega,fun x hx=>(Wt sw x hx).1,fun x hx=>Wt sv x hx,?_⟩;exact Zdg hv hw (U8 hw)
theorem Zj1 {rows:List (List Int)}(ok:RowsOk rows)(a b:Nat)(ha:a<rows.length)(hb:b<rows.length) : 0<=Za rows a b/\Za rows a b<=2147483647:=by
 unfold Za;have e:rows.getD a []=rows[a]:=by simp[List.getD,List.getElem?_eq_getElem ha]
 rw[e];exact ok.get (List.getElem_mem ha) hb
theorem U5 {i:InstP}(hc:Zk i=0) : okI i []:=by
 unfold okI;rcases ZL hc with h | h | h
 ·rw[if_pos h]
  exact⟨(i.cap,0),by cases wsP i<;>cases vsP i<;>rfl⟩
 ·rw[if_neg (by omega),if_pos h]
  exact⟨_,Ze4⟩
 ·rw[if_neg (by omega),if_neg (by omega)]
  exact⟨_,Ze6⟩
theorem XT {i:InstP}(hc:Zk i=0) : KrnOk (Zo i) (ZB i) (QB i) (okI i) (bxI i):=by
 rcases ZL hc with h | h | h
 ·have ok:=Yj hc h
  obtain⟨f1,f2,f3,f4,f5⟩:=QD ok;have K:=(Zik ok.cap.1 f3 f4 f1 f5).perm (kids':=J7 i.cap (wsP i)) fun p ⟨⟨r,o⟩,hp⟩ _ n=>Zjx hp n
  have hd:Zo i=(wsP i).length:=by unfold Zo;rw[if_neg (by omega)];omega
  have e1:ZB i=J7 i.cap (wsP i):=by funext p;unfold ZB;rw[if_pos h]
  have e2:QB i=fun p=>(Ym i.cap (wsP i) (vsP i) p).1:=by funext p;unfold QB;rw[if_pos h]
  have e3:okI i=fun p=>∃ q,stP i.cap 0 (wsP i) (vsP i) p=some q:=by funext p;unfold okI;rw[if_pos h]
  have e4:bxI i=W9 i.cap (wsP i) (vsP i):=by funext p;unfold bxI;rw[if_pos h]
  rw[hd,e1,e2,e3,e4];exact K
 ·have sq:=Zt hc (by omega)
  have rok:=ZP sq;have K:=(Zfq rok).perm (kids':=ZbF 0 i.cost.length) fun p ⟨m,hp⟩ _ n=>by
   obtain⟨l,e1,e2,_⟩:=Q2 hp;rw[e1,QC rok.n2 hp];unfold Zf;rw[List.mem_map,List.mem_map];exact⟨fun⟨c,hc,e⟩=>⟨c,e2.mem_iff.1 hc,e⟩,fun⟨c,hc,e⟩=>⟨c,e2.mem_iff.2 hc,e⟩⟩
  have hd:Zo i=i.cost.length:=by unfold Zo;rw[if_neg (by omega)];have:=sq.len;omega
  have e1:ZB i=ZbF 0 i.cost.length:=by funext p;unfold ZB;rw[if_neg (by omega),if_pos h]
  have e2:QB i=fun p=>(ZX i.cost p).1:=by funext p;unfold QB;rw[if_neg (by omega),if_pos h]
  have e3:okI i=fun p=>∃ m,Ye i.cost.length p=some m:=by funext p;unfold okI;rw[if_neg (by omega),if_pos h]
  have e4:bxI i=fun p=>Vt i.cost i.cost.length (i.cost.length-p.length) p:=by funext p;unfold bxI;rw[if_neg (by omega),if_pos h]
  rw[hd,e1,e2,e3,e4];exact K
 ·have sq:=Zt hc (by omega)
  have rok:=ZP sq;have K:=(Zil (mi:=Wh i.cost) rok (Zj1 rok) (fun h=>ZhS h)).perm (kids':=ZbF 1 i.cost.length) fun p ⟨⟨m,last,cost⟩,hp⟩ _ n=>by
   obtain⟨l,e1,e2,_⟩:=Q6 hp;rw[e1,Zbp rok.n1 rok.n2 hp];unfold Zf;rw[List.mem_map,List.mem_map];exact⟨fun⟨c,hc,e⟩=>⟨c,e2.mem_iff.1 hc,e⟩,fun⟨c,hc,e⟩=>⟨c,e2.mem_iff.2 hc,e⟩⟩
  have hd:Zo i=i.cost.length-1:=by unfold Zo;rw[if_pos h];have:=sq.len;omega
  have e1:ZB i=ZbF 1 i.cost.length:=by funext p;unfold ZB;rw[if_neg (by omega),if_neg (by omega)]
  have e2:QB i=fun p=>(ZZ i.cost (Wh i.cost) p).1:=by funext p;unfold QB;rw[if_neg (by omega),if_neg (by omega)]
  have e3:okI i=fun p=>∃ s,Yq i.cost p=some s:=by funext p;unfold okI;rw[if_neg (by omega),if_neg (by omega)]
  have e4:bxI i=fun p=>Vu i.cost (i.cost.length-1-p.length) p:=by funext p;unfold bxI;rw[if_neg (by omega),if_neg (by omega)]
  rw[hd,e1,e2,e3,e4];exact K
def KernI (w:World)(g:Nat)(i:InstP) : Prop:=Zk i=0 /\
 ((i.kind=1/\∃ gk base,FaceB w g 61 gk/\KernB w base gk i.cap (Yw i) (wsP i) (vsP i) (Xr (vsP i) 0)) ∨
  (i.kind=2/\∃ gk base,FaceB w g 68 gk/\KernA w base gk i.cost) ∨
  (i.kind=3/\∃ gk base,FaceB w g 71 gk/\KernT w base gk i.cost (Wh i.cost)))
theorem KernI.ext {w w':World}{g:Nat}{i:InstP}(h:KernI w g i)(x:Ext w w') : KernI w' g i:=by
 obtain⟨hc,h⟩:=h;refine⟨hc,?_⟩;rcases h with⟨hk,gk,base,h1,h2⟩ | ⟨hk,gk,base,h1,h2⟩ | ⟨hk,gk,base,h1,h2⟩
 ·exact .inl ⟨hk,gk,base,h1.ext x,h2.ext x⟩
 ·exact .inr (.inl ⟨hk,gk,base,h1.ext x,h2.ext x⟩)
 ·exact .inr (.inr ⟨hk,gk,base,h1.ext x,h2.ext x⟩)
def Zw (i:InstP)(p:List Int) : Int×Int:=if i.kind=1 then Ym i.cap (wsP i) (vsP i) p else if i.kind=2 then ZX i.cost p else ZZ i.cost (Wh i.cost) p
def J8 (i:InstP)(p:List Int) : List Int×Int:=if i.kind=1 then XG i.cap (wsP i) (vsP i) p else if i.kind=2 then Xs i.cost p else Xu i.cost p
theorem Zjy (j:InstP)(vs:List Value)(w:World)(H:RInst w vs j)(lw:j.weight.length<=1000000000)(lv:j.value.length<=1000000000) :
  Calls Tryz.prog 7 #[.agg (List.toArray vs)] w fun e w'=>((Zk j≠0/\e=.returned (.tuple #[.pointer none,.int .i64 (Zk j)]))\/(Zk j=0/\∃ g,e=.returned (.tuple #[.pointer (some ⟨g,0,none⟩),.int .i64 0])/\KernI w' g j))/\Ext w w':=by
 by_cases hc:Zk j=0
 ·rcases ZL hc with hk | hk | hk
  ·refine(Zkh j vs w H hc hk).mono ?_
   rintro e w' ⟨⟨g,gk,base,rfl,h1,h2⟩,x⟩;exact⟨.inr ⟨hc,g,rfl,hc,.inl ⟨hk,gk,base,h1,h2⟩⟩,x⟩
  ·refine(Zki j vs w H hc hk).mono ?_
   rintro e w' ⟨⟨g,gk,base,rfl,h1,h2⟩,x⟩;exact⟨.inr ⟨hc,g,rfl,hc,.inr (.inl ⟨hk,gk,base,h1,h2⟩)⟩,x⟩
  ·refine(Zkj j vs w H hc hk).mono ?_
   rintro e w' ⟨⟨g,gk,base,rfl,h1,h2⟩,x⟩;exact⟨.inr ⟨hc,g,rfl,hc,.inr (.inr ⟨hk,gk,base,h1,h2⟩)⟩,x⟩
 ·refine(Zkb j vs w H lw lv hc).mono ?_
  rintro e w' ⟨rfl,x⟩;exact⟨.inl ⟨hc,rfl⟩,x⟩
theorem Zeo {w:World}{g gk:Nat}{n:Int}(h:FaceB w g 61 gk)(D:Calls Tryz.prog 177 #[.pointer (some ⟨gk,0,none⟩)] w fun e w'=>e=.returned (.int .i64 n)/\Ext w w') :
  Calls Tryz.prog 61 #[.pointer (some ⟨g,0,none⟩)] w fun e w'=>e=.returned (.int .i64 n)/\Ext w w':=by
 have c0:=Blk.c0 h;have hm:∀ (x:Value) (u:World),(callMethod (.iface 61 x) "Depth" #[]).run Tryz.prog u=.ok (.enter 177 #[x]) u:=fun _ _=>by kernel_rfl
 replace D:=Hd D;go_enter Tryz.func61,Tryz.ntmps61;go_wp2_with (fail);refine D.out.mono ?_;rintro e w1 ⟨rfl,x1⟩;go_wp2_with (fail);go_ret;exact⟨rfl,x1⟩
theorem Zep {w:World}{g gk:Nat}{a b:Int}{s:Value}(h:FaceB w g 61 gk)(D:Calls Tryz.prog 176 #[.pointer (some ⟨gk,0,none⟩),s] w fun e w'=>e=.returned (.tuple #[.int .i64 a,.int .i64 b])/\Ext w w') :
  Calls Tryz.prog 36 #[.pointer (some ⟨g,0,none⟩),s] w fun e w'=>e=.returned (.tuple #[.int .i64 a,.int .i64 b])/\Ext w w':=by
 have c0:=Blk.c0 h;have hm:∀ (x y:Value) (u:World),(callMethod (.iface 61 x) "Bound" #[y]).run Tryz.prog u=.ok (.enter 176 #[x,y]) u:=fun _ _ _=>by kernel_rfl
 replace D:=Hd D;go_enter Tryz.func36,Tryz.ntmps36;go_wp2_with (fail);refine D.out.mono ?_;rintro e w1 ⟨rfl,x1⟩;go_wp2_with (fail);go_ret2;exact⟨rfl,x1⟩
theorem Zeq {w:World}{g gk:Nat}{n:Int}(h:FaceB w g 68 gk)(D:Calls Tryz.prog 186 #[.pointer (some ⟨gk,0,none⟩)] w fun e w'=>e=.returned (.int .i64 n)/\Ext w w') :
  Calls Tryz.prog 61 #[.pointer (some ⟨g,0,none⟩)] w fun e w'=>e=.returned (.int .i64 n)/\Ext w w':=by
 have c0:=Blk.c0 h;have hm:∀ (x:Value) (u:World),(callMethod (.iface 68 x) "Depth" #[]).run Tryz.prog u=.ok (.enter 186 #[x]) u:=fun _ _=>by kernel_rfl
 replace D:=Hd D;go_enter Tryz.func61,Tryz.ntmps61;go_wp2_with (fail);refine D.out.mono ?_;rintro e w1 ⟨rfl,x1⟩;go_wp2_with (fail);go_ret;exact⟨rfl,x1⟩
theorem Zer {w:World}{g gk:Nat}{a b:Int}{s:Value}(h:FaceB w g 68 gk)(D:Calls Tryz.prog 185 #[.pointer (some ⟨gk,0,none⟩),s] w fun e w'=>e=.returned (.tuple #[.int .i64 a,.int .i64 b])/\Ext w w') :
  Calls Tryz.prog 36 #[.pointer (some ⟨g,0,none⟩),s] w fun e w'=>e=.returned (.tuple #[.int .i64 a,.int .i64 b])/\Ext w w':=by
 have c0:=Blk.c0 h;have hm:∀ (x y:Value) (u:World),(callMethod (.iface 68 x) "Bound" #[y]).run Tryz.prog u=.ok (.enter 185 #[x,y]) u:=fun _ _ _=>by kernel_rfl
 replace D:=Hd D;go_enter Tryz.func36,Tryz.ntmps36;go_wp2_with (fail);refine D.out.mono ?_;rintro e w1 ⟨rfl,x1⟩;go_wp2_with (fail);go_ret2;exact⟨rfl,x1⟩
theorem Zes {w:World}{g gk:Nat}{n:Int}(h:FaceB w g 71 gk)(D:Calls Tryz.prog 208 #[.pointer (some ⟨gk,0,none⟩)] w fun e w'=>e=.returned (.int .i64 n)/\Ext w w') :
  Calls Tryz.prog 61 #[.pointer (some ⟨g,0,none⟩)] w fun e w'=>e=.returned (.int .i64 n)/\Ext w w':=by
 have c0:=Blk.c0 h;have hm:∀ (x:Value) (u:World),(callMethod (.iface 71 x) "Depth" #[]).run Tryz.prog u=.ok (.enter 208 #[x]) u:=fun _ _=>by kernel_rfl
 replace D:=Hd D;go_enter Tryz.func61,Tryz.ntmps61;go_wp2_with (fail);refine D.out.mono ?_;rintro e w1 ⟨rfl,x1⟩;go_wp2_with (fail);go_ret;exact⟨rfl,x1⟩
theorem Zet {w:World}{g gk:Nat}{a b:Int}{s:Value}(h:FaceB w g 71 gk)(D:Calls Tryz.prog 207 #[.pointer (some ⟨gk,0,none⟩),s] w fun e w'=>e=.returned (.tuple #[.int .i64 a,.int .i64 b])/\Ext w w') :
  Calls Tryz.prog 36 #[.pointer (some ⟨g,0,none⟩),s] w fun e w'=>e=.returned (.tuple #[.int .i64 a,.int .i64 b])/\Ext w w':=by
 have c0:=Blk.c0 h;have hm:∀ (x y:Value) (u:World),(callMethod (.iface 71 x) "Bound" #[y]).run Tryz.prog u=.ok (.enter 207 #[x,y]) u:=fun _ _ _=>by kernel_rfl
 replace D:=Hd D;go_enter Tryz.func36,Tryz.ntmps36;go_wp2_with (fail);refine D.out.mono ?_;rintro e w1 ⟨rfl,x1⟩;go_wp2_with (fail);go_ret2;exact⟨rfl,x1⟩
theorem Zfw {w:World}{g:Nat}{i:InstP}(h:KernI w g i) : Calls Tryz.prog 61 #[.pointer (some ⟨g,0,none⟩)] w fun e w'=>e=.returned (.int .i64 (Zo i))/\Ext w w':=by
 obtain⟨hc,h⟩:=h;rcases h with⟨hk,gk,base,h1,h2⟩ | ⟨hk,gk,base,h1,h2⟩ | ⟨hk,gk,base,h1,h2⟩
 ·have ok:=Yj hc hk
  have D:=ZbX w h2;rw[show ((Yw i).length:Int)=Zo i by
   have h3:=Wm ok;unfold Zo;rw[if_neg (by omega)];omega] at D
  exact Zeo h1 D
 ·have sq:=Zt hc (by omega)
  have D:=ZaU w h2;rw[show (i.cost.length:Int)=Zo i by
   unfold Zo;rw[if_neg (by omega)];have:=sq.len;omega] at D
  exact Zeq h1 D
 ·have sq:=Zt hc (by omega)
  have D:=ZaT w h2 (ZP sq).n1 (ZP sq).n2;rw[show ((i.cost.length:Int)-1)=Zo i by
   unfold Zo;rw[if_pos hk];have:=sq.len;have:=sq.n1;omega] at D
  exact Zes h1 D
theorem Zfx {w:World}{g:Nat}{i:InstP}(P:Option Addr)(pc:Nat)(p:List Int)(h:KernI w g i)(hT:Tab w)(hP:RdI w P p)(lp:p.length<=1000000000) :
  Calls Tryz.prog 36 #[.pointer (some ⟨g,0,none⟩),.slice P p.length pc] w fun e w'=>e=.returned (.tuple #[.int .i64 (Zw i p).1,.int .i64 (Zw i p).2])/\Ext w w':=by
 obtain⟨hc,h⟩:=h;unfold Zw;rcases h with⟨hk,gk,base,h1,h2⟩ | ⟨hk,gk,base,h1,h2⟩ | ⟨hk,gk,base,h1,h2⟩
 ·rw[if_pos hk]
  exact Zep h1 (ZgK P pc p w h2 (kok (Yj hc hk)) rfl hP lp)
 ·rw[if_neg (by omega),if_pos hk]
  exact Zer h1 (ZeY P pc p w hT h2 (ZP (Zt hc (by omega))) hP lp)
 ·rw[if_neg (by omega),if_neg (by omega)]
  exact Zet h1 (Zfb P pc p w hT h2 (ZP (Zt hc (by omega))) hP lp)
theorem Zhe {base g:Nat}{cap:Int}{l:List Nat}{ws vs bs:List Int}(P:Option Addr)(c:Nat)(p:List Int)(w:World)(H:KernB w base g cap l ws vs bs)(ok:KOk cap l ws vs bs)(hP:RdI w P p)(lp:p.length<=1000000000) :
  Calls Tryz.prog 178 #[.pointer (some ⟨g,0,none⟩),.slice P p.length c] w (Ys (XG cap ws vs p).1 (XG cap ws vs p).2 w):=by
 have ST:=ZbY P c p w H ok hP lp;have HD:=fun W (x:Ext w W)=>ZbX W (H.ext x)
 obtain⟨PA,pc,WA,wc,VA,vc,HA,hc,hB,-,-,⟨rW,-⟩,-,-⟩:=H;obtain⟨okc,l64,lw,lv,lb,sw,sv⟩:=ok;have c2:=hB.c2;have zg:=hB.lt;replace hB:=Hd hB;replace ST:=Hd ST;replace HD:=Hd HD;have HL:∀ q,stP cap 0 ws vs p=some q->p.length<=ws.length:=fun q hq=>by
  by_cases h:ws.length<p.length
  ·rw[Wv h] at hq;cases hq
  ·omega
 have HK:∀ o,stP cap 0 ws vs p=o->XG cap ws vs p=(match o with
  | none=>([],1)
  | some (room,_)=>match ws.drop p.length with
   | []=>([],0)
   | u::_=>if u<=room then([1,0],0) else([0],0)):=fun o ho=>by subst ho;rfl
 replace HL:=Hd HL;replace HK:=Hd HK;obtain⟨st,hst⟩:∃ st,Hid (stP cap 0 ws vs p=st):=⟨_,rfl⟩;rw[hst.out] at ST;have HK2:=HK.out _ hst.out;clear HK;rcases st with _ | ⟨room,out⟩
 ·rw[HK2]
  clear HK2;go_enter Tryz.func178,Tryz.ntmps178;go_wp2_with (fail);refine ST.out.mono ?_;rintro e w1 ⟨rfl,x1⟩;unfold ZaP;go_wp2;go_ret2;exact⟨none,0,rfl,OwI.nil _ _,x1⟩
 ·have hle:=HL.out _ hst.out
  by_cases hpl:p.length=l.length
  ·have hd:ws.drop p.length=[]:=List.drop_of_length_le (by omega)
   rw[hd] at HK2;simp only at HK2;rw[HK2];have hpl':((p.length:Int)==(l.length:Int))=true:=by rw[beq_iff_eq];omega
   clear HK2 hd;replace hpl:=Hd hpl;replace lw:=Hd lw;replace lv:=Hd lv;replace lb:=Hd lb;go_enter Tryz.func178,Tryz.ntmps178;go_wp2_with (fail);refine ST.out.mono ?_;rintro e w1 ⟨rfl,x1⟩;unfold ZaP;go_wp2_with (fail);refine(HD.out _ x1).mono ?_;rintro e w2 ⟨rfl,x2⟩;go_wp2;go_ret2;exact⟨none,0,rfl,OwI.nil _ _,Ext.tr x1 x2⟩
  ·have hlt:p.length<ws.length:=by omega
   obtain⟨wb,wo,u,rfl,zu,cu,eu,du⟩:=rW.at hlt;rw[du.out] at HK2;simp only at HK2;have hpl':((p.length:Int)==(l.length:Int))=false:=by rw[beq_eq_false_iff_ne];omega
   replace lw:=Hd lw;replace lv:=Hd lv;replace lb:=Hd lb
   by_cases hu:u<=room
   ·rw[if_pos hu] at HK2
    rw[HK2];clear HK2 hpl eu du;go_enter Tryz.func178,Tryz.ntmps178;go_wp2_with (fail);refine ST.out.mono ?_;rintro e w1 ⟨rfl,x1⟩;unfold ZaP;go_wp2_with (fail);refine(HD.out _ x1).mono ?_;rintro e w2 ⟨rfl,x2⟩;have X2:=Ext.tr x1 x2;have k2:=Zd X2 zg c2;have ku:=Zd X2 zu cu;go_wp2;go_ret2;exact⟨some ⟨w2.heap.size,0,none⟩,2,rfl,OwI.new rfl X2.size (by simp[maxLen]),X2.alloc _⟩
   ·rw[if_neg hu] at HK2
    rw[HK2];clear HK2 hpl eu du;go_enter Tryz.func178,Tryz.ntmps178;go_wp2_with (fail);refine ST.out.mono ?_;rintro e w1 ⟨rfl,x1⟩;unfold ZaP;go_wp2_with (fail);refine(HD.out _ x1).mono ?_;rintro e w2 ⟨rfl,x2⟩;have X2:=Ext.tr x1 x2;have k2:=Zd X2 zg c2;have ku:=Zd X2 zu cu;go_wp2;go_ret2;exact⟨some ⟨w2.heap.size,0,none⟩,1,rfl,OwI.new rfl X2.size (by simp[maxLen]),X2.alloc _⟩
theorem Zeu {w:World}{g gk:Nat}{ks:List Int}{b:Int}{s:Value}(h:FaceB w g 61 gk)(D:Calls Tryz.prog 178 #[.pointer (some ⟨gk,0,none⟩),s] w (Ys ks b w)) :
  Calls Tryz.prog 92 #[.pointer (some ⟨g,0,none⟩),s] w (Ys ks b w):=by
 have c0:=Blk.c0 h;have hm:∀ (x y:Value) (u:World),(callMethod (.iface 61 x) "Kids" #[y]).run Tryz.prog u=.ok (.enter 178 #[x,y]) u:=fun _ _ _=>by kernel_rfl
 replace D:=Hd D;go_enter Tryz.func92,Tryz.ntmps92;go_wp2_with (fail);refine D.out.mono ?_;rintro e w1 ⟨A,c,rfl,h1,x1⟩;go_wp2_with (fail);go_ret2;exact⟨_,_,rfl,h1,x1⟩
theorem Zev {w:World}{g gk:Nat}{ks:List Int}{b:Int}{s:Value}(h:FaceB w g 68 gk)(D:Calls Tryz.prog 187 #[.pointer (some ⟨gk,0,none⟩),s] w (Ys ks b w)) :
  Calls Tryz.prog 92 #[.pointer (some ⟨g,0,none⟩),s] w (Ys ks b w):=by
 have c0:=Blk.c0 h;have hm:∀ (x y:Value) (u:World),(callMethod (.iface 68 x) "Kids" #[y]).run Tryz.prog u=.ok (.enter 187 #[x,y]) u:=fun _ _ _=>by kernel_rfl
 replace D:=Hd D;go_enter Tryz.func92,Tryz.ntmps92;go_wp2_with (fail);refine D.out.mono ?_;rintro e w1 ⟨A,c,rfl,h1,x1⟩;go_wp2_with (fail);go_ret2;exact⟨_,_,rfl,h1,x1⟩
theorem Zew {w:World}{g gk:Nat}{ks:List Int}{b:Int}{s:Value}(h:FaceB w g 71 gk)(D:Calls Tryz.prog 209 #[.pointer (some ⟨gk,0,none⟩),s] w (Ys ks b w)) :
  Calls Tryz.prog 92 #[.pointer (some ⟨g,0,none⟩),s] w (Ys ks b w):=by
 have c0:=Blk.c0 h;have hm:∀ (x y:Value) (u:World),(callMethod (.iface 71 x) "Kids" #[y]).run Tryz.prog u=.ok (.enter 209 #[x,y]) u:=fun _ _ _=>by kernel_rfl
 replace D:=Hd D;go_enter Tryz.func92,Tryz.ntmps92;go_wp2_with (fail);refine D.out.mono ?_;rintro e w1 ⟨A,c,rfl,h1,x1⟩;go_wp2_with (fail);go_ret2;exact⟨_,_,rfl,h1,x1⟩
theorem Zfy {w:World}{g:Nat}{i:InstP}(P:Option Addr)(pc:Nat)(p:List Int)(h:KernI w g i)(hT:Tab w)(hP:RdI w P p)(lp:p.length<=1000000000) :
  Calls Tryz.prog 92 #[.pointer (some ⟨g,0,none⟩),.slice P p.length pc] w (Ys (J8 i p).1 (J8 i p).2 w):=by
 obtain⟨hc,h⟩:=h;unfold J8;rcases h with⟨hk,gk,base,h1,h2⟩ | ⟨hk,gk,base,h1,h2⟩ | ⟨hk,gk,base,h1,h2⟩
 ·rw[if_pos hk]
  exact Zeu h1 (Zhe P pc p w h2 (kok (Yj hc hk)) hP lp)
 ·rw[if_neg (by omega),if_pos hk]
  exact Zev h1 (ZgR P pc p w hT h2 (ZP (Zt hc (by omega))) hP lp)
 ·rw[if_neg (by omega),if_neg (by omega)]
  exact Zew h1 (ZgY P pc p w hT h2 (ZP (Zt hc (by omega))) hP lp)
end
section
open Go.Shelf
def QE : Go.Shelf.Ren:=⟨fun | 189=>93 | 125=>112 | 257=>111 | 128=>129 | 129=>130 | 294=>120 | 295=>121 | 296=>122 | 297=>123 | 298=>124 | 299=>125 | 216=>126 | 300=>127 | 301=>128 | 328=>139 | 329=>140 | 330=>141 | 331=>142 | 332=>143 | 215=>91 | 343=>153 | n=>n,fun | 28=>22 | 3=>3 | 46=>112 | 0=>0 | 51=>138 | 53=>141 | 4=>4 | 183=>169 | 182=>168 | 131=>173 | 5=>5 | 9=>9 | 218=>188 | 222=>192 | 228=>201 | 229=>202 | n=>n,fun n=>n⟩
theorem Zis : Lays.n189 Tryz.prog QE where
 mixed:=by kernel_rfl
 f125:=Tryz.func112.trans (congrArg some (by kernel_rfl))
 f128:=Tryz.func129.trans (congrArg some (by kernel_rfl))
 f129:=Tryz.func130.trans (congrArg some (by kernel_rfl))
 f189:=Tryz.func93.trans (congrArg some (by kernel_rfl))
 f215:=Tryz.func91.trans (congrArg some (by kernel_rfl))
 f216:=Tryz.func126.trans (congrArg some (by kernel_rfl))
 f257:=Tryz.func111.trans (congrArg some (by kernel_rfl))
 f294:=Tryz.func120.trans (congrArg some (by kernel_rfl))
 f295:=Tryz.func121.trans (congrArg some (by kernel_rfl))
 f296:=Tryz.func122.trans (congrArg some (by kernel_rfl))
 f297:=Tryz.func123.trans (congrArg some (by kernel_rfl))
 f298:=Tryz.func124.trans (congrArg some (by kernel_rfl))
 f299:=Tryz.func125.trans (congrArg some (by kernel_rfl))
 f300:=Tryz.func127.trans (congrArg some (by kernel_rfl))
 f301:=Tryz.func128.trans (congrArg some (by kernel_rfl))
 f328:=Tryz.func139.trans (congrArg some (by kernel_rfl))
 f329:=Tryz.func140.trans (congrArg some (by kernel_rfl))
 f330:=Tryz.func141.trans (congrArg some (by kernel_rfl))
 f331:=Tryz.func142.trans (congrArg some (by kernel_rfl))
 f332:=Tryz.func143.trans (congrArg some (by kernel_rfl))
 f343:=Tryz.func153.trans (congrArg some (by kernel_rfl))
 t0:=Tryz.underlying0
 a0:=Tryz.isAgg0
 z0:=Tryz.sizeOf0
 v0:=Tryz.zeroValue0
 t3:=Tryz.underlying3
 a3:=Tryz.isAgg3
 z3:=Tryz.sizeOf3
 v3:=Tryz.zeroValue3
 t4:=Tryz.underlying4
 a4:=Tryz.isAgg4
 z4:=Tryz.sizeOf4
 v4:=Tryz.zeroValue4
 t5:=Tryz.underlying5
 a5:=Tryz.isAgg5
 z5:=Tryz.sizeOf5
 v5:=Tryz.zeroValue5
 t9:=Tryz.underlying9
 a9:=Tryz.isAgg9
 z9:=Tryz.sizeOf9
 v9:=Tryz.zeroValue9
 t28:=Tryz.underlying22
 a28:=Tryz.isAgg22
 z28:=Tryz.sizeOf22
 v28:=Tryz.zeroValue22
 t46:=Tryz.underlying112
 a46:=Tryz.isAgg112
 z46:=Tryz.sizeOf112
 v46:=Tryz.zeroValue112
 t51:=Tryz.underlying138
 a51:=Tryz.isAgg138
 z51:=Tryz.sizeOf138
 v51:=Tryz.zeroValue138
 t53:=Tryz.underlying141
 a53:=Tryz.isAgg141
 z53:=Tryz.sizeOf141
 v53:=Tryz.zeroValue141
 t131:=Tryz.underlying173
 a131:=Tryz.isAgg173
 z131:=Tryz.sizeOf173
 v131:=Tryz.zeroValue173
 t182:=Tryz.underlying168
 a182:=Tryz.isAgg168
 z182:=Tryz.sizeOf168
 v182:=Tryz.zeroValue168
 t183:=Tryz.underlying169
 a183:=Tryz.isAgg169
 z183:=Tryz.sizeOf169
 v183:=Tryz.zeroValue169
 t218:=Tryz.underlying188
 a218:=Tryz.isAgg188
 z218:=Tryz.sizeOf188
 v218:=Tryz.zeroValue188
 t222:=Tryz.underlying192
 a222:=Tryz.isAgg192
 z222:=Tryz.sizeOf192
 v222:=Tryz.zeroValue192
 t228:=Tryz.underlying201
 a228:=Tryz.isAgg201
 z228:=Tryz.sizeOf201
 v228:=Tryz.zeroValue201
 t229:=Tryz.underlying202
 a229:=Tryz.isAgg202
 z229:=Tryz.sizeOf202
 v229:=Tryz.zeroValue202
end
section
open Go.Sort
def Uq (xs:List Int) : List Int:=xs.mergeSort fun x y=>decide (x<=y)
theorem Zfz (base g c:Nat)(xs:List Int)(w:World)(h:OwI w base (some ⟨g,0,none⟩) c xs)(hn:xs.length<4611686018427387904) :
  Calls Tryz.prog 93 #[.slice (some ⟨g,0,none⟩) xs.length c] w fun e w'=>e=.returned (.tuple #[])/\OwI w' base (some ⟨g,0,none⟩) c (Uq xs)/\ModT base [3] w w':=by
 rcases h.cases with⟨e,_⟩ | ⟨g',cur,e,hb,hg,hnc,hcm,hs,ht⟩
 ·cases e
 obtain rfl:g=g':=by simpa using e
 have hcur:∀ j,j<xs.length->cur[j]?=(xs.map (Value.int .i64))[j]?:=fun j hj=>by
  have h1:(cur.toList.take (xs.length*1))[j]?=cur.toList[j]?:=List.getElem?_take_of_lt (by omega);rw[ht] at h1;rw[h1];simp
 have hH:Holds (Value.int .i64) w g 0 xs.toArray:=fun j hj=>by
  have hj':j<xs.length:=by simpa using hj
  refine⟨?_,by simp[World.frozen?,hg]⟩;rw[Nat.zero_add,cell_of_row w g _ cur _ (0,0) hg,hcur j hj',getElem!_pos _ j hj];simp[hj']
 have hblk:g<w.heap.size:=(Array.getElem?_eq_some_iff.1 hg).1;have C:Calls Tryz.prog 93 #[.slice (some ⟨g,0,none⟩) xs.length c] w fun e w' =>
   e=.returned (.tuple #[])/\∃ n os,w'=grow (putRow (Value.int .i64) (Sort.ahead w n) g 0 (Uq xs).toArray) os :=
  calls_of_every_depth fun D=>AnyS.slices_Sort_int_in (ρ:=QE) Zis D g 0 c xs w hH hblk hn
 refine C.mono ?_;rintro e w' ⟨rfl,m,os,rfl⟩;have hl:(Uq xs).length=xs.length:=List.length_mergeSort _;refine⟨rfl,?_,?_⟩
 ·refine .mk (cur:=putCells (Value.int .i64) 0 (Uq xs).toArray cur) hb ?_ (by rw[hl];exact hnc) hcm (by simp[putCells,hs]) ?_
  ·unfold putRow mapBlock grow
   simp only[Array.getElem?_append_left (show g<(w.heap.modify g _).size by simpa using hblk)];rw[show (Sort.ahead w m).heap=w.heap from rfl,Array.getElem?_append_left (by simpa using hblk),Array.getElem?_modify,if_pos rfl,hg]
   rfl
  ·refine List.ext_getElem? fun j=>?_
   by_cases hj:j<xs.length
   ·rw[List.getElem?_take_of_lt (by rw[hl];omega)]
    have hjc:j<cur.size:=by rw[hs];omega
    have hj2:j<(Uq xs).length:=by rw[hl];exact hj
    simp only[putCells,Array.getElem?_toList,Array.getElem?_mapIdx];rw[Array.getElem?_eq_getElem hjc];simp[hj2]
   ·rw[List.getElem?_eq_none (by rw[List.length_take,hl];omega),List.getElem?_eq_none (by rw[List.length_map,hl];omega)]
 ·refine⟨rfl,rfl,rfl,?_,fun k hk hne=>?_⟩
  ·simp[putRow,mapBlock,grow,Sort.ahead]
  ·have hkg:k≠g:=fun e=>hne (e ▸ ⟨hb,cur,_,hg,by simp⟩)
   unfold putRow mapBlock grow;rw[Array.getElem?_append_left (by simpa [Sort.ahead] using hk),Array.getElem?_modify,if_neg (fun e=>hkg e.symm)]
   rfl
theorem Zhf (base c:Nat)(A:Option Addr)(xs:List Int)(w:World)(h:OwI w base A c xs)(hn:xs.length<4611686018427387904) :
  Calls Tryz.prog 93 #[.slice A xs.length c] w fun e w'=>e=.returned (.tuple #[])/\OwI w' base A c (Uq xs)/\ModT base [3] w w':=by
 rcases h.cases with⟨rfl,rfl,rfl⟩ | ⟨g,cur,rfl,_⟩
 ·refine Calls.mono (Any.slices_Sort_int_none (ρ:=QE) Zis none 0 w) ?_
  rintro e w' ⟨rfl,rfl⟩;exact⟨rfl,by rw[show Uq []=[] from List.mergeSort_nil];exact OwI.nil _ _,ModT.rf _⟩
 ·exact Zfz base g c xs w h hn
def RdB (w:World)(gr g:Nat)(W:Wd)(at_:Nat)(L:Option Addr)(n c:Nat) : Prop:=Blk w gr 88 #[.pointer (some ⟨g,0,none⟩),.string ⟨W.toArray⟩,.int .i64 (at_:Int),.slice L n c]
def Zbq (base gr g:Nat)(W:Wd)(rs:List Rec)(R:Option (List Rec×Wd))(w:World)(e:Ending)(w':World) : Prop :=
 ∃ (er:Int) (at2:Nat) (L:Option Addr) (c:Nat) (rs2:List Rec),e=.returned (.int .i64 er)/\RdB w' gr g W at2 L rs2.length c/\RecSl w' base 51 L c rs2/\ModT base [51,88] w w'/\at2<=W.length/\rs2.length=at2 /\
  (match R with
   | some (a,u)=>er=0/\rs2=rs++a/\W.drop at2=u
   | none=>er≠0)
def ZfA (D:Nat)(KE:List Int->List Int)(okp:List Int->Prop)(w0:World)(g gr:Nat)(W:Wd)(f:Nat) : Prop :=
 ∀ (p:List Int) (P:Option Addr) (pc:Nat) (at_:Nat) (L:Option Addr) (c:Nat) (rs:List Rec) (w:World),f+p.length=D+1->okp p->Ext w0 w->OwI w w0.heap.size P pc p->at_<=W.length->rs.length=at_->RdB w gr g W at_ L rs.length c->RecSl w w0.heap.size 51 L c rs ->
  Calls Tryz.prog 35 #[.pointer (some ⟨gr,0,none⟩),.slice P p.length pc] w (Zbq w0.heap.size gr g W rs (ZV D KE f p (W.drop at_)) w)
def Zit (D:Nat)(KE:List Int->List Int)(okp:List Int->Prop)(w0:World)(g gr:Nat)(W:Wd)(f:Nat) : Prop :=
 ∀ (p:List Int) (P:Option Addr) (pc:Nat) (at_:Nat) (L:Option Addr) (c:Nat) (rs:List Rec) (w:World),f+p.length=D->p.length<D->okp p->Ext w0 w->OwI w w0.heap.size P pc p->at_<=W.length->rs.length=at_->RdB w gr g W at_ L rs.length c->RecSl w w0.heap.size 51 L c rs ->
  Calls Tryz.prog 63 #[.pointer (some ⟨gr,0,none⟩),.slice P p.length pc] w (Zbq w0.heap.size gr g W rs (Xv (fun n v=>ZV D KE f (p++[n]) v) (KE p) (W.drop at_)) w)
theorem Zhg (l:List Int) : (Uq l).length=l.length:=List.length_mergeSort _
def SqAt (G:Int->Wd->Option (List Rec×Wd))(l:List Int)(w0:Wd)(rs:List Rec)(k:Nat)(rs2:List Rec)(w:Wd) : Prop:=∃ a,rs2=rs++a/\Xv G l w0=(match Xv G (l.drop k) w with
 | none=>none
 | some (b,u)=>some (a++b,u))
theorem SqAt.start (G:Int->Wd->Option (List Rec×Wd))(l:List Int)(w0:Wd)(rs:List Rec) : SqAt G l w0 rs 0 rs w0:=⟨[],by simp,by
 rw[List.drop_zero]
 cases Xv G l w0 with
 | none=>rfl
 | some q=>rfl⟩
theorem SqAt.step {G:Int->Wd->Option (List Rec×Wd)}{l:List Int}{w0 w u:Wd}{rs rs2 a1:List Rec}{k:Nat}{n:Int}(h:SqAt G l w0 rs k rs2 w)(hk:l.drop k=n::l.drop (k+1))(hg:G n w=some (a1,u)) : SqAt G l w0 rs (k+1) (rs2++a1) u:=by
 obtain⟨a,h1,h2⟩:=h;refine⟨a++a1,by rw[h1,List.append_assoc],?_⟩;rw[h2,hk];simp only[Xv,hg]
 cases Xv G (l.drop (k+1)) u with
 | none=>rfl
 | some q=>simp[List.append_assoc]
theorem SqAt.fell {G:Int->Wd->Option (List Rec×Wd)}{l:List Int}{w0 w:Wd}{rs rs2:List Rec}{k:Nat}{n:Int}(h:SqAt G l w0 rs k rs2 w)(hk:l.drop k=n::l.drop (k+1))(hg:G n w=none) : Xv G l w0=none:=by
 obtain⟨a,h1,h2⟩:=h;rw[h2,hk];simp only[Xv,hg]
theorem SqAt.done {G:Int->Wd->Option (List Rec×Wd)}{l:List Int}{w0 w:Wd}{rs rs2:List Rec}(h:SqAt G l w0 rs l.length rs2 w) : ∃ a,rs2=rs++a/\Xv G l w0=some (a,w):=by
 obtain⟨a,h1,h2⟩:=h;refine⟨a,h1,?_⟩;rw[h2,List.drop_length];simp[Xv]
theorem ZfB (D:Nat)(KR KE:List Int->List Int)(okp:List Int->Prop)(w0:World)(g gr:Nat)(W:Wd)(hgr:w0.heap.size<=gr)
  (KI:∀ (W:World),Ext w0 W->∀ (P:Option Addr) (c:Nat) (p:List Int),RdI W P p->p.length<=1000->okp p->Calls Tryz.prog 92 #[.pointer (some ⟨g,0,none⟩),.slice P p.length c] W (Ys (KR p) 0 W))
  (hKE:∀ p,okp p->p.length<D->KE p=Uq (KR p)) (hsm:∀ p,okp p->p.length<D->(KR p).length<=1000) (hkid:∀ p,okp p->p.length<D->∀ n∈KE p,okp (p++[n])) (hD:D<=64) (hW:W.length<=1000) (f:Nat) (IH:ZfA D KE okp w0 g gr W f):Zit D KE okp w0 g gr W f:=by
 intro p P pc at_ L c rs w hf hlt ho hX hP hat hrs hB hR;have c0:=hB.c0;have KI1:=KI w hX P pc p hP.read (by omega) ho;have z0:=hX.size;have zgr:=hB.lt;have hk1:=hkid p ho hlt;have hl9:=hKE p ho hlt;have hs9:=hsm p ho hlt;obtain⟨l0,hl0⟩:∃ l0,KR p=l0:=⟨_,rfl⟩;rw[hl0] at KI1 hl9 hs9;obtain⟨l,hl⟩:∃ l,KE p=l:=⟨_,rfl⟩;rw[hl] at hk1 hl9 ⊢;have lenl:l.length=l0.length:=by rw[hl9,Zhg]
 have SG:=SqAt.start (fun n v=>ZV D KE f (p++[n]) v) l (W.drop at_) rs;obtain⟨R,hR9⟩:∃ R,Xv (fun n v=>ZV D KE f (p++[n]) v) l (W.drop at_)=R:=⟨_,rfl⟩;rw[hR9];have FIN:Hid (∀ (rs2:List Rec) (w2:Wd),SqAt (fun n v=>ZV D KE f (p++[n]) v) l (W.drop at_) rs l.length rs2 w2->∃ a,rs2=rs++a/\R=some (a,w2)):=fun rs2 w2 h=>by rw[<-hR9];exact h.done
 have FEL:Hid (∀ (k:Nat) (rs2:List Rec) (w2:Wd) (n:Int),SqAt (fun n v=>ZV D KE f (p++[n]) v) l (W.drop at_) rs k rs2 w2->l.drop k=n::l.drop (k+1)->ZV D KE f (p++[n]) w2=none->R=none):=fun k rs2 w2 n h h1 h2=>by rw[<-hR9];exact h.fell h1 h2
 replace KI1:=Hd KI1;replace IH:=Hd IH;replace hk1:=Hd hk1;replace hl9:=Hd hl9;replace hB:=Hd hB;replace hR:=Hd hR;replace hP:=Hd hP;replace SG:=Hd SG;clear KI hkid hKE hsm hl0 hl hR9;go_enter Tryz.func63,Tryz.ntmps63;go_wp2_with (fail);refine KI1.out.mono ?_;rintro e w1 ⟨LA,lc,rfl,o1,x1⟩;have ol:=o1.le;have SO:=Hd (Zhf w.heap.size lc LA l0 w1 o1 (by omega));have x1':=Hd x1;clear o1 x1 c0 KI1;go_wp2_with (fail);refine SO.out.mono ?_;rintro e w2 ⟨rfl,o2,m2⟩;have X2:=Hd (x1'.out.modT m2 (Nat.le_refl _));have o2':=Hd o2;rw[<-hl9.out] at o2';have B2:=Hd (hB.out.ext X2.out);have R2:=Hd (hR.out.ext X2.out);have hl3:l.length<=9223372036854775807:=by unfold maxLen at ol;omega
 rw[<-lenl];clear m2 o2 SO x1' hB hR hl9;go_wp2_with (fail);go_loopw [26] (fun v wr=>∃ (k at2:Nat) (L2:Option Addr) (c2:Nat) (rs2:List Rec),v=.int .i64 k/\k<=l.length/\Hid (RdB wr gr g W at2 L2 rs2.length c2)/\Hid (RecSl wr w0.heap.size 51 L2 c2 rs2)/\Hid (ModT w0.heap.size [51,88] w2 wr)/\at2<=W.length/\rs2.length=at2/\Hid (SqAt (fun n v=>ZV D KE f (p++[n]) v) l (W.drop at_) rs k rs2 (W.drop at2))) (fun v _=>l.length-(intOf v).toNat)
 case atStart=>exact⟨0,at_,L,c,rs,rfl,by omega,B2,R2,ModT.rf w2,hat,hrs,SG⟩
 case round =>
  obtain⟨wo,rfl⟩:=Wq wr;obtain⟨k,at2,L2,c2,rs2,rfl,hk,HB,HR,HM,ha2,hr2,HS⟩:=hrel
  by_cases hkl:(k:Int)<(l.length:Int)
  ·have hk2:k<l.length:=by omega
   have Xo:=Hd ((hX.tr X2.out).modT HM.out (Nat.le_refl _));obtain⟨pb,po,n,rfl,zb,cx,ex,dx⟩:=((o2'.out.modT HM.out (by decide)).read).at hk2;have okn:=hk1.out n (List.mem_of_getElem? ex.out);have CL:=Hd (Vz P pc p wo ((hP.out.ext X2.out).modT HM.out (by decide)).read (by omega));have zo:=Xo.out.size;have d2:=HB.out.c2;replace ex:=Hd ex.out;go_wp2_with (fail);refine CL.out.mono ?_;rintro e w5 ⟨A5,c5,rfl,o5,x5⟩;have o5':=Hd o5;have X5:=Hd x5;have z5:=x5.size;clear o5 x5 CL d2 cx;go_wp2_with (at_builtin;(refine Yx _ rfl _ _ rfl wo.heap.size A5 p.length c5 p [n] (some ⟨w5.heap.size,0,none⟩) 1 rfl rfl rfl (o5'.out.ext ((Ext.rf _).alloc _)) (.blk (.new rfl) rfl) (by simp;omega) (by simp;omega) ?_;rintro A8 c8 w8 o8 g8 _;have Y8:=Hd (Ext.grow (a:=wo) (X5.out.alloc _) g8 (fun k hk=>(o5'.out.lt k hk).1));have o8':=Hd (OwI.more (base':=w0.heap.size) o8 zo);clear o8 g8));have pl:(p++[n]).length=p.length+1:=by simp
   have I9:=IH.out (p++[n]) A8 c8 at2 L2 c2 rs2 w8 (by omega) okn (Xo.out.tr Y8.out) o8'.out ha2 hr2 (Blk.ext HB.out Y8.out) (HR.out.ext Y8.out);rw[pl] at I9;refine I9.mono ?_;rintro e w9 ⟨er,at3,L3,c3,rs3,rfl,b9,r9,m9,ha3,hr3,hres⟩;have B9:=Hd b9;have R9:=Hd r9;have M9:Hid (ModT w0.heap.size [51,88] w2 w9):=Hd ((HM.out.ext Y8.out).tr m9)
   cases hnd:ZV D KE f (p++[n]) (W.drop at2) with
   | none =>
    rw[hnd] at hres;have hne:er≠0:=hres;have RN:=Hd (FEL.out k rs2 (W.drop at2) n HS.out dx.out hnd);have e1:(er != 0)=true:=by simpa using hne
    replace hne:=Hd hne;clear I9 b9 r9 m9 hres hnd HB HR HM HS dx ex o5' o8' Y8 X5;go_wp2_with (fail);go_ret;exact⟨er,at3,L3,c3,rs3,rfl,B9.out,R9.out,(ModT.of_ext X2.out).tr M9.out,ha3,hr3,by rw[RN.out];exact hne.out⟩
   | some q =>
    obtain⟨a1,u1⟩:=q;rw[hnd] at hres;obtain⟨rfl,e3,hu⟩:er=0/\rs3=rs2++a1/\W.drop at3=u1:=hres;have SN:=Hd (SqAt.step HS.out dx.out hnd);rw[<-e3,<-hu] at SN;clear I9 b9 r9 m9 hnd HB HR HM HS dx ex o5' o8' Y8 X5 e3 hu;go_wp2_with (fail);go_roundw
    case rel=>exact⟨k+1,at3,L3,c3,rs3,by go_num,by omega,B9,R9,M9,ha3,hr3,SN⟩
    case measure=>(simp only[intOf];omega)
  ·obtain rfl:k=l.length:=by omega
   obtain⟨a,e3,hRR⟩:=FIN.out rs2 (W.drop at2) HS.out;replace e3:=Hd e3;replace hRR:=Hd hRR;clear HS FIN FEL;go_wp2_with (fail);go_ret;exact⟨0,at2,L2,c2,rs2,rfl,HB.out,HR.out,(ModT.of_ext X2.out).tr HM.out,ha2,hr2,by rw[hRR.out];exact⟨rfl,e3.out,rfl⟩⟩
def Zkc (R:Option (List Rec×Wd))(er:Int)(rs rs3:List Rec)(v:Wd) : Prop:=match R with
 | some (a,u)=>er=0/\rs3=rs++a/\v=u
 | none=>er≠0
theorem ZfC (D:Nat)(KE:List Int->List Int)(okp:List Int->Prop)(w0:World)(g gr:Nat)(W:Wd)(hgr:w0.heap.size<=gr)
  (DE:∀ (W:World),Ext w0 W->Calls Tryz.prog 61 #[.pointer (some ⟨g,0,none⟩)] W fun e w'=>e=.returned (.int .i64 (D:Int))/\Ext W w')
  (hlen:∀ p,okp p->p.length<=D) (hD:D<=64) (hW:W.length<=1000) (f:Nat) (IH:Zit D KE okp w0 g gr W f):ZfA D KE okp w0 g gr W (f+1):=by
 intro p P pc at_ L c rs w hf ho hX hP hat hrs hB hR;have hpl:=hlen p ho;have z0:=hX.size;have zgr:=hB.lt;have c0:=hB.c0;have c1:=hB.c1;have c2:=hB.c2;have slen:(⟨W.toArray⟩:ByteArray).size=W.length:=by simp[ByteArray.size]
 have DE1:=Hd (fun(V:World) (x:Ext w V)=>DE V (hX.tr x));replace hB:=Hd hB;replace hR:=Hd hR;replace hP:=Hd hP;replace IH:=Hd IH;replace ho:=Hd ho;replace hX:=Hd hX;clear DE hlen
 by_cases hend:at_=W.length
 ·have hnil:ZV D KE (f+1) p (W.drop at_)=none:=by rw[hend,List.drop_length];rfl
  rw[hnil];have P0:Hid (Zbq w0.heap.size gr g W rs none w (.returned (.int .i64 6)) w.drew):=Hd ⟨6,at_,L,c,rs,rfl,Blk.ext hB.out ((Ext.rf w).drew),hR.out.ext ((Ext.rf w).drew),ModT.of_ext ((Ext.rf w).drew),hat,hrs,(by decide:(6:Int)≠0)⟩;have P1:Hid (∀ w',Ext w w'->Zbq w0.heap.size gr g W rs none w (.returned (.int .i64 6)) w'):=Hd fun w' x=>⟨6,at_,L,c,rs,rfl,Blk.ext hB.out x,hR.out.ext x,ModT.of_ext x,hat,hrs,(by decide:(6:Int)≠0)⟩
  have e1:((at_:Int)==(W.length:Int))=true:=by rw[beq_iff_eq];omega
  clear P0 hnil DE1 IH hB hR hP ho hX;go_enter Tryz.func35,Tryz.ntmps35;go_wp2_with (go_quiet (fail));go_ret;exact P1.out _ XI
 ·have hal:at_<W.length:=by omega
  obtain⟨ch,hch⟩:∃ ch,W[at_]?=some ch:=⟨_,List.getElem?_eq_getElem hal⟩;have dr:W.drop at_=ch::W.drop (at_+1):=by rw[List.drop_eq_getElem_cons hal];congr 1;exact(List.getElem?_eq_some_iff.1 hch).2
  have hsz:at_<(⟨W.toArray⟩:ByteArray).size:=by rw[slen];exact hal
  have E0:(⟨W.toArray⟩:ByteArray)[at_]'hsz=ch:=by
   have h:=hch;rw[List.getElem?_eq_getElem hal] at h;exact Option.some.inj h
  obtain⟨R,hRR⟩:∃ R,ZV D KE (f+1) p (W.drop at_)=R:=⟨_,rfl⟩;rw[hRR];rw[dr,Un] at hRR;replace hRR:=Hd hRR;have e1:((at_:Int)==(W.length:Int))=false:=by rw[beq_eq_false_iff_ne];omega
  have i1:(at_:Int)<(W.length:Int):=by omega
  have P1:Hid (R=none->∀ (er:Int) (w':World),er≠0->Ext w w'->Zbq w0.heap.size gr g W rs R w (.returned (.int .i64 er)) w'):=Hd fun h er w' h1 x=>⟨er,at_,L,c,rs,rfl,Blk.ext hB.out x,hR.out.ext x,ModT.of_ext x,hat,hrs,by rw[h];exact h1⟩
  clear dr hch;go_enter Tryz.func35,Tryz.ntmps35;go_wp2_with (go_quiet (fail));refine(DE1.out _ XI).mono ?_;rintro e w2 ⟨rfl,x2⟩;have X2:=Hd (Ext.tr (a:=w) XI x2);have d1:w2.cell? ⟨gr,1,none⟩=some (.string ⟨W.toArray⟩):=(Blk.ext hB.out X2.out).cell 1;have d2:w2.cell? ⟨gr,2,none⟩=some (.int .i64 (at_:Int)):=(Blk.ext hB.out X2.out).cell 2;clear x2 c0 c1 c2 DE1;obtain⟨wh,hwh⟩:∃ wh:Bool,((p.length:Int)==(D:Int))=wh:=⟨_,rfl⟩;have WP:Hid (p.length=D↔wh=true):=Hd (by rw[<-hwh,beq_iff_eq];omega);have okS:=Hd (fun(W:World) (x:Ext w2 W)=>X2.out.tr x);go_upto_block 0 with(go_quiet (fail));go_cut [6] (fun v wx=>∃ kd:Int,v=.int .i64 kd/\Ext w2 wx/\Hid ((kd=2/\p.length≠D/\R=match Xv (fun n v=>ZV D KE f (p++[n]) v) (KE p) (W.drop (at_+1)) with
   | none=>none
   | some (a,u)=>some (⟨2,p⟩::a,u))\/(kd≠2/\R=some ([⟨kd,p⟩],W.drop (at_+1)))))
  case first =>
   clear d1 d2 hB hR hP IH ho hX
   by_cases h112:ch=112
   ·subst h112
    have RK:Hid (R=some ([⟨1,p⟩],W.drop (at_+1))):=Hd hRR.out.symm;clear hRR;go_wp2_with (fail);go_meet;exact⟨1,rfl,XI,.inr ⟨by decide,RK.out⟩⟩
   ·have n112:((ch.toNat:Int)==112)=false:=by
     have:ch.toNat≠112:=fun h=>h112 (UInt8.toNat_inj.1 h)
     simp;omega
    by_cases h98:ch=98
    ·subst h98
     cases wh with
     | true =>
      have RN:R=none:=by have h:=hRR.out;rw[if_pos rfl,if_pos (WP.out.2 rfl)] at h;exact h.symm
      replace RN:=Hd RN;clear hRR WP;go_wp2_with (fail);go_ret;exact P1.out RN.out 8 _ (by decide) (okS.out _ XI)
     | false =>
      have hne:p.length≠D:=fun h=>by have:=WP.out.1 h;cases this
      have RK:Hid (R=match Xv (fun n v=>ZV D KE f (p++[n]) v) (KE p) (W.drop (at_+1)) with
       | none=>none
       | some (a,u)=>some (⟨2,p⟩::a,u)):=Hd (by have h:=hRR.out;rw[if_pos rfl,if_neg hne] at h;exact h.symm)
      replace hne:=Hd hne;clear hRR WP;go_wp2_with (fail);go_meet;exact⟨2,rfl,XI,.inl ⟨rfl,hne.out,RK.out⟩⟩
    ·have n98:((ch.toNat:Int)==98)=false:=by
      have:ch.toNat≠98:=fun h=>h98 (UInt8.toNat_inj.1 h)
      simp;omega
     by_cases h108:ch=108
     ·subst h108
      cases wh with
      | true =>
       have RK:Hid (R=some ([⟨3,p⟩],W.drop (at_+1))):=Hd (by have h:=hRR.out;rw[if_neg h98,if_pos rfl,if_pos (WP.out.2 rfl)] at h;exact h.symm);clear hRR WP;go_wp2_with (fail);go_meet;exact⟨3,rfl,XI,.inr ⟨by decide,RK.out⟩⟩
      | false =>
       have hne:p.length≠D:=fun h=>by have:=WP.out.1 h;cases this
       have RN:R=none:=by have h:=hRR.out;rw[if_neg h98,if_pos rfl,if_neg hne] at h;exact h.symm
       replace RN:=Hd RN;clear hRR WP hne;go_wp2_with (fail);go_ret;exact P1.out RN.out 8 _ (by decide) (okS.out _ XI)
     ·have n108:((ch.toNat:Int)==108)=false:=by
       have:ch.toNat≠108:=fun h=>h108 (UInt8.toNat_inj.1 h)
       simp;omega
      have RN:R=none:=by have h:=hRR.out;rw[if_neg h98,if_neg h108,if_neg h112] at h;exact h.symm
      replace RN:=Hd RN;clear hRR WP h98 h108 h112;go_wp2_with (fail);go_ret;exact P1.out RN.out 2 _ (by decide) (okS.out _ XI)
  case rest =>
   obtain⟨kd,rfl,xc,HK⟩:=hcut;have X3:=Hd (X2.out.tr xc);have B3:=Hd (Blk.ext hB.out X3.out);have d2':=B3.out.c2;have f2:=B3.out.free 2;have NX:Hid (RdB (wc.setCell ⟨gr,2,none⟩ (.int .i64 ((at_:Int)+1))) gr g W (at_+1) L rs.length c):=Hd (B3.out.set 2 (.int .i64 ((at_:Int)+1)));have M3:Hid (ModT w0.heap.size [88] wc (wc.setCell ⟨gr,2,none⟩ (.int .i64 ((at_:Int)+1)))):=Hd (ModT.set wc B3.out (by simp) hgr 2 _);clear hRR E0 hwh WP P1 okS xc d1 d2 X2;have hof:=ho;clear ho;go_upto_region 17 with(fail);generalize wc.setCell ⟨gr,2,none⟩ (.int .i64 ((at_:Int)+1))=wd at *;have X0:=Hd ((hX.out.tr X3.out).modT M3.out (Nat.le_refl _));have Rd:=Hd ((hR.out.ext X3.out).modT M3.out (by decide) (by decide));have Pd:=Hd ((hP.out.ext X3.out).modT M3.out (by decide));have Md:Hid (ModT w0.heap.size [51,88] w wd):=Hd ((ModT.of_ext X3.out).tr (M3.out.more (Nat.le_refl _) (by simp)));have zd:=NX.out.lt;have zw:=X0.out.size;have c3:=NX.out.c3;have hbs:∀ (u:World) (A':Option Addr) (c':Nat),(Instr.buildSlice 39 1 #[(0,.agg #[.int .i64 kd,.slice A' p.length c'])]).run Tryz.prog u=.ok (.slice (some ⟨u.heap.size,0,none⟩) 1 1) (u.alloc (.cells #[.int .i64 kd,.slice A' p.length c'] 51)):=fun u A' c'=>by go_simp
   obtain⟨i0,hi,hz0,hz1,hz2⟩:=info_parts Zbi;replace hbs:=Hd hbs;replace hi:=Hd hi;replace hz0:=Hd hz0;replace hz1:=Hd hz1;replace hz2:=Hd hz2;have lrs:rs.length<=1000:=by omega
   have hrs9:=Hd hrs;clear hB B3 X3 M3 hX hR hP d2' f2 z0 zgr hrs;refine wp_region_any (by kernel_rfl) ?_
   change wpAny _ _ _ _ _ _ _ (World.drew _)
   refine Zc (i:=0) (op:=Op.move (Operand.tmp 0)) (t:=86) (d:=some 50) (v:=_) rfl (by decide +kernel) (fun _ _ _ h=>h) (by intro _;unfold Ze;go_simp;try with_reducible rfl) ?_
   try simp only[lay]
   refine Zc (i:=1) (op:=Op.move (Operand.tmp 0)) (t:=86) (d:=some 51) (v:=_) rfl (by decide +kernel) (fun _ _ _ h=>h) (by intro _;unfold Ze;go_simp;try with_reducible rfl) ?_
   try simp only[lay]
   refine Zc (i:=2) (op:=Op.nilCheck (Operand.tmp 51)) (t:=0) (d:=some 52) (v:=_) rfl (by decide +kernel) (fun _ _ _ h=>h) (by intro _;unfold Ze;go_simp;try with_reducible rfl) ?_
   try simp only[lay]
   refine Zc (i:=3) (op:=Op.fieldAddr 88 (Operand.tmp 52) 3) (t:=0) (d:=some 53) (v:=_) rfl (by decide +kernel) (fun _ _ _ h=>h) (by intro _;unfold Ze;go_simp;try with_reducible rfl) ?_
   try simp only[lay]
   refine Zc (i:=5) (op:=Op.move (Operand.tmp 6)) (t:=3) (d:=some 55) (v:=_) rfl (by decide +kernel) (fun _ _ _ h=>h) (by intro _;unfold Ze;go_simp;try with_reducible rfl) ?_
   try simp only[lay]
   refine Zc (i:=6) (op:=Op.move (Operand.tmp 1)) (t:=22) (d:=some 56) (v:=_) rfl (by decide +kernel) (fun _ _ _ h=>h) (by intro _;unfold Ze;go_simp;try with_reducible rfl) ?_
   try simp only[lay]
   refine Wb (n:=4) [(4,some 54),(7,some 57),(8,some 58),(9,some 59)] (Ext wd)
    (VF (fun | 4=>some (.slice L rs.length c) | _=>none)
     (fun i v V=>(i=7->∃ A' c',v=.slice A' p.length c'/\OwI V wd.heap.size A' c' p)/\(i=8->∃ A' c',v=.agg #[.int .i64 kd,.slice A' p.length c']/\OwI V wd.heap.size A' c' p)/\(i=9->∃ q A' c',v=.slice (some ⟨q,0,none⟩) 1 1/\Blk V q 51 #[.int .i64 kd,.slice A' p.length c']/\OwI V wd.heap.size A' c' p)))
    Ext #[true,true,true,true,true,true,true,true,true,true,false,false,false,false] (by kernel_rfl) (VF.stab ?_) ?_ ?_ ((Ext.rf _).drew)
   ·intro j v V V' _ ⟨g7,g8,g9⟩ hx
    refine⟨fun h=>?_,fun h=>?_,fun h=>?_⟩
    ·obtain⟨A',c',q1,q2⟩:=g7 h
     exact⟨A',c',q1,q2.ext hx⟩
    ·obtain⟨A',c',q1,q2⟩:=g8 h
     exact⟨A',c',q1,q2.ext hx⟩
    ·obtain⟨q,A',c',q1,q2,q3⟩:=g9 h
     exact⟨q,A',c',q1,q2.ext hx,q3.ext hx⟩
   ·intro pq hpm u w2 hRW hD K hK
    have r0:=(hRW.cells.1 _ 3 zd).trans c3;have z2:=hRW.size;simp only[List.mem_cons,List.not_mem_nil,or_false] at hpm;rcases hpm with rfl | rfl | rfl | rfl
    ·exact Zv (T:=39) rfl (.pointer (some ⟨gr,3,none⟩)) (by kernel_rfl) (.slice L rs.length c) (by go_simp) (hK _ _ (VF.mk rfl) hRW (Ext.rf _))
    ·refine YC rfl #[.slice P p.length pc] (by go_simp) (by kernel_rfl) _ (Vz P pc p w2 (Pd.out.ext hRW).read (by omega)) ?_
     rintro e w3 ⟨A3,c3,rfl,o3,x3⟩;exact⟨_,rfl,hK _ _ (VF.mg rfl ⟨fun _=>⟨A3,c3,rfl,o3.more z2⟩,(fun h=>by cases h),(fun h=>by cases h)⟩) (hRW.tr x3) x3⟩
    ·obtain⟨A3,c3,h7,o3⟩:=((hD 7 (Zp (by kernel_rfl))).g rfl).1 rfl
     exact Z5 (op:=.build 51 #[(0,.tmp 55),(1,.tmp 57)]) rfl (.agg #[.int .i64 kd,.slice A3 p.length c3]) (by simp only[Zn,Act.put,List.setIfInBounds_toArray,List.set_cons_zero,List.set_cons_succ];unfold Ze;go_simp;try simp only[h7];try go_simp) (hK _ _ (VF.mg rfl ⟨(fun h=>by cases h),fun _=>⟨A3,c3,rfl,o3⟩,(fun h=>by cases h)⟩) hRW (Ext.rf _))
    ·obtain⟨A3,c3,h8,o3⟩:=((hD 8 (Zp (by kernel_rfl))).g rfl).2.1 rfl
     exact Vw rfl _ (Eq.trans (b:=u 8) (by kernel_rfl) h8) _ (hbs.out _ _ _) (hK _ _ (VF.mg rfl ⟨(fun h=>by cases h),(fun h=>by cases h),fun _=>⟨_,A3,c3,rfl,.new rfl,o3.ext ((Ext.rf _).alloc _)⟩⟩) (hRW.alloc _) ((Ext.rf _).alloc _))
   ·intro u w3 hRW hV
    have h4:=(hV (4,some 54) (by simp)).k rfl;obtain⟨_,_,h7,_⟩:=((hV (7,some 57) (by simp)).g rfl).1 rfl;obtain⟨_,_,h8,_⟩:=((hV (8,some 58) (by simp)).g rfl).2.1 rfl;obtain⟨q,A3,c3,h9,b9,o9⟩:=((hV (9,some 59) (by simp)).g rfl).2.2 rfl;simp only[Zn,h4,h7,h8,h9];obtain⟨vs,ho,hR9⟩:=Rd.out.ext hRW;obtain⟨A4,c4,w4,hrun,o4,g4,_⟩:=VB w3 (e:=51) Tryz.underlying39 hi.out hz0.out hz1.out hz2.out (by simp[Value.cells]) (by omega) w0.heap.size 39 L rs.length c vs (some ⟨q,0,none⟩) 1 1 [.int .i64 kd,.slice A3 p.length c3] ho ((RdV.blk b9).rdC) (by simp) (by simp[Value.oneCell']) (by simp only[maxLen];omega) (by omega) (by have:=hRW.size;omega);have M4:=ho.grownT g4;have hb4:=(Blk.ext NX.out hRW).modT M4 (by decide);have f4:=hb4.free 3;have c4':=hb4.c3;have hR4:=(hR9.modT M4 (by decide)).snoc (r:=⟨kd,p⟩) ((o9.more zw).modT M4 (by decide));have M5:ModT w0.heap.size [88] w4 (w4.setCell ⟨gr,3,none⟩ (.slice A4 (rs.length+1) c4)):=ModT.set w4 hb4 (by simp) hgr 3 _;have hlen:(rs++[(⟨kd,p⟩:Rec)]).length=rs.length+1:=by simp
    have NB:Hid (RdB (w4.setCell ⟨gr,3,none⟩ (.slice A4 (rs.length+1) c4)) gr g W (at_+1) A4 (rs++[(⟨kd,p⟩:Rec)]).length c4):=Hd (by rw[hlen];exact hb4.set 3 _);have NR:Hid (RecSl (w4.setCell ⟨gr,3,none⟩ (.slice A4 (rs.length+1) c4)) w0.heap.size 51 A4 c4 (rs++[⟨kd,p⟩])):=Hd ⟨_,by rw[hlen];exact o4.modT M5 (by decide),hR4.modT M5 (by decide)⟩;have MM:ModT w0.heap.size [51,88] wd (w4.setCell ⟨gr,3,none⟩ (.slice A4 (rs.length+1) c4)):=((ModT.of_ext hRW).tr (M4.more (Nat.le_refl _) (by simp))).tr (M5.more (Nat.le_refl _) (by simp));have M9:=Hd (Md.out.tr MM);have P9:=Hd (Pd.out.modT MM (by decide));have X9:=Hd (X0.out.modT MM (Nat.le_refl _));clear h4 h7 h8 h9 hV g4 M4 hR4 M5 o4 b9 o9 hb4 NX Rd Md Pd X0 hbs hi hz0 hz1 hz2 ho hR9 MM;refine Zl 10 (by kernel_rfl) (WQ rfl (.slice L rs.length c) (.slice (some ⟨q,0,none⟩) 1 1) (by kernel_rfl) (by kernel_rfl) _ hrun ?_)
    try simp only[lay]
    refine Zc (i:=11) (op:=Op.nilCheck (Operand.tmp 50)) (t:=0) (d:=some 61) (v:=_) rfl (by decide +kernel) (fun _ _ _ h=>h) (by intro _;unfold Ze;go_simp;try with_reducible rfl) ?_
    try simp only[lay]
    refine Zc (i:=12) (op:=Op.fieldAddr 88 (Operand.tmp 61) 3) (t:=0) (d:=some 62) (v:=_) rfl (by decide +kernel) (fun _ _ _ h=>h) (by intro _;unfold Ze;go_simp;try with_reducible rfl) ?_
    try simp only[lay]
    refine Zl 13 (by kernel_rfl) (Xq rfl (.pointer (some ⟨gr,3,none⟩)) (.slice A4 (rs.length+1) c4) (by kernel_rfl) (by kernel_rfl) (by go_simp;rfl) ?_);refine wpAny_done (by kernel_rfl) ?_ _;clear hrun c4' f4;go_simp;generalize w4.setCell ⟨gr,3,none⟩ (.slice A4 (rs.length+1) c4)=w6 at *;rcases HK.out with⟨rfl,hne,hRe⟩ | ⟨hne,hRe⟩
    ·replace hRe:=Hd hRe
     replace hne:=Hd hne;have hpD:p.length<D:=by have:=hne.out;omega
     have I9:=Hd (IH.out p P pc (at_+1) A4 c4 (rs++[⟨2,p⟩]) w6 (by omega) hpD hof.out X9.out P9.out (by omega) (by have:=hrs9.out;simp;omega) NB.out NR.out);clear HK IH NB NR X9;go_wp2_with (fail);refine I9.out.mono ?_;rintro e w7 ⟨er,at3,L3,c3,rs3,rfl,b7,r7,m7,ha3,hr3,hres⟩;have B7:=Hd b7;have R7:=Hd r7;have M7:=Hd (M9.out.tr m7);have RR:Hid (Zkc R er rs rs3 (W.drop at3)):=by
      rw[hRe.out]
      cases hs:Xv (fun n v=>ZV D KE f (p++[n]) v) (KE p) (W.drop (at_+1)) with
      | none=>rw[hs] at hres;exact Hd hres
      | some q =>
       obtain⟨a1,u1⟩:=q;rw[hs] at hres;obtain⟨h1,h2,h3⟩:=hres;exact Hd ⟨h1,by rw[h2,List.append_assoc];rfl,h3⟩
     clear hres I9 b7 r7 m7 hRe;replace hr3:=Hd hr3;go_wp2_with (fail);go_ret;exact⟨er,at3,L3,c3,rs3,rfl,B7.out,R7.out,M7.out,ha3,hr3.out,RR.out⟩
    ·have e3:(kd != 2)=true:=by simpa using hne
     replace hRe:=Hd hRe;clear HK hne IH;go_wp2_with (fail);go_ret;exact⟨0,at_+1,A4,c4,rs++[⟨kd,p⟩],rfl,NB.out,NR.out,M9.out,by omega,by have:=hrs9.out;simp;omega,by rw[hRe.out];exact⟨rfl,rfl,rfl⟩⟩
def ltK (l:List Int)(a b:Nat) : Bool:=decide (l.getD a 0<l.getD b 0)
theorem UU (l:List Int) : Weak (ltK l) where
 asym:=fun a b h=>by
  unfold ltK at h ⊢;have:=of_decide_eq_true h;exact decide_eq_false (by omega)
 neg:=fun a b c h=>by
  unfold ltK at h ⊢;have:=of_decide_eq_true h
  by_cases h1:l.getD a 0<l.getD b 0
  ·exact .inl (decide_eq_true h1)
  ·exact .inr (decide_eq_true (by omega))
def Qb (l:List Int) : List Nat:=Yh (ltK l) (List.range l.length)
theorem U6 (l:List Int) : (Qb l).length=l.length:=by unfold Qb;rw[Yz,List.length_range]
theorem Ziu {l:List Int}{k a:Nat}(h:(Qb l)[k]?=some a) : a<l.length:=by
 have hm:=List.mem_of_getElem? h;unfold Qb at hm;have:=(Xa (UU l) List.pairwise_lt_range).mem.1 hm;exact List.mem_range.1 this
def Wn (l:List Int) : List Int:=(Qb l).map fun a=>l.getD a 0
theorem QF (l:List Int) : (Wn l).length=l.length:=by unfold Wn;rw[List.length_map,U6]
theorem Zcv (l:List Int) : (List.range l.length).map (fun a=>l.getD a 0)=l:=by
 apply List.ext_getElem
 ·simp
 ·intro k h1 h2
  simp[List.getD,List.getElem?_eq_getElem h2]
theorem Zhh {l k:List Int}(hp:k.Perm l)(hs:k.Pairwise (· < ·)) : Wn l=k:=by
 have I:=Xa (UU l) (List.pairwise_lt_range (n:=l.length));refine List.Perm.eq_of_pairwise (le:=(· <= ·)) (fun a b _ _ h1 h2=>by omega) ?_ (hs.imp fun h=>by omega) ?_
 ·unfold Wn
  rw[List.pairwise_map];refine I.2.imp fun {a b} h=>?_
  rcases h with h | ⟨h,_⟩
  ·unfold ltK at h
   have:=of_decide_eq_true h;omega
  ·unfold ltK at h
   have:=of_decide_eq_false h;omega
 ·have h1:(Wn l).Perm ((List.range l.length).map fun a=>l.getD a 0):=I.1.map _
  rw[Zcv] at h1;exact h1.trans hp.symm
def YO (i:InstP)(p:List Int) : List Int:=if i.kind=1 then(XG i.cap (wsP i) (vsP i) p).1 else if i.kind=2 then(Xs i.cost p).1 else(Xu i.cost p).1
theorem J9 (m:Nat) : (Zf (Zb m)).Pairwise (· < ·):=by
 unfold Zf;rw[List.pairwise_map];exact(ZD m).imp fun h=>by omega
theorem JL {i:InstP}(hc:Zk i=0){p:List Int}(ho:okI i p)(hl:p.length<Zo i) : Wn (YO i p)=ZB i p:=by
 have hh:(ZB i p).Perm (YO i p)/\(ZB i p).Pairwise (· < ·):=by
  unfold okI at ho;rcases ZL hc with h | h | h
  ·have ok:=Yj hc h
   obtain⟨f1,f2,f3,f4,f5⟩:=QD ok;rw[if_pos h] at ho;obtain⟨⟨r,o⟩,hs⟩:=ho;have hd:Zo i=(wsP i).length:=by unfold Zo;rw[if_neg (by omega)];omega
   rw[hd] at hl;unfold ZB YO J7;rw[if_pos h,if_pos h,(Jg hs).1];unfold XG;rw[hs];have e:=List.drop_eq_getElem_cons hl;rw[e];simp only;split
   ·exact⟨List.Perm.swap 1 0 [],by simp⟩
   ·exact⟨List.Perm.refl _,by simp⟩
  ·have sq:=Zt hc (by omega)
   have rok:=ZP sq;rw[if_neg (by omega),if_pos h] at ho;obtain⟨m,hm⟩:=ho;obtain⟨l,e1,e2,_⟩:=Q2 hm;have e:ZB i p=Zf (Zb m):=by unfold ZB;rw[if_neg (by omega),if_pos h,QC rok.n2 hm]
   have e':YO i p=Zf l:=by unfold YO;rw[if_neg (by omega),if_pos h,e1]
   rw[e,e'];exact⟨(e2.symm).map _,J9 m⟩
  ·have sq:=Zt hc (by omega)
   have rok:=ZP sq;rw[if_neg (by omega),if_neg (by omega)] at ho;obtain⟨⟨m,last,cost⟩,hm⟩:=ho;obtain⟨l,e1,e2,_⟩:=Q6 hm;have e:ZB i p=Zf (Zb m):=by unfold ZB;rw[if_neg (by omega),if_neg (by omega),Zbp rok.n1 rok.n2 hm]
   have e':YO i p=Zf l:=by unfold YO;rw[if_neg (by omega),if_neg (by omega),e1]
   rw[e,e'];exact⟨(e2.symm).map _,J9 m⟩
 exact Zhh hh.1 hh.2
theorem ZfD {i:InstP}(hc:Zk i=0){p:List Int}(ho:okI i p) : (i.kind=1->(Ym i.cap (wsP i) (vsP i) p).2=0)/\(i.kind=2->(ZX i.cost p).2=0)/\(i.kind=3->(ZZ i.cost (Wh i.cost) p).2=0):=by
 unfold okI at ho;refine⟨fun h=>?_,fun h=>?_,fun h=>?_⟩
 ·rw[if_pos h] at ho
  obtain⟨⟨r,o⟩,hs⟩:=ho;unfold Ym;rw[hs]
 ·rw[if_neg (by omega),if_pos h] at ho
  obtain⟨m,hm⟩:=ho;unfold ZX;rw[hm]
 ·rw[if_neg (by omega),if_neg (by omega)] at ho
  obtain⟨⟨m,last,cost⟩,hm⟩:=ho;unfold ZZ;rw[hm]
section
variable (D:Nat) (kids:List Int->List Int) (bound:List Int->Int) (cost:Int)
end
section
variable {D:Nat} {kids:List Int->List Int} {bound:List Int->Int} {cost:Int} {okp:List Int->Prop}
end
theorem Zcw {i:InstP}(hc:Zk i=0)(p:List Int)(ho:okI i p)(hl:p.length<Zo i) : (ZB i p).length<=if i.kind=1 then 2 else Zo i-p.length:=by
 unfold okI at ho;rcases ZL hc with h | h | h
 ·rw[if_pos h]
  unfold ZB J7;rw[if_pos h];split
  ·simp
  ·split<;>simp
 ·have sq:=Zt hc (by omega)
  have rok:=ZP sq;rw[if_neg (by omega),if_pos h] at ho;obtain⟨m,hm⟩:=ho;have h1:=YN rok.n2 hm;have hd:Zo i=i.cost.length:=by unfold Zo;rw[if_neg (by omega)];have:=sq.len;omega
  have e:ZB i p=Zf (Zb m):=by unfold ZB;rw[if_neg (by omega),if_pos h,QC rok.n2 hm]
  rw[if_neg (show ¬i.kind=1 by omega),e,Zh];omega
 ·have sq:=Zt hc (by omega)
  have rok:=ZP sq;rw[if_neg (by omega),if_neg (by omega)] at ho;obtain⟨⟨m,last,cost⟩,hm⟩:=ho;have h1:=Jz rok.n1 rok.n2 hm;have hd:Zo i=i.cost.length-1:=by unfold Zo;rw[if_pos h];have:=sq.len;omega
  have e:ZB i p=Zf (Zb m):=by unfold ZB;rw[if_neg (by omega),if_neg (by omega),Zbp rok.n1 rok.n2 hm]
  rw[if_neg (show ¬i.kind=1 by omega),e,Zh];omega
end
section
theorem Wo {i:InstP}(hc:Zk i=0) : Zo i<=64:=by
 rcases ZL hc with h | h | h
 ·have ok:=Yj hc h
  have:=ok.n2;unfold Zo;split<;>omega
 ·have sq:=Zt hc (by omega)
  have:=sq.n2;unfold Zo;split<;>omega
 ·have sq:=Zt hc (by omega)
  have:=sq.n2;unfold Zo;split<;>omega
theorem ZfE (l:List Int) : Uq l=Wn l:=by
 have I:=Xa (UU l) (List.pairwise_lt_range (n:=l.length));refine List.Perm.eq_of_pairwise (le:=(· <= ·)) (fun a b _ _ h1 h2=>by omega) ?_ ?_ ?_
 ·unfold Uq
  have h:=List.pairwise_mergeSort (le:=fun x y:Int=>decide (x<=y)) (fun a b c h1 h2=>by have:=of_decide_eq_true h1;have:=of_decide_eq_true h2;exact decide_eq_true (by omega)) (fun a b=>by by_cases h:a<=b;simp[h];simp[h];omega) l;exact h.imp fun h=>of_decide_eq_true h
 ·unfold Wn
  rw[List.pairwise_map];refine I.2.imp fun {a b} h=>?_
  rcases h with h | ⟨h,_⟩
  ·unfold ltK at h
   have:=of_decide_eq_true h;omega
  ·unfold ltK at h
   have:=of_decide_eq_false h;omega
 ·have h1:(Wn l).Perm ((List.range l.length).map fun a=>l.getD a 0):=I.1.map _
  rw[Zcv] at h1;exact(List.mergeSort_perm _ _).trans h1.symm
theorem Zgh (i:InstP)(p:List Int) : (J8 i p).1=YO i p:=by
 unfold J8 YO;split
 ·rfl
 ·split
  ·rfl
  ·rfl
theorem Zhi {i:InstP}(hc:Zk i=0){p:List Int}(ho:okI i p) : (J8 i p).2=0:=by
 unfold J8;unfold okI at ho;rcases ZL hc with h | h | h
 ·rw[if_pos h] at ho ⊢
  obtain⟨⟨r,o⟩,hs⟩:=ho;unfold XG;rw[hs];simp only;split
  ·rfl
  ·split<;>rfl
 ·rw[if_neg (by omega),if_pos h] at ho ⊢
  obtain⟨m,hm⟩:=ho;unfold Xs;rw[hm]
 ·rw[if_neg (by omega),if_neg (by omega)] at ho ⊢
  obtain⟨⟨m,last,cost⟩,hm⟩:=ho;unfold Xu;rw[hm]
theorem Zcx (D:Nat)(KR KE:List Int->List Int)(okp:List Int->Prop)(w0:World)(g gr:Nat)(W:Wd)(hgr:w0.heap.size<=gr)
  (DE:∀ (W:World),Ext w0 W->Calls Tryz.prog 61 #[.pointer (some ⟨g,0,none⟩)] W fun e w'=>e=.returned (.int .i64 (D:Int))/\Ext W w')
  (KI:∀ (W:World),Ext w0 W->∀ (P:Option Addr) (c:Nat) (p:List Int),RdI W P p->p.length<=1000->okp p->Calls Tryz.prog 92 #[.pointer (some ⟨g,0,none⟩),.slice P p.length c] W (Ys (KR p) 0 W))
  (hlen:∀ p,okp p->p.length<=D) (hKE:∀ p,okp p->p.length<D->KE p=Uq (KR p)) (hsm:∀ p,okp p->p.length<D->(KR p).length<=1000) (hkid:∀ p,okp p->p.length<D->∀ n∈KE p,okp (p++[n])) (hD:D<=64) (hW:W.length<=1000):∀ f:Nat,ZfA D KE okp w0 g gr W f
 | 0=>fun p P pc at_ L c rs w hf ho=>by have:=hlen p ho;omega
 | f+1=>ZfC D KE okp w0 g gr W hgr DE hlen hD hW f (ZfB D KR KE okp w0 g gr W hgr KI hKE hsm hkid hD hW f (Zcx D KR KE okp w0 g gr W hgr DE KI hlen hKE hsm hkid hD hW f))
def Zcy (R:Option (List Rec))(w:World)(e:Ending)(w':World) : Prop:=match R with
 | some l=>∃ A c,e=.returned (.tuple #[.slice A l.length c,.int .i64 0,.int .i64 0])/\RecSl w' w.heap.size 51 A c l/\Ext w w'
 | none=>∃ n er:Int,e=.returned (.tuple #[.slice none 0 0,.int .i64 n,.int .i64 er])/\er≠0/\Ext w w'
theorem ZfF {D:Nat}{KE:List Int->List Int}{W:Wd}{a:List Rec}(h:ZV D KE (D+1) [] W=some (a,[])) : YF D KE W=some a:=by unfold YF;rw[h]
theorem ZfG {D:Nat}{KE:List Int->List Int}{W:Wd}{a:List Rec}{c:UInt8}{u:Wd}(h:ZV D KE (D+1) [] W=some (a,c::u)) : YF D KE W=none:=by unfold YF;rw[h]
theorem ZfH {D:Nat}{KE:List Int->List Int}{W:Wd}(h:ZV D KE (D+1) [] W=none) : YF D KE W=none:=by unfold YF;rw[h]
theorem Zcz (i:InstP)(g:Nat)(W:Wd)(w:World)(K:KernI w g i)(hT:Tab w)(hW:W.length<=1000) :
  Calls Tryz.prog 13 #[.pointer (some ⟨g,0,none⟩),.string ⟨W.toArray⟩] w (Zcy (YF (Zo i) (ZB i) W) w):=by
 have KO:=XT K.1;have DL:=Wo K.1;have NA:=Zcx (Zo i) (fun p=>(J8 i p).1) (ZB i) (okI i) w g w.heap.size W (Nat.le_refl _)
  (fun V x=>Zfw (K.ext x))
  (fun V x P c p hP lp ho=>by have h:=Zfy P c p (K.ext x) (hT.ext x) hP (by omega);rw[Zhi K.1 ho] at h;exact h)
  KO.len (fun p ho hl=>by rw[ZfE,Zgh,JL K.1 ho hl])
  (fun p ho hl=>by
   have h1:=Zcw K.1 p ho hl;rw[<-JL K.1 ho hl,QF,<-Zgh] at h1;split at h1<;>omega) KO.kid DL hW (Zo i+1) [] none 0 0 none 0 []
  (w.alloc (.cells #[.pointer (some ⟨g,0,none⟩),.string ⟨W.toArray⟩,.int .i64 0,.slice none 0 0] 88)) (by simp) (U5 K.1) ((Ext.rf w).alloc _) (OwI.nil _ _) (Nat.zero_le _) rfl (.new rfl) ⟨[],OwV.nil _ _ _ _,RecsO.nil _ _⟩
 rw[List.drop_zero] at NA;obtain⟨R,hR⟩:∃ R,YF (Zo i) (ZB i) W=R:=⟨_,rfl⟩;rw[hR];have slen:(⟨W.toArray⟩:ByteArray).size=W.length:=by simp[ByteArray.size]
 have i2:¬(W.length:Int)>1048576:=by omega
 replace NA:=Hd NA;replace hR:=Hd hR;clear K hT KO;go_enter Tryz.func13,Tryz.ntmps13;go_wp2_with (fail);refine NA.out.mono ?_;rintro e w2 ⟨er,at2,L,c,rs,rfl,B2,R2,M2,ha2,hr2,hres⟩;have X2:=Hd (((Ext.rf w).alloc _).modT M2 (Nat.le_refl _));have d2:=B2.c2;have d3:=B2.c3;replace R2:=Hd R2;replace hr2:=Hd hr2;clear B2 M2 NA
 cases hn:ZV (Zo i) (ZB i) (Zo i+1) [] W with
 | none =>
  rw[hn] at hres;have hne:er≠0:=hres;have RN:=Hd (hR.out.symm.trans (ZfH hn));have e1:(er==0)=false:=by simpa using hne
  have e2:(er != 0)=true:=by simpa using hne
  replace hne:=Hd hne;clear hres hn hR;go_wp2_with (go_quiet (fail));go_ret3;rw[RN.out];exact⟨_,er,rfl,hne.out,X2.out.tr XI⟩
 | some q =>
  obtain⟨a,u⟩:=q;rw[hn] at hres;obtain⟨rfl,e3,hu⟩:er=0/\rs=[]++a/\W.drop at2=u:=hres;rw[List.nil_append] at e3;subst e3
  cases u with
  | nil =>
   have hat:at2=W.length:=by have:=List.drop_eq_nil_iff.1 hu;omega
   have RS:=Hd (hR.out.symm.trans (ZfF hn));have i1:¬(at2:Int)<(W.length:Int):=by omega
   replace hat:=Hd hat;clear hn hR hu;go_wp2_with (go_quiet (fail));go_ret3;rw[RS.out];exact⟨L,c,rfl,R2.out.ext XI,X2.out.tr XI⟩
  | cons ch u =>
   have hat:at2<W.length:=by
    by_cases h:at2<W.length
    ·exact h
    ·rw[List.drop_of_length_le (by omega)] at hu;cases hu
   have RS:=Hd (hR.out.symm.trans (ZfG hn));have i1:(at2:Int)<(W.length:Int):=by omega
   clear hn hR hu;go_wp2_with (go_quiet (fail));go_ret3;rw[RS.out];exact⟨_,7,rfl,by decide,X2.out.tr XI⟩
theorem Zc3 {α:Type}[DecidableEq α]{xs ys:List α}{k:Nat}{x y:α}(hx:xs.drop k=x::xs.drop (k+1))(hy:ys.drop k=y::ys.drop (k+1))(e:decide (xs=ys)=decide (xs.drop k=ys.drop k)) : decide (xs=ys)=(decide (x=y)&&decide (xs.drop (k+1)=ys.drop (k+1))):=by
 rw[e,hx,hy]
 by_cases h:x=y
 ·simp[h]
 ·simp[h]
theorem Ziv (A B:Option Addr)(c d:Nat)(xs ys:List Int)(w:World)(hx:RdI w A xs)(hy:RdI w B ys)(lx:xs.length<=1000)(ly:ys.length<=1000) :
  Calls Tryz.prog 60 #[.slice A xs.length c,.slice B ys.length d] w fun e w'=>e=.returned (.bool (decide (xs=ys)))/\Ext w w':=by
 by_cases hl:xs.length=ys.length
 ·have e1:((xs.length:Int) != (ys.length:Int))=false:=by simp[hl]
  have hl':=Hd hl;have l2:xs.length<=ys.length:=by omega
  have l3:ys.length<=xs.length:=by omega
  clear hl;go_enter Tryz.func60,Tryz.ntmps60;go_wp2_with (fail);go_loopw [13] (fun i wr=>∃ k:Nat,i=.int .i64 k/\k<=xs.length/\Hid (decide (xs=ys)=decide (xs.drop k=ys.drop k))/\Ext w wr) (fun i _=>xs.length-(intOf i).toNat)
  case atStart=>exact⟨0,rfl,by omega,Hd (by simp),XI⟩
  case round =>
   obtain⟨k,rfl,hk,hH,X⟩:=hrel
   by_cases h1:k<xs.length
   ·have h2:k<ys.length:=by omega
    obtain⟨b,off,x,rfl,_,hc1,_,hd1⟩:=(hx.ext X).at h1;obtain⟨b',off',y,rfl,_,hc2,_,hd2⟩:=(hy.ext X).at h2;have ED:=Hd (Zc3 hd1.out hd2.out hH.out);clear hd1 hd2 hH
    by_cases hxy:x=y
    ·have e2:(x != y)=false:=by simp[hxy]
     have EN:Hid (decide (xs=ys)=decide (xs.drop (k+1)=ys.drop (k+1))):=Hd (by rw[ED.out,decide_eq_true hxy,Bool.true_and]);clear ED hxy;go_wp2_with (go_quiet (fail));go_roundw
     case rel=>exact⟨k+1,by go_num,by omega,EN,X.tr XI⟩
     case measure=>simp[intOf];omega
    ·have e2:(x != y)=true:=by simpa using hxy
     have EN:Hid (decide (xs=ys)=false):=Hd (by rw[ED.out,decide_eq_false hxy,Bool.false_and]);clear ED hxy;go_wp2_with (go_quiet (fail));go_ret;exact⟨by rw[EN.out];rfl,X.tr XI⟩
   ·obtain rfl:k=xs.length:=by omega
    have EN:Hid (decide (xs=ys)=true):=Hd (by rw[hH.out,List.drop_length,hl'.out,List.drop_length];rfl);clear hH;go_wp2_with (fail);go_ret;exact⟨by rw[EN.out];rfl,X⟩
 ·have e1:((xs.length:Int) != (ys.length:Int))=true:=by simp;omega
  have EN:Hid (decide (xs=ys)=false):=Hd (decide_eq_false fun h=>hl (by rw[h]));clear hl;go_enter Tryz.func60,Tryz.ntmps60;go_wp2_with (fail);go_ret;exact⟨by rw[EN.out];rfl,XI⟩
theorem Ziw (r q:Rec)(A B:Option Addr)(c d:Nat)(w:World)(hA:RdI w A r.path)(hB:RdI w B q.path)(lr:r.path.length<=1000)(lq:q.path.length<=1000) :
  Calls Tryz.prog 34 #[.agg #[.int .i64 r.kind,.slice A r.path.length c],.agg #[.int .i64 q.kind,.slice B q.path.length d]] w fun e w'=>e=.returned (.bool (decide (r=q)))/\Ext w w':=by
 have SE:=Hd (fun(W:World) (x:Ext w W)=>Ziv A B c d r.path q.path W (hA.ext x) (hB.ext x) lr lq);clear hA hB
 by_cases hk:r.kind=q.kind
 ·have EQ:Hid (decide (r=q)=decide (r.path=q.path)):=Hd (by
   cases r;cases q
   simp only at hk;subst hk;simp)
  have e1:(r.kind==q.kind)=true:=by simpa using hk
  clear hk;go_enter Tryz.func34,Tryz.ntmps34;go_wp2_with (fail);refine(SE.out _ XI).mono ?_;rintro e w' ⟨rfl,x1⟩;have X1:=Hd (Ext.tr (a:=w) XI x1);clear x1;go_wp2_with (fail);go_ret;exact⟨by rw[EQ.out];rfl,X1.out.tr XI⟩
 ·have EQ:Hid (decide (r=q)=false):=Hd (decide_eq_false fun h=>hk (by rw[h]))
  have e1:(r.kind==q.kind)=false:=by simpa using hk
  clear hk;go_enter Tryz.func34,Tryz.ntmps34;go_wp2_with (fail);go_ret;exact⟨by rw[EQ.out];rfl,XI⟩
theorem ZfI (base base':Nat)(A B:Option Addr)(c d:Nat)(rs ms:List Rec)(w:World)(HA:RecSl w base 51 A c rs)(HB:RecSl w base' 51 B d ms)(lr:rs.length<=1000)(lm:ms.length<=1000)(pr:∀ r∈rs,r.path.length<=1000)(pm:∀ r∈ms,r.path.length<=1000) :
  Calls Tryz.prog 33 #[.slice A rs.length c,.slice B ms.length d,.func (.func 34) #[] #[]] w fun e w'=>e=.returned (.bool (decide (rs=ms)))/\Ext w w':=by
 obtain⟨va,hoa,hRa⟩:=HA;obtain⟨vb,hob,hRb⟩:=HB;have hda:=hoa.read;have hdb:=hob.read;clear hoa hob;replace hRa:=Hd hRa;replace hRb:=Hd hRb;replace hda:=Hd hda;replace hdb:=Hd hdb;replace pr:=Hd pr;replace pm:=Hd pm
 by_cases hl:rs.length=ms.length
 ·have e1:((rs.length:Int) != (ms.length:Int))=false:=by simp[hl]
  have hl':=Hd hl;have l2:rs.length<=ms.length:=by omega
  have l3:ms.length<=rs.length:=by omega
  clear hl;go_enter Tryz.func33,Tryz.ntmps33;go_wp2_with (fail);go_loopw [17] (fun i wr=>∃ k:Nat,i=.int .i64 k/\k<=rs.length/\Hid (decide (rs=ms)=decide (rs.drop k=ms.drop k))/\Ext w wr) (fun i _=>rs.length-(intOf i).toNat)
  case atStart=>exact⟨0,rfl,by omega,Hd (by simp),XI⟩
  case round =>
   obtain⟨k,rfl,hk,hH,X⟩:=hrel
   by_cases h1:k<rs.length
   ·have h2:k<ms.length:=by omega
    obtain⟨b,off,r,A2,c2,rfl,hb,a0,a1,o2,hr⟩:=(hRa.out.ext X).at (hda.out.ext X) h1;obtain⟨b',off',q,A3,c3,rfl,hb',b0,b1,o3,hq⟩:=(hRb.out.ext X).at (hdb.out.ext X) h2;have hd1:rs.drop k=r::rs.drop (k+1):=by rw[List.drop_eq_getElem_cons h1];congr 1;exact(List.getElem?_eq_some_iff.1 hr.out).2
    have hd2:ms.drop k=q::ms.drop (k+1):=by rw[List.drop_eq_getElem_cons h2];congr 1;exact(List.getElem?_eq_some_iff.1 hq.out).2
    have ED:=Hd (Zc3 hd1 hd2 hH.out);have SM:=Hd (fun(W:World) (x:Ext wr W)=>Ziw r q A2 A3 c2 c3 W (o2.read.ext x) (o3.read.ext x) (pr.out r (List.mem_of_getElem? hr.out)) (pm.out q (List.mem_of_getElem? hq.out)));clear hd1 hd2 hH o2 o3 hr hq;obtain⟨s,hs⟩:∃ s,decide (r=q)=s:=⟨_,rfl⟩;rw[hs] at ED SM;clear hs;go_wp2_with (fail);refine(SM.out _ XI).mono ?_;rintro e w5 ⟨rfl,x5⟩;have X5:=Hd (X.tr (Ext.tr (a:=wr) XI x5));clear x5 SM a0 a1 b0 b1
    cases s with
    | true =>
     rw[Bool.true_and] at ED;go_wp2_with (fail);go_roundw
     case rel=>exact⟨k+1,by go_num,by omega,ED,X5.out⟩
     case measure=>simp[intOf];omega
    | false =>
     rw[Bool.false_and] at ED;go_wp2_with (fail);go_ret;exact⟨by rw[ED.out];rfl,X5.out⟩
   ·obtain rfl:k=rs.length:=by omega
    have EN:Hid (decide (rs=ms)=true):=Hd (by rw[hH.out,List.drop_length,hl'.out,List.drop_length];rfl);clear hH;go_wp2_with (fail);go_ret;exact⟨by rw[EN.out];rfl,X⟩
 ·have e1:((rs.length:Int) != (ms.length:Int))=true:=by simp;omega
  have EN:Hid (decide (rs=ms)=false):=Hd (decide_eq_false fun h=>hl (by rw[h]));clear hl;go_enter Tryz.func33,Tryz.ntmps33;go_wp2_with (fail);go_ret;exact⟨by rw[EN.out];rfl,XI⟩
theorem RecsO.one {w:World}{base:Nat}{vs:List Value}{rs:List Rec}(h:RecsO w base vs rs) : ∀ u∈vs,u.oneCell'=true:=by
 intro u hu;obtain⟨j,hj,rfl⟩:=List.mem_iff_getElem.1 hu;have hl:=h.1;have hi:j / 2<rs.length:=by omega
 obtain⟨A,c,h1,h2,_⟩:=h.2 (j / 2) _ (JG hi);rcases Nat.mod_two_eq_zero_or_one j with e | e
 ·rw[show j / 2*2=j by omega,List.getElem?_eq_getElem hj] at h1
  rw[Option.some.inj h1];rfl
 ·rw[show j / 2*2+1=j by omega,List.getElem?_eq_getElem hj] at h2
  rw[Option.some.inj h2];rfl
theorem Zix (r q:Rec)(A B:Option Addr)(c d:Nat)(w:World)(hA:RdI w A r.path)(hB:RdI w B q.path)(lr:r.path.length<=1000)(lq:q.path.length<=1000) :
  Calls Tryz.prog 30 #[.agg #[.int .i64 r.kind,.slice A r.path.length c],.agg #[.int .i64 q.kind,.slice B q.path.length d]] w fun e w'=>e=.returned (.int .i64 (Qx r.path q.path))/\Ext w w':=by
 replace hA:=Hd hA;replace hB:=Hd hB;go_enter Tryz.func30,Tryz.ntmps30;go_wp2_with (fail);refine(Zha _ _ _ _ r.path q.path _ (hA.out.ext XI) (hB.out.ext XI) (by simp only[maxLen];omega) (by simp only[maxLen];omega)).mono ?_;rintro e w' ⟨rfl,rfl⟩;go_wp2_with (fail);go_ret;exact⟨rfl,XI⟩
theorem Zc4 : ∀ args w,(callFunc 30 args).run Tryz.prog w=.ok (.enter 30 args) w:=enters_of Tryz.func30 (by kernel_rfl) rfl
theorem Zex {w:World}{base b g:Nat}{vs:List Value}{rs:List Rec}{n c:Nat}(ho:OwV w base 51 2 (some ⟨g,0,none⟩) n c vs)(h:RecsO w base vs rs)(hp:∀ r∈rs,r.path.length<=1000) : CmpOkRc (Vm b rs vs) 30 #[] (UT rs) rs.length g w:=by
 intro W x y hx hy hm;have h':=h.modT (ho.modOf hm) (by decide);exact Zix (XR rs x) (XR rs y) _ _ _ _ W (Zbk (b:=b) h' hx).2.2.read (Zbk (b:=b) h' hy).2.2.read (hp _ (U3 hx)) (hp _ (U3 hy))
theorem ZbH (base:Nat)(A:Option Addr)(c:Nat)(rs:List Rec)(w:World)(H:RecSl w base 51 A c rs)(hl:rs.length<=1000)(hp:∀ r∈rs,r.path.length<=1000) :
  Calls Tryz.prog 29 #[.slice A rs.length c,.func (.func 30) #[] #[]] w fun e w'=>e=.returned (.tuple #[])/\RecSl w' base 51 A c (ZC rs)/\ModT base [51] w w':=by
 obtain⟨vs,ho,hr⟩:=H;rcases ho.cases with⟨rfl,rfl,h0,rfl⟩ | ⟨g,cur,rfl,hb,_⟩
 ·obtain rfl:rs=[]:=List.eq_nil_of_length_eq_zero h0
  refine(Zju _ w).mono ?_;rintro e w1 ⟨rfl,x1⟩;exact⟨rfl,⟨[],OwV.nil _ _ _ _,by simpa [ZC,Jf,Yh,ZQ] using RecsO.nil w1 base⟩,ModT.of_ext x1⟩
 ·have hflat:=Zfp (b:=base) hr
  have hN:OwNRc w (Vm base rs vs) g c (List.range rs.length):=by
   unfold OwNRc;rw[hflat,List.length_range];exact ho
  refine(JF (Vm base rs vs) g c 30 #[] (UT rs) rs.length rs.length (List.range rs.length) w (Zij rs) Zc4 (Zex ho hr hp) hN (by simp) (QA _) (by simp) (by omega)).mono ?_;rintro e w1 ⟨rfl,o1,m1⟩;have M:=ho.modOf m1;refine⟨rfl,⟨Z4 (Vm base rs vs) (Jf rs),?_,Zek (hr.modT M (by decide)) fun x hx=>JH hx⟩,M⟩;have h1:OwV w1 base 51 2 (some ⟨g,0,none⟩) (Jf rs).length c (Z4 (Vm base rs vs) (Jf rs)):=o1;rw[XC,<-Zco rs];exact h1
theorem ZfJ (n:Int)(w:World) : Calls Tryz.prog 32 #[.int .i64 n] w fun e w'=>e=.returned (.int .u8 ((Yf n).toNat:Int))/\Ext w w':=by
 by_cases h1:n=1
 ·subst h1
  go_enter Tryz.func32,Tryz.ntmps32;go_wp2_with (fail);go_ret;exact⟨rfl,XI⟩
 ·by_cases h2:n=2
  ·subst h2
   go_enter Tryz.func32,Tryz.ntmps32;go_wp2_with (fail);go_ret;exact⟨rfl,XI⟩
  ·by_cases h3:n=3
   ·subst h3
    go_enter Tryz.func32,Tryz.ntmps32;go_wp2_with (fail);go_ret;exact⟨rfl,XI⟩
   ·have e:Yf n=0:=by unfold Yf;rw[if_neg h1,if_neg h2,if_neg h3]
    rw[e];have e1:(n==1)=false:=by simpa using h1
    have e2:(n==2)=false:=by simpa using h2
    have e3:(n==3)=false:=by simpa using h3
    clear e;go_enter Tryz.func32,Tryz.ntmps32;go_wp2_with (fail);go_ret;exact⟨rfl,XI⟩
def ZfK (base:Nat)(rs:List Rec)(w:World)(e:Ending)(w':World) : Prop:=∃ A c,e=.returned (.slice A rs.length c)/\RecSl w' base 51 A c rs/\Ext w w'
theorem Zgi (u:World)(A:Option Addr)(n c:Nat) : (binOp .eql 39 (.slice A n c) (.slice none 0 0)).run Tryz.prog u=.ok (.bool A.isNone) u:=Lib.run_eql_slice_nil u _ 51 _ _ _ _ _ Tryz.underlying39
theorem ZfL (base:Nat)(A:Option Addr)(c:Nat)(rs:List Rec)(w:World)(H:RecSl w base 51 A c rs)(hb:base<=w.heap.size)(hl:rs.length<=1000) :
  Calls Tryz.prog 28 #[.slice A rs.length c] w (ZfK base rs w):=by
 obtain⟨vs,ho,hR⟩:=H;obtain⟨i0,hi,hz0,hz1,hz2⟩:=info_parts Zbi;replace hi:=Hd hi;replace hz0:=Hd hz0;replace hz1:=Hd hz1;replace hz2:=Hd hz2;rcases ho.cases with⟨rfl,rfl,h0,rfl⟩ | ⟨g,cur,rfl,hb2,_⟩
 ·obtain rfl:rs=[]:=List.eq_nil_of_length_eq_zero h0
  have hnil:=fun u:World=>Zgi u none 0 0
  clear ho hR;go_enter Tryz.func28,Tryz.ntmps28;go_wp2_with (fail);go_ret;exact⟨none,0,rfl,⟨[],OwV.nil _ _ _ _,RecsO.nil _ _⟩,XI⟩
 ·have l1:=Hd ho.len
  have l2:=Hd hR.one;have rd:=Hd ho.read.rdC;have hnil:=fun u:World=>Zgi u (some ⟨g,0,none⟩) rs.length c
  replace hR:=Hd hR;clear ho hb2;go_enter Tryz.func28,Tryz.ntmps28;go_wp2_with (at_builtin;refine ZU _ (e:=51) Tryz.underlying39 hi.out hz0.out hz1.out hz2.out (by simp[Value.cells]) (by omega) rfl _ _ rfl w.heap.size (some ⟨w.heap.size,0,none⟩) 0 0 [] (some ⟨g,0,none⟩) rs.length c vs rfl rfl ?_ ?_ ?_ ?_ ?_ ?_ ?_ ?_;(exact OwV.full (.new rfl) (Nat.le_refl _) rfl (by simp[maxLen]));(exact rd.out.ext XI);(exact l1.out);(exact l2.out);(simp only[maxLen];omega);omega;(simp);rintro A5 c5 w5 o5 g5 _);go_ret;have X5:Ext w w5:=Ext.grow (a:=w) ((Ext.rf w).alloc _) g5 (fun z hz=>by simp[bl] at hz;omega);rw[Nat.zero_add] at o5;rw[List.nil_append] at o5;exact⟨A5,c5,rfl,⟨vs,OwV.more o5 hb,hR.out.ext X5⟩,X5⟩
section
variable {D:Nat} {kids:List Int->List Int}
theorem Zgj {okp:List Int->Prop}(hlen:∀ p,okp p->p.length<=D)(hkid:∀ p,okp p->p.length<D->∀ n∈kids p,okp (p++[n])) : ∀ (f:Nat) (p:List Int) (w:Wd) (a:List Rec) (u:Wd),okp p->ZV D kids f p w=some (a,u)->∀ r∈a,okp r.path/\1<=r.kind/\r.kind<=3
 | 0,p,w,a,u,ho,h=>by cases h
 | f+1,p,[],a,u,ho,h=>by cases h
 | f+1,p,c::w,a,u,ho,h=>by
  have hl:=hlen p ho;rw[Un] at h
  by_cases h1:c=98
  ·simp only[h1,if_true] at h
   by_cases h2:p.length=D
   ·simp[h2] at h
   ·simp only[h2,if_false] at h
    have key:∀ (l:List Int) (w:Wd) (a:List Rec) (u:Wd),(∀ n∈l,okp (p++[n]))->Xv (fun n v=>ZV D kids f (p++[n]) v) l w=some (a,u)->∀ r∈a,okp r.path/\1<=r.kind/\r.kind<=3:=by
     intro l
     induction l with
     | nil=>intro w a u _ h;simp only[Xv,Option.some.injEq,Prod.mk.injEq] at h;rw[<-h.1];simp
     | cons n l ih =>
      intro w a u hk h;simp only[Xv] at h
      cases hg:ZV D kids f (p++[n]) w with
      | none=>rw[hg] at h;cases h
      | some q =>
       obtain⟨a1,v⟩:=q;rw[hg] at h;simp only at h;have e1:=Zgj hlen hkid f (p++[n]) w a1 v (hk n (by simp)) hg
       cases hs:Xv (fun n v=>ZV D kids f (p++[n]) v) l v with
       | none=>rw[hs] at h;cases h
       | some q2 =>
        obtain⟨b,u2⟩:=q2;rw[hs] at h;simp only[Option.some.injEq,Prod.mk.injEq] at h;have e2:=ih v b u2 (fun m hm=>hk m (by simp[hm])) hs;rw[<-h.1];intro r hr;rcases List.mem_append.1 hr with hr | hr
        ·exact e1 r hr
        ·exact e2 r hr
    cases hs:Xv (fun n v=>ZV D kids f (p++[n]) v) (kids p) w with
    | none=>rw[hs] at h;cases h
    | some q =>
     obtain⟨b,u2⟩:=q;rw[hs] at h;simp only[Option.some.injEq,Prod.mk.injEq] at h;have e:=key _ _ _ _ (hkid p ho (by omega)) hs;rw[<-h.1];intro r hr;rcases List.mem_cons.1 hr with rfl | hr
     ·exact⟨ho,by simp,by simp⟩
     ·exact e r hr
  ·simp only[h1,if_false] at h
   by_cases h2:c=108
   ·simp only[h2,if_true] at h
    by_cases h3:p.length=D
    ·simp only[h3,if_true,Option.some.injEq,Prod.mk.injEq] at h
     rw[<-h.1];intro r hr;obtain rfl:=List.mem_singleton.1 hr;exact⟨ho,by simp,by simp⟩
    ·simp[h3] at h
   ·simp only[h2,if_false] at h
    by_cases h3:c=112
    ·simp only[h3,if_true,Option.some.injEq,Prod.mk.injEq] at h
     rw[<-h.1];intro r hr;obtain rfl:=List.mem_singleton.1 hr;exact⟨ho,by simp,by simp⟩
    ·simp[h3] at h
theorem Zbr {okp:List Int->Prop}(h0:okp [])(hlen:∀ p,okp p->p.length<=D)(hkid:∀ p,okp p->p.length<D->∀ n∈kids p,okp (p++[n])){w:Wd}{a:List Rec}(h:YF D kids w=some a) : (∀ r∈a,okp r.path/\1<=r.kind/\r.kind<=3)/\a.length=w.length:=by
 unfold YF at h
 cases hn:ZV D kids (D+1) [] w with
 | none=>rw[hn] at h;cases h
 | some q =>
  obtain⟨b,u⟩:=q;rw[hn] at h
  cases u with
  | cons c u=>cases h
  | nil =>
   obtain rfl:=Option.some.inj h;exact⟨Zgj hlen hkid _ _ _ _ _ h0 hn,by have:=Zcp _ _ _ _ _ hn;simp at this;omega⟩
end
theorem Ziy {k:Int}(h:Yf k=0) : ¬(1<=k/\k<=3):=by
 unfold Yf at h;split at h
 ·exact absurd h (by decide)
 ·split at h
  ·exact absurd h (by decide)
  ·split at h
   ·exact absurd h (by decide)
   ·omega
theorem ZcA {k:Int}(h:Yf k≠0) : 1<=k/\k<=3:=by
 unfold Yf at h;split at h
 ·omega
 ·split at h
  ·omega
  ·split at h
   ·omega
   ·exact absurd rfl h
def Yi (D:Nat)(kids:List Int->List Int)(l:List Rec) : Wd×Int:=match Zbl D kids l with
 | some w=>(w,0)
 | none=>([],8)
theorem ZcB {D:Nat}{kids:List Int->List Int}{l:List Rec}{r:Rec}(hr:r∈ZC l)(h:Yf r.kind=0) : Yi D kids l=([],8):=by
 have:Zbl D kids l=none:=by
  unfold Zbl;rw[if_neg];intro hh;have h1:=List.all_eq_true.1 hh.1 r hr;rw[Bool.and_eq_true,decide_eq_true_eq,decide_eq_true_eq] at h1;exact Ziy h h1
 unfold Yi;rw[this]
theorem Zbs {D:Nat}{kids:List Int->List Int}{l:List Rec}(h:∀ r∈ZC l,Yf r.kind≠0) : Yi D kids l=if YF D kids ((ZC l).map fun r=>Yf r.kind)=some (ZC l) then((ZC l).map fun r=>Yf r.kind,0) else([],8):=by
 have h1:(ZC l).all (fun r=>decide (1<=r.kind)&&decide (r.kind<=3))=true:=List.all_eq_true.2 fun r hr=>by
  rw[Bool.and_eq_true,decide_eq_true_eq,decide_eq_true_eq];exact ZcA (h r hr)
 unfold Yi Zbl
 by_cases h2:YF D kids ((ZC l).map fun r=>Yf r.kind)=some (ZC l)
 ·rw[if_pos ⟨h1,h2⟩,if_pos h2]
 ·rw[if_neg (fun hh=>h2 hh.2),if_neg h2]
theorem Zey {D:Nat}{kids:List Int->List Int}{l:List Rec}(h:(Yi D kids l).2=0) : YF D kids (Yi D kids l).1=some (ZC l)/\(Yi D kids l).1.length=l.length:=by
 unfold Yi at *
 cases hw:Zbl D kids l with
 | none=>rw[hw] at h;cases h
 | some w =>
  simp only;unfold Zbl at hw;split at hw
  ·rename_i hh
   obtain rfl:=Option.some.inj hw;exact⟨hh.2,by rw[List.length_map,XC]⟩
  ·cases hw
theorem ZcC (D:Nat)(kids:List Int->List Int)(l:List Rec) : (Yi D kids l).2=0\/Yi D kids l=([],8):=by
 unfold Yi
 cases Zbl D kids l with
 | none=>exact .inr rfl
 | some w=>exact .inl rfl
end
section
def ZbI (l:Wd) : List Value:=l.map fun c=>.int .u8 (c.toNat:Int)
theorem Ziz {w:World}{A:Option Addr}{n:Nat}(c:Nat){l:Wd}(h:RdV w 5 A (ZbI l))(hn:l.length=n) : (convert 48 9 (.slice A n c)).run Tryz.prog w=.ok (.string ⟨l.toArray⟩) w:=by
 subst hn
 by_cases h0:l=[]
 ·subst h0
  rw[run_convert_bytes_string w 48 9 5 A _ c Tryz.underlying48 Tryz.underlying5 Tryz.underlying9]
  cases A<;>simp[Conv.bytesToString,loadCells]
  all_goals rfl
 ·obtain⟨b,off,rfl,hb,hc⟩:=h.form (fun e=>h0 (by unfold ZbI at e;exact List.map_eq_nil_iff.1 e))
  exact run_convert_bytes_back (P:=Tryz.prog) w 48 9 5 ⟨b,off,none⟩ c l Tryz.underlying48 Tryz.underlying5 Tryz.underlying9 fun j hj=>by
   rw[add_plain];exact hc j _ (by unfold ZbI;rw[List.getElem?_map,List.getElem?_eq_getElem hj];rfl)
theorem Zjz : (Tryz.prog.info? 5).map (fun i=>(i.zero,i.size,i.bytes))=some (some (.int .u8 0),1,1):=by kernel_rfl
theorem ZiA (l:Wd)(c:UInt8) : ZbI (l++[c])=ZbI l++[.int .u8 (c.toNat:Int)]:=by simp[ZbI]
def YQ (R:Wd×Int)(w0:World)(e:Ending)(w':World) : Prop:=e=.returned (.tuple #[.string ⟨R.1.toArray⟩,.int .i64 R.2])/\Ext w0 w'
theorem ZiB (A:Option Addr)(n c:Nat)(w:World) : Calls Tryz.prog 12 #[.pointer none,.slice A n c] w (YQ ([],1) w):=by
 go_enter Tryz.func12,Tryz.ntmps12;go_wp2_with (fail);go_ret2;exact⟨rfl,XI⟩
theorem ZiC (i:InstP)(g:Nat)(A:Option Addr)(c:Nat)(rs:List Rec)(w0 w:World)(X:Ext w0 w)(K:KernI w0 g i)(hT:Tab w0)(H:RecSl w w0.heap.size 51 A c rs)(hl:rs.length<=1000)(hp:∀ r∈rs,r.path.length<=1000) :
  Calls Tryz.prog 12 #[.pointer (some ⟨g,0,none⟩),.slice A rs.length c] w (YQ (Yi (Zo i) (ZB i) rs) w0):=by
 have KO:=XT K.1;have DL:=Wo K.1;have CL:=Hd (ZfL w0.heap.size A c rs w H X.size hl);have SO:=Hd (fun(W:World) (A:Option Addr) (c:Nat) (h:RecSl W w0.heap.size 51 A c rs)=>ZbH w0.heap.size A c rs W h hl hp);have RE:=Hd (fun(W:World) (x:Ext w0 W) (l:Wd) (h:l.length<=1000)=>Zcz i g l W (K.ext x) (hT.ext x) h);have RK:Hid (∀ (l:Wd) (a:List Rec),YF (Zo i) (ZB i) l=some a->(∀ r∈a,r.path.length<=1000)/\a.length=l.length):=Hd fun l a h=>by
  obtain⟨h1,h2⟩:=Zbr (U5 K.1) KO.len KO.kid h;exact⟨fun r hr=>by have:=KO.len _ (h1 r hr).1;omega,h2⟩
 have WB:Hid (∀ r∈ZC rs,Yf r.kind=0->Yi (Zo i) (ZB i) rs=([],8)):=Hd fun r hr h=>ZcB hr h
 have WR:Hid ((∀ r∈ZC rs,Yf r.kind≠0)->Yi (Zo i) (ZB i) rs=if YF (Zo i) (ZB i) ((ZC rs).map fun r=>Yf r.kind)=some (ZC rs) then((ZC rs).map fun r=>Yf r.kind,0) else([],8)):=Hd fun h=>Zbs h
 have SL:=Hd (XC rs);have SP:Hid (∀ r∈ZC rs,r.path.length<=1000):=Hd fun r hr=>hp r (J5 hr)
 generalize ZC rs=S at *;obtain⟨R,hR⟩:∃ R,Yi (Zo i) (ZB i) rs=R:=⟨_,rfl⟩;rw[hR] at WB WR ⊢;generalize Zo i=D at *;generalize ZB i=kd at *;obtain⟨i0,hi,hz0,hz1,hz2⟩:=info_parts Zjz;replace hi:=Hd hi;replace hz0:=Hd hz0;replace hz1:=Hd hz1;replace hz2:=Hd hz2;replace X:=Hd X;clear K hT KO H hp hR DL;go_enter Tryz.func12,Tryz.ntmps12;go_wp2_with (fail);refine CL.out.mono ?_;rintro e w1 ⟨A1,c1,rfl,r1,x1⟩;have X1:=Hd (X.out.tr x1);have SO1:=Hd (SO.out w1 A1 c1 r1);clear r1 x1 CL SO;go_wp2_with (fail);refine SO1.out.mono ?_;rintro e w2 ⟨rfl,r2,m2⟩;have X2:=Hd (X1.out.modT m2 (Nat.le_refl _));have R2:=Hd r2;obtain⟨n,hn⟩:∃ n,rs.length=n:=⟨_,rfl⟩;rw[hn] at SL hl ⊢;clear r2 m2 SO1 X1 hn;have R3:Hid (∃ vs,RdV w2 51 A1 vs/\RecsO w2 w0.heap.size vs S):=by
  obtain⟨vs,h1,h2⟩:=R2.out;exact Hd ⟨vs,h1.read,h2⟩
 go_wp2_with (fail);go_loopw [6,21] (fun v u wr=>∃ (k:Nat) (B:Option Addr) (bc:Nat),u=.int .i64 k/\v=.slice B k bc/\k<=n/\Hid (OwV wr w2.heap.size 5 1 B k bc (ZbI ((S.take k).map fun r=>Yf r.kind)))/\Hid (∀ r∈S.take k,Yf r.kind≠0)/\Hid (Ext w2 wr)) (fun _ u _=>n-(intOf u).toNat)
 case atStart=>exact⟨0,none,0,rfl,rfl,by omega,Hd (OwV.nil _ _ _ _),Hd (by simp),Hd XI⟩
 case round =>
  obtain⟨k,B,bc,rfl,rfl,hk,OB,OK,Y⟩:=hrel;have sn:=SL.out
  by_cases hlt:k<n
  ·obtain⟨vs,d1,d2⟩:=R3.out
   obtain⟨b,off,r,A2,c2,rfl,hb,a0,a1,o2,hr⟩:=(d2.ext Y.out).at (d1.ext Y.out) (by omega:k<S.length);have hrm:=List.mem_of_getElem? hr.out;have hsn:=Hd (Qz hr.out);have LT:=Hd (fun(W:World)=>ZfJ r.kind W);clear d1 d2 o2;obtain⟨ch,hch⟩:∃ ch,Yf r.kind=ch:=⟨_,rfl⟩;rw[hch] at LT
   by_cases h0:ch=0
   ·subst h0
    obtain rfl:=WB.out r hrm hch;clear WB WR hrm hch sn;replace hr:=Hd hr;go_wp2_with (fail);refine(LT.out _).mono ?_;rintro e w5 ⟨rfl,x5⟩;have X5:=Hd (X2.out.tr (Y.out.tr (Ext.tr XI x5)));clear x5 LT a0 a1;go_wp2_with (fail);go_ret2;exact⟨rfl,X5.out⟩
   ·have e0:((ch.toNat:Int)==0)=false:=by
     have:ch.toNat≠0:=fun h=>h0 (UInt8.toNat_inj.1 h)
     simp;omega
    have OK2:Hid (∀ r∈S.take (k+1),Yf r.kind≠0):=Hd (by
     rw[hsn.out];intro q hq;rcases List.mem_append.1 hq with h | h
     ·exact OK.out q h
     ·obtain rfl:=List.mem_singleton.1 h
      rw[hch];exact h0)
    have e9:Hid (ZbI ((S.take (k+1)).map fun r=>Yf r.kind)=ZbI ((S.take k).map fun r=>Yf r.kind)++[.int .u8 (ch.toNat:Int)]):=Hd (by rw[hsn.out,List.map_append,List.map_cons,List.map_nil,hch,ZiA]);clear hrm hch h0 sn;replace hr:=Hd hr;go_wp2_with (fail);refine(LT.out _).mono ?_;rintro e w5 ⟨rfl,x5⟩;have Y5:=Hd (Ext.tr (a:=wr) XI x5);have z5:=(Y.out.tr Y5.out).size;clear x5 LT a0 a1;go_wp2_with (at_builtin;refine ZU _ (e:=5) Tryz.underlying48 hi.out hz0.out hz1.out hz2.out (by simp[Value.cells]) (by omega) rfl _ _ rfl w2.heap.size B k bc (ZbI ((S.take k).map fun r=>Yf r.kind)) (some ⟨w5.heap.size,0,none⟩) 1 1 [.int .u8 (ch.toNat:Int)] rfl rfl ?_ ?_ ?_ ?_ ?_ ?_ ?_ ?_;(exact OB.out.ext (Y5.out.tr ((Ext.rf _).alloc _)));(exact(RdV.blk (.new (by simp))).rdC);(simp);(simp[Value.oneCell']);(simp only[maxLen];omega);omega;(simp;omega);rintro A6 c6 w6 o6 g6 _);have X6:Ext w2 w6:=Ext.grow (a:=w2) (Y.out.tr (Y5.out.alloc _)) g6 (fun z hz=>(OB.out.lt z hz).1);replace o6:=Hd o6;rw[<-e9.out] at o6;replace X6:=Hd X6;clear g6;go_wp2_with (fail);go_roundw
    case rel=>exact⟨k+1,A6,c6,by go_num,rfl,by omega,o6,OK2,X6⟩
    case measure=>simp[intOf];omega
  ·obtain rfl:k=n:=by omega
   have ht:S.take k=S:=by rw[<-sn];exact List.take_length
   rw[ht] at OB OK;have WR1:=WR.out OK.out;obtain⟨L,hL⟩:∃ L,(S.map fun r=>Yf r.kind)=L:=⟨_,rfl⟩;have ll:L.length=k:=by rw[<-hL,List.length_map,sn]
   have hll:=Hd ll;rw[hL] at WR1 OB;have CV:=fun(W:World) (x:Ext wr W)=>Ziz bc (OB.out.read.ext x) hll.out
   have CV1:=CV wr (Ext.rf _);have RD:=Hd (RE.out wr (X2.out.tr Y.out) L (by omega));have EF:=Hd (fun(W:World) (x:Ext wr W) (M:Option Addr) (mc:Nat) (m:List Rec) (h:RecSl W wr.heap.size 51 M mc m) (l9:m.length<=1000) (pm:∀ r∈m,r.path.length<=1000)=>ZfI w0.heap.size wr.heap.size A1 M c1 mc S m W (by exact R2.out.ext (Y.out.tr x)) h (by omega) l9 SP.out pm);have RK1:=Hd (RK.out L);replace WR1:=Hd WR1;replace CV:=Hd CV;clear WB WR OB OK R3 SP ht ll hL RE RK;go_wp2_with (fail);refine RD.out.mono ?_;intro e w5 hpost
   cases hm:YF D kd L with
   | none =>
    rw[hm] at hpost;obtain⟨pl,er,rfl,hne,x5⟩:=hpost;have e1:(er != 0)=true:=by simpa using hne
    have ER:Hid (R=([],8)):=Hd (by rw[WR1.out,hm,if_neg (by simp)]);have X5:=Hd (X2.out.tr (Y.out.tr x5));clear x5 hne hm WR1 EF RK1 RD CV CV1;go_wp2_with (fail);go_ret2;rw[ER.out];exact⟨rfl,X5.out⟩
   | some m =>
    rw[hm] at hpost;obtain⟨M,mc,rfl,r5,x5⟩:=hpost;obtain⟨pm,lm⟩:=RK1.out m hm;have EF1:=Hd (EF.out w5 x5 M mc m r5 (by have:=hll.out;omega) pm);replace x5:=Hd x5;have X5:=Hd (X2.out.tr (Y.out.tr x5));have ER:Hid (R=if S=m then(L,0) else([],8)):=Hd (by
     rw[WR1.out,hm]
     by_cases h:S=m
     ·rw[if_pos (by rw[h]),if_pos h]
     ·rw[if_neg (fun hh=>h (Option.some.inj hh).symm),if_neg h])
    obtain⟨q,hq⟩:∃ q,decide (S=m)=q:=⟨_,rfl⟩;have e9:S.length=k:=sn;rw[e9,hq] at EF1;clear r5 RK1 RD EF WR1 hm pm lm e9 CV1;replace hq:=Hd hq;go_wp2_with (fail);refine EF1.out.mono ?_;rintro e w6 ⟨rfl,x6⟩;have CV2:=CV.out w6 (x5.out.tr x6);have X6:=Hd (X5.out.tr x6);clear x6 EF1 CV
    cases q with
    | true =>
     have EL:Hid (R=(L,0)):=Hd (by rw[ER.out,if_pos (of_decide_eq_true hq.out)]);clear ER hq;go_wp2_with (fail);go_ret2;rw[EL.out];exact⟨rfl,X6.out⟩
    | false =>
     have EL:Hid (R=([],8)):=Hd (by rw[ER.out,if_neg (of_decide_eq_false hq.out)]);clear ER hq;go_wp2_with (fail);go_ret2;rw[EL.out];exact⟨rfl,X6.out⟩
end
section
open Go.Shelf
def Zgk : Go.Shelf.Ren:=⟨fun | 105=>39 | 212=>65 | 99=>66 | 165=>67 | 166=>15 | 170=>68 | 169=>17 | 263=>95 | 264=>96 | 206=>97 | 240=>40 | 241=>98 | 276=>69 | 277=>114 | 167=>16 | n=>n,fun | 9=>9 | 3=>3 | 4=>4 | 20=>20 | 0=>0 | 46=>112 | 109=>113 | 5=>5 | 72=>50 | 76=>55 | 51=>138 | 146=>139 | 53=>141 | 148=>142 | 70=>47 | 37=>48 | 75=>54 | 127=>94 | 164=>117 | 80=>58 | n=>n,fun n=>n⟩
theorem Zj2 : Lays.n105 Tryz.prog Zgk where
 mixed:=by kernel_rfl
 f99:=Tryz.func66.trans (congrArg some (by kernel_rfl))
 f105:=Tryz.func39.trans (congrArg some (by kernel_rfl))
 f165:=Tryz.func67.trans (congrArg some (by kernel_rfl))
 f166:=Tryz.func15.trans (congrArg some (by kernel_rfl))
 f169:=Tryz.func17.trans (congrArg some (by kernel_rfl))
 f170:=Tryz.func68.trans (congrArg some (by kernel_rfl))
 f206:=Tryz.func97.trans (congrArg some (by kernel_rfl))
 f212:=Tryz.func65.trans (congrArg some (by kernel_rfl))
 f240:=Tryz.func40.trans (congrArg some (by kernel_rfl))
 f241:=Tryz.func98.trans (congrArg some (by kernel_rfl))
 f263:=Tryz.func95.trans (congrArg some (by kernel_rfl))
 f264:=Tryz.func96.trans (congrArg some (by kernel_rfl))
 f276:=Tryz.func69.trans (congrArg some (by kernel_rfl))
 f277:=Tryz.func114.trans (congrArg some (by kernel_rfl))
 t0:=Tryz.underlying0
 a0:=Tryz.isAgg0
 z0:=Tryz.sizeOf0
 v0:=Tryz.zeroValue0
 t3:=Tryz.underlying3
 a3:=Tryz.isAgg3
 z3:=Tryz.sizeOf3
 v3:=Tryz.zeroValue3
 t4:=Tryz.underlying4
 a4:=Tryz.isAgg4
 z4:=Tryz.sizeOf4
 v4:=Tryz.zeroValue4
 t5:=Tryz.underlying5
 a5:=Tryz.isAgg5
 z5:=Tryz.sizeOf5
 v5:=Tryz.zeroValue5
 t9:=Tryz.underlying9
 a9:=Tryz.isAgg9
 z9:=Tryz.sizeOf9
 v9:=Tryz.zeroValue9
 t20:=Tryz.underlying20
 a20:=Tryz.isAgg20
 z20:=Tryz.sizeOf20
 v20:=Tryz.zeroValue20
 t37:=Tryz.underlying48
 a37:=Tryz.isAgg48
 z37:=Tryz.sizeOf48
 v37:=Tryz.zeroValue48
 t46:=Tryz.underlying112
 a46:=Tryz.isAgg112
 z46:=Tryz.sizeOf112
 v46:=Tryz.zeroValue112
 t51:=Tryz.underlying138
 a51:=Tryz.isAgg138
 z51:=Tryz.sizeOf138
 v51:=Tryz.zeroValue138
 t53:=Tryz.underlying141
 a53:=Tryz.isAgg141
 z53:=Tryz.sizeOf141
 v53:=Tryz.zeroValue141
 t70:=Tryz.underlying47
 a70:=Tryz.isAgg47
 z70:=Tryz.sizeOf47
 v70:=Tryz.zeroValue47
 t72:=Tryz.underlying50
 a72:=Tryz.isAgg50
 z72:=Tryz.sizeOf50
 v72:=Tryz.zeroValue50
 t75:=Tryz.underlying54
 a75:=Tryz.isAgg54
 z75:=Tryz.sizeOf54
 v75:=Tryz.zeroValue54
 t76:=Tryz.underlying55
 a76:=Tryz.isAgg55
 z76:=Tryz.sizeOf55
 v76:=Tryz.zeroValue55
 t109:=Tryz.underlying113
 a109:=Tryz.isAgg113
 z109:=Tryz.sizeOf113
 v109:=Tryz.zeroValue113
 t127:=Tryz.underlying94
 a127:=Tryz.isAgg94
 z127:=Tryz.sizeOf94
 v127:=Tryz.zeroValue94
 t146:=Tryz.underlying139
 a146:=Tryz.isAgg139
 z146:=Tryz.sizeOf139
 v146:=Tryz.zeroValue139
 t148:=Tryz.underlying142
 a148:=Tryz.isAgg142
 z148:=Tryz.sizeOf142
 v148:=Tryz.zeroValue142
 t164:=Tryz.underlying117
 a164:=Tryz.isAgg117
 z164:=Tryz.sizeOf117
 v164:=Tryz.zeroValue117
theorem ZiD : Builder.Extra Tryz.prog Zgk where
 sizeBuilder:=by kernel_rfl
 liesBuilder:=by kernel_rfl
 t5:=Tryz.underlying5
 a5:=Tryz.isAgg5
 z5:=Tryz.sizeOf5
 v5:=Tryz.zeroValue5
 infoByte:=by kernel_rfl
 cellsByte:=by kernel_rfl
 sizeByte:=by kernel_rfl
 neB5:=by decide
theorem ZfM (s:List UInt8)(c:Nat)(w:World)(hc:c<=9223372036854775807)(hlen:s.length*c<=140737488355328) :
  Calls Tryz.prog 39 #[.string ⟨s.toArray⟩,.int .i64 c] w fun e w'=>e=.returned (.string ⟨(Lib.repeatL s c).toArray⟩)/\Ext w w' :=
 Any.strings_Repeat Zj2 ZiD ⟨s.toArray⟩ c w hc hlen
def V7 (n:Int) : Txt:=if n=1 then [112,114,117,110,101,100] else if n=2 then [98,114,97,110,99,104] else [108,101,97,102]
def Ur (p:List Int) : Txt:=if p.length=0 then [114,111,111,116] else Lib.itoa (p.getD (p.length-1) 0)
def Zaa (n:Int)(p:List Int)(b:Int) : Txt:=Lib.repeatL [32,32] p.length++Ur p++[32]++V7 n++[32,97,116,32]++Lib.itoa b
def YV (i:InstP)(n:Int)(p:List Int) : Txt×Int :=
 if (Zw i p).2≠0 then([],1) else if n<1\/3<n then([],8) else(Zaa n p (Zw i p).1,0)
theorem ZfN {i:InstP}(ok:KnapOk i)(p:List Int) : -1000000000000<=(Ym i.cap (wsP i) (vsP i) p).1/\(Ym i.cap (wsP i) (vsP i) p).1<=1000000000000:=by
 obtain⟨f1,f2,f3,f4,f5⟩:=QD ok;unfold Ym
 cases hst:stP i.cap 0 (wsP i) (vsP i) p with
 | none=>simp
 | some q =>
  obtain⟨room,out⟩:=q;simp only;have n2:=ok.n2;have hle:p.length<=(wsP i).length:=by
   by_cases h:(wsP i).length<p.length
   ·rw[Wv h] at hst;cases hst
   ·omega
  have bR:=VE f3 ok.cap.1 hst;have bO:=QK f4 hst;have bS:=Zah (vs:=vsP i) f4 p.length;have bN:=XH (room:=room) (ws:=(wsP i).drop p.length) (vs:=(vsP i).drop p.length) bR.1 (fun x hx=>f3 x (List.mem_of_mem_drop hx)) (fun x hx=>(f4 x (List.mem_of_mem_drop hx)).1);have bL:=W8 (room:=room) (ws:=(wsP i).drop p.length) (vs:=(vsP i).drop p.length) bR.1 (fun x hx=>f3 x (List.mem_of_mem_drop hx)) (fun x hx=>(f4 x (List.mem_of_mem_drop hx)).1);omega
theorem ZfO {rows:List (List Int)}(ok:RowsOk rows)(p:List Int) : -1000000000000<=(ZX rows p).1/\(ZX rows p).1<=1000000000000:=by
 have n2:=ok.n2;unfold ZX
 cases hr:Ye rows.length p with
 | none=>simp
 | some m =>
  obtain⟨hpl,hin,hS⟩:=WG n2 hr;simp only;have h1:=UH (B:=2147483647) (rows:=rows) (p:=p) (by omega) fun row hr c hc=>by
   have:=hin c hc;exact ok.get hr (by omega)
  have RB:=Ql (rows:=rows.drop p.length) (m:=m) (by rw[List.length_drop];omega) (fun row hr c hc=>ok.get (List.mem_of_mem_drop hr) (hS.2 c hc));split<;>omega
theorem ZfP {rows:List (List Int)}{mi:Bool}(ok:RowsOk rows)(p:List Int) : -1000000000000<=(ZZ rows mi p).1/\(ZZ rows mi p).1<=1000000000000:=by
 have l1:=ok.n1;have l2:=ok.n2;unfold ZZ
 cases hr:Yq rows p with
 | none=>simp
 | some s =>
  obtain⟨m,last,cost⟩:=s;obtain⟨pl,WO⟩:=XM l1 l2 hr;simp only;have hS:=WO.sub;have hla:=VY l1 WO;have hlen:(Zb m).length<=24:=by have:=WO.len;omega
  have num:∀ a b,a<rows.length->b<rows.length->0<=Za rows a b/\Za rows a b<=2147483647:=fun a b ha hb=>by
   have e1:rows[a]?=some rows[a]:=List.getElem?_eq_getElem ha;have e2:=ok.row _ (List.getElem_mem ha);have e3:(rows[a])[b]?=some (rows[a])[b]:=List.getElem?_eq_getElem (by omega);unfold Za;rw[getD_some e1,getD_some e3];exact ok.num _ (List.getElem_mem ha) _ (List.getElem_mem _)
  have bcost:0<=cost/\cost<=2147483647*24:=by
   have h1:=Zal num pl 0 (by omega) fun x hx=>(WO.inn x hx).1
   have h2:=WO.len;rw[WO.cost];omega
  have bred:=Qu num (by omega) hla hS.2 hlen;have n0:=num last 0 hla (by omega);split
  ·omega
  ·rename_i hne
   have bend:=Zba num (by omega) hla hS.2 hlen hne;split<;>omega
theorem QG {i:InstP}(hc:Zk i=0)(p:List Int) : -9223372036854775808<=(Zw i p).1/\(Zw i p).1<=9223372036854775807:=by
 unfold Zw;split
 ·rename_i hk
  have:=ZfN (Yj hc hk) p;omega
 ·have ok:=ZP (Zt hc (by assumption))
  split
  ·have:=ZfO ok p
   omega
  ·have:=ZfP (mi:=Wh i.cost) ok p
   omega
theorem Zez {i:InstP}{n:Int}{p:List Int}(h:(Zw i p).2≠0) : YV i n p=([],1):=by unfold YV;rw[if_pos h]
theorem Zbt {i:InstP}{n:Int}{p:List Int}(h:(Zw i p).2=0)(hn:n<1\/3<n) : YV i n p=([],8):=by unfold YV;rw[if_neg (by simpa using h),if_pos hn]
theorem JM {i:InstP}{n:Int}{p:List Int}(h:(Zw i p).2=0)(hn:¬(n<1\/3<n)) : YV i n p=(Zaa n p (Zw i p).1,0):=by unfold YV;rw[if_neg (by simpa using h),if_neg hn]
theorem Zar : ∀ k:Nat,(Lib.repeatL ([32,32]:Txt) k).length=2*k
 | 0=>rfl
 | k+1=>by
  simp only[Lib.repeatL,List.length_append,Zar k,List.length_cons,List.length_nil];omega
theorem ZeA : ∀ k:Nat,Lib.repeatL ([32,32]:Txt) k++[32,32]=Lib.repeatL [32,32] (k+1)
 | 0=>rfl
 | k+1=>by
  have ih:=ZeA k;simp only[Lib.repeatL,List.append_assoc] at ih ⊢;rw[ih]
def Yr (f:Rec->Txt)(d:Int)(l:List Rec) : Txt:=l.flatMap fun r=>if (r.path.length:Int)<=d then f r++[10] else []
theorem Zab (f:Rec->Txt)(d:Int)(l:List Rec)(r:Rec) : Yr f d (l++[r])=Yr f d l++(if (r.path.length:Int)<=d then f r++[10] else []):=by simp[Yr]
theorem ZcD {f:Rec->Txt}{d:Int}{l:List Rec}{k:Nat}{r:Rec}(h:l[k]?=some r)(hd:(r.path.length:Int)<=d) : Yr f d (l.take (k+1))=Yr f d (l.take k)++f r++[10]:=by
 have e:l.take (k+1)=l.take k++[r]:=by
  obtain⟨h1,h2⟩:=List.getElem?_eq_some_iff.1 h;rw[List.take_succ_eq_append_getElem h1,h2]
 rw[e,Zab,if_pos hd,List.append_assoc]
theorem Zbu {f:Rec->Txt}{d:Int}{l:List Rec}{k:Nat}{r:Rec}(h:l[k]?=some r)(hd:¬(r.path.length:Int)<=d) : Yr f d (l.take (k+1))=Yr f d (l.take k):=by
 have e:l.take (k+1)=l.take k++[r]:=by
  obtain⟨h1,h2⟩:=List.getElem?_eq_some_iff.1 h;rw[List.take_succ_eq_append_getElem h1,h2]
 rw[e,Zab,if_neg hd,List.append_nil]
theorem QH {f:Rec->Txt}{d:Int} : ∀ {l:List Rec},(∀ r∈l,(f r).length<=200)->(Yr f d l).length<=201*l.length
 | [],_=>by simp[Yr]
 | r::l,h=>by
  have ih:=QH (f:=f) (d:=d) (l:=l) fun q hq=>h q (by simp[hq])
  have h1:=h r (by simp);have e:Yr f d (r::l)=(if (r.path.length:Int)<=d then f r++[10] else [])++Yr f d l:=rfl;rw[e,List.length_append,List.length_cons];split
  ·rw[List.length_append,List.length_singleton];omega
  ·simp;omega
theorem Zhj {i:InstP}(hc:Zk i=0){p:List Int}{n:Int}(h:n∈ZB i p) : 0<=n/\n<=64:=by
 unfold ZB at h
 by_cases hk:i.kind=1
 ·rw[if_pos hk] at h
  unfold J7 at h;split at h
  ·cases h
  ·split at h
   ·simp at h;omega
   ·simp at h;omega
 ·rw[if_neg hk] at h
  have n2:=(ZP (Zt hc hk)).n2;unfold ZbF Zf at h;obtain⟨c,hc2,rfl⟩:=List.mem_map.1 h;have:=List.mem_range.1 (List.mem_filter.1 hc2).1;omega
def okW (i:InstP)(p:List Int) : Prop:=okI i p/\∀ x∈p,0<=x/\x<=64
theorem Zbv {i:InstP}{p:List Int}(h:okW i p) : Ints p:=fun x hx=>by have:=h.2 x hx;omega
theorem Zbw {i:InstP}(hc:Zk i=0){w:Wd}{a:List Rec}(h:YF (Zo i) (ZB i) w=some a) : (∀ r∈a,okW i r.path/\1<=r.kind/\r.kind<=3)/\a.length=w.length:=by
 have KO:=XT hc;refine Zbr (okp:=okW i) ⟨U5 hc,by simp⟩ (fun p h=>KO.len p h.1) (fun p h hl n hn=>⟨KO.kid p h.1 hl n hn,fun x hx=>?_⟩) h;rcases List.mem_append.1 hx with hx | hx
 ·exact h.2 x hx
 ·obtain rfl:=List.mem_singleton.1 hx
  exact Zhj hc hn
theorem ZfQ {i:InstP}(hc:Zk i=0){p:List Int}(h:okI i p) : (Zw i p).2=0:=by
 obtain⟨h1,h2,h3⟩:=ZfD hc h;unfold Zw;rcases ZL hc with hk | hk | hk
 ·rw[if_pos hk];exact h1 hk
 ·rw[if_neg (by omega),if_pos hk];exact h2 hk
 ·rw[if_neg (by omega),if_neg (by omega)];exact h3 hk
theorem Zgl {i:InstP}(hc:Zk i=0){p:List Int}{n:Int}(h:okW i p)(h1:1<=n)(h3:n<=3) : (YV i n p).2=0/\(YV i n p).1.length<=200:=by
 rw[JM (ZfQ hc h.1) (by omega)];refine⟨rfl,?_⟩;have lp:=(XT hc).len p h.1;have ld:=Wo hc;have rg:=QG hc p;have lb:=Lib.itoa_length_le _ rg.1 rg.2;have lk:(V7 n).length<=6:=by
  unfold V7;split
  ·decide
  ·split<;>decide
 have ln:(Ur p).length<=21:=by
  unfold Ur;split
  ·decide
  ·rename_i h0
   have hx:p.getD (p.length-1) 0∈p:=by
    rw[List.getD_eq_getElem?_getD,List.getElem?_eq_getElem (by omega),Option.getD_some];exact List.getElem_mem _
   have:=Zbv h _ hx;exact Lib.itoa_length_le _ this.1 this.2
 simp only[Zaa,List.length_append,Zar,List.length_cons,List.length_nil];omega
def UV (i:InstP)(rs:List Rec)(d:Int) : Txt×Int :=
 if (Yi (Zo i) (ZB i) rs).2≠0 then([],(Yi (Zo i) (ZB i) rs).2) else if d<0 then([],1) else(Yr (fun r=>(YV i r.kind r.path).1) d (ZC rs),0)
theorem ZcE {i:InstP}{rs:List Rec}{d:Int}(h:Yi (Zo i) (ZB i) rs=([],8)) : UV i rs d=([],8):=by unfold UV;rw[h];rfl
theorem ZcF {i:InstP}{rs:List Rec}{d:Int}(h:(Yi (Zo i) (ZB i) rs).2=0)(hd:d<0) : UV i rs d=([],1):=by unfold UV;rw[if_neg (by simpa using h),if_pos hd]
theorem ZcG {i:InstP}{rs:List Rec}{d:Int}(h:(Yi (Zo i) (ZB i) rs).2=0)(hd:¬d<0) : UV i rs d=(Yr (fun r=>(YV i r.kind r.path).1) d (ZC rs),0):=by unfold UV;rw[if_neg (by simpa using h),if_neg hd]
end
section
def QI (n:Int) : Txt:=if n<1\/3<n then [] else V7 n
theorem ZfR (n:Int)(w:World) : Calls Tryz.prog 37 #[.int .i64 n] w fun e w'=>e=.returned (.string ⟨(QI n).toArray⟩)/\Ext w w':=by
 by_cases h1:n=1
 ·subst h1
  go_enter Tryz.func37,Tryz.ntmps37;go_wp2_with (fail);go_ret;exact⟨rfl,XI⟩
 ·by_cases h2:n=2
  ·subst h2
   go_enter Tryz.func37,Tryz.ntmps37;go_wp2_with (fail);go_ret;exact⟨rfl,XI⟩
  ·by_cases h3:n=3
   ·subst h3
    go_enter Tryz.func37,Tryz.ntmps37;go_wp2_with (fail);go_ret;exact⟨rfl,XI⟩
   ·have e:QI n=[]:=by unfold QI;rw[if_pos (by omega)]
    rw[e];have e1:(n==1)=false:=by simpa using h1
    have e2:(n==2)=false:=by simpa using h2
    have e3:(n==3)=false:=by simpa using h3
    clear e;go_enter Tryz.func37,Tryz.ntmps37;go_wp2_with (fail);go_ret;exact⟨rfl,XI⟩
theorem ZfS (i:InstP)(g:Nat)(n:Int)(P:Option Addr)(c:Nat)(p:List Int)(w:World)(K:KernI w g i)(hT:Tab w)(hS:Ten w)(hP:RdI w P p)(ip:Ints p)(lp:p.length<=1000) :
  Calls Tryz.prog 14 #[.pointer (some ⟨g,0,none⟩),.agg #[.int .i64 n,.slice P p.length c]] w fun e w'=>e=.returned (.tuple #[txS (YV i n p).1,.int .i64 (YV i n p).2])/\Ext w w':=by
 have BO:=fun(W:World) (y:Ext w W)=>Zfx P c p (K.ext y) (hT.ext y) (hP.ext y) (by omega)
 have rg:=QG K.1 p;have B1:Hid (Blk (w.alloc (.cells #[.int .i64 n,.slice P p.length c] 51)) w.heap.size 51 #[.int .i64 n,.slice P p.length c]):=.new rfl;have KN:=Hd (fun W:World=>ZfR n W);unfold txS
 by_cases h:(Zw i p).2=0
 ·rw[h] at BO
  by_cases hn:n<1\/3<n
  ·rw[Zbt h hn]
   have ek:QI n=[]:=by unfold QI;rw[if_pos hn]
   rw[ek] at KN;generalize (Zw i p).1=b at *;replace BO:=Hd BO;clear h hn rg K hT hS hP ip ek;go_enter Tryz.func14,Tryz.ntmps14;go_wp2_with (fail);refine(BO.out _ XI).mono ?_;rintro e w1 ⟨rfl,x1⟩;have X1:=Hd (Ext.tr (a:=w) XI x1);have b1:=B1.out.ext x1;have t0:=b1.c0;have t1:=b1.c1;clear x1 b1 B1;go_wp2_with (fail);refine(KN.out _).mono ?_;rintro e w2 ⟨rfl,x2⟩;have X2:=Hd (X1.out.tr (Ext.tr XI x2));clear x2;go_wp2_with (fail);go_ret2;exact⟨rfl,X2.out⟩
  ·rw[JM h hn]
   have ek:QI n=V7 n:=by unfold QI;rw[if_neg hn]
   rw[ek] at KN;have l0:Hid ((V7 n).length<=6/\(V7 n).isEmpty=false):=by
    unfold V7;split
    ·exact⟨by decide,by decide⟩
    ·split
     ·exact⟨by decide,by decide⟩
     ·exact⟨by decide,by decide⟩
   have NM:Hid (Ur p=if p.length=0 then [114,111,111,116] else Lib.itoa (p.getD (p.length-1) 0)):=by
    have h:Ur p=if p.length=0 then [114,111,111,116] else Lib.itoa (p.getD (p.length-1) 0):=rfl
    exact h
   have WB:=Hd (fun(W:World) (y:Ext w W)=>WZ (Zw i p).1 rg.1 rg.2 W (hS.ext y));have lb:=Lib.itoa_length_le _ rg.1 rg.2;have LT:Hid (Zaa n p (Zw i p).1=Lib.repeatL [32,32] p.length++Ur p++[32]++V7 n++[32,97,116,32]++Lib.itoa (Zw i p).1):=by
    have h:Zaa n p (Zw i p).1=Lib.repeatL [32,32] p.length++Ur p++[32]++V7 n++[32,97,116,32]++Lib.itoa (Zw i p).1:=rfl;exact h
   have RP:=Hd (fun W:World=>ZfM [32,32] p.length W (by omega) (by simp;omega));have lr:(Lib.repeatL ([32,32]:Txt) p.length).length=2*p.length:=Zar _;generalize hlt:Zaa n p (Zw i p).1=LTX at *;generalize (Zw i p).1=b at *;generalize Lib.itoa b=tb at *;generalize V7 n=tk at *;generalize Lib.repeatL [32,32] p.length=tr at *;obtain⟨lk,ne⟩:=l0.out;replace BO:=Hd BO;replace hlt:=Hd hlt;clear h hn rg K hT ek l0
   by_cases hp:p.length=0
   ·have nm:Ur p=[114,111,111,116]:=by rw[NM.out,if_pos hp]
    have lA:¬9223372036854775807<tr.length+4:=by omega
    have lB:¬9223372036854775807<tr.length+4+1:=by omega
    have lC:¬9223372036854775807<tr.length+4+1+tk.length:=by omega
    have lD:¬9223372036854775807<tr.length+4+1+tk.length+4:=by omega
    have lE:¬9223372036854775807<tr.length+4+1+tk.length+4+tb.length:=by omega
    have ES:Hid ((⟨tr.toArray⟩:ByteArray)++⟨#[114,111,111,116]⟩++⟨#[32]⟩++⟨tk.toArray⟩++⟨#[32,97,116,32]⟩++⟨tb.toArray⟩=⟨LTX.toArray⟩):=Hd (by
     rw[LT.out,nm,show (⟨#[114,111,111,116]⟩:ByteArray)=⟨([114,111,111,116]:Txt).toArray⟩ from rfl,show (⟨#[32]⟩:ByteArray)=⟨([32]:Txt).toArray⟩ from rfl,show (⟨#[32,97,116,32]⟩:ByteArray)=⟨([32,97,116,32]:Txt).toArray⟩ from rfl,Z8,Z8,Z8,Z8,Z8])
    have hp0:¬(0:Int)<(p.length:Int):=by omega
    clear NM nm LT hP hS ip hp lr lk lb hlt;go_enter Tryz.func14,Tryz.ntmps14;go_wp2_with (fail);refine(BO.out _ XI).mono ?_;rintro e w1 ⟨rfl,x1⟩;have X1:=Hd (Ext.tr (a:=w) XI x1);have b1:=B1.out.ext x1;have t0:=b1.c0;have t1:=b1.c1;clear x1 B1;go_wp2_with (fail);refine(KN.out _).mono ?_;rintro e w2 ⟨rfl,x2⟩;have X2:=Hd (X1.out.tr (Ext.tr XI x2));have b2:=b1.ext (Ext.tr XI x2);have s1:=b2.c1;clear x2 b1 t0 t1 X1;go_wp2_with (fail);refine(RP.out _).mono ?_;rintro e w3 ⟨rfl,x3⟩;have X3:=Hd (X2.out.tr (Ext.tr XI x3));clear x3 b2 s1 X2;go_wp2_with (fail);refine(WB.out _ (X3.out.tr XI)).mono ?_;rintro e w4 ⟨rfl,x4⟩;have X4:=Hd (X3.out.tr (Ext.tr XI x4));clear x4 X3;go_wp2_with (fail);go_ret2;exact⟨by rw[<-ES.out];rfl,X4.out⟩
   ·obtain⟨pb,po,x,rfl,zb,cx,ex,-⟩:=hP.at (k:=p.length-1) (by omega)
    have ix:=ip.get ex.out;have nm:Ur p=Lib.itoa x:=by rw[NM.out,if_neg hp,getD_some ex.out]
    have WX:=Hd (fun(W:World) (y:Ext w W)=>WZ x ix.1 ix.2 W (hS.ext y));have lx:=Lib.itoa_length_le _ ix.1 ix.2;generalize Lib.itoa x=tx at *;have lA:¬9223372036854775807<tr.length+tx.length:=by omega
    have lB:¬9223372036854775807<tr.length+tx.length+1:=by omega
    have lC:¬9223372036854775807<tr.length+tx.length+1+tk.length:=by omega
    have lD:¬9223372036854775807<tr.length+tx.length+1+tk.length+4:=by omega
    have lE:¬9223372036854775807<tr.length+tx.length+1+tk.length+4+tb.length:=by omega
    have ES:Hid ((⟨tr.toArray⟩:ByteArray)++⟨tx.toArray⟩++⟨#[32]⟩++⟨tk.toArray⟩++⟨#[32,97,116,32]⟩++⟨tb.toArray⟩=⟨LTX.toArray⟩):=Hd (by
     rw[LT.out,nm,show (⟨#[32]⟩:ByteArray)=⟨([32]:Txt).toArray⟩ from rfl,show (⟨#[32,97,116,32]⟩:ByteArray)=⟨([32,97,116,32]:Txt).toArray⟩ from rfl,Z8,Z8,Z8,Z8,Z8])
    have hp0:(0:Int)<(p.length:Int):=by omega
    have wl:IntKind.i64.wrap ((p.length:Int)-1)=((p.length-1:Nat):Int):=by rw[show (p.length:Int)-1=((p.length-1:Nat):Int) by omega];exact IntWalk.i64_in _ (by omega)
    have q1:(0:Int)<=((p.length-1:Nat):Int):=by omega
    have q2:((p.length-1:Nat):Int)<(p.length:Int):=by omega
    clear NM nm LT hP hS ip hp lr lk lb hlt ex ix lx;go_enter Tryz.func14,Tryz.ntmps14;go_wp2_with (fail);refine(BO.out _ XI).mono ?_;rintro e w1 ⟨rfl,x1⟩;have X1:=Hd (Ext.tr (a:=w) XI x1);have b1:=B1.out.ext x1;have t0:=b1.c0;have t1:=b1.c1;clear x1 B1;go_wp2_with (fail);refine(KN.out _).mono ?_;rintro e w2 ⟨rfl,x2⟩;have X2:=Hd (X1.out.tr (Ext.tr XI x2));have b2:=b1.ext (Ext.tr XI x2);have s1:=b2.c1;have s2:w2.cell? ⟨pb,po+(p.length-1),none⟩=some (.int .i64 x):=(X2.out.cell (p:=⟨pb,po+(p.length-1),none⟩) zb).trans cx;clear x2 b1 t0 t1 X1;go_wp2_with (fail);refine(WX.out _ (X2.out.tr XI)).mono ?_;rintro e w3 ⟨rfl,x3⟩;have X3:=Hd (X2.out.tr (Ext.tr XI x3));have b3:=b2.ext (Ext.tr XI x3);have r1:=b3.c1;clear x3 b2 s1 s2 X2;go_wp2_with (fail);refine(RP.out _).mono ?_;rintro e w4 ⟨rfl,x4⟩;have X4:=Hd (X3.out.tr (Ext.tr XI x4));clear x4 b3 r1 X3;go_wp2_with (fail);refine(WB.out _ (X4.out.tr XI)).mono ?_;rintro e w5 ⟨rfl,x5⟩;have X5:=Hd (X4.out.tr (Ext.tr XI x5));clear x5 X4;go_wp2_with (fail);go_ret2;exact⟨by rw[<-ES.out];rfl,X5.out⟩
 ·rw[Zez h]
  generalize (Zw i p).1=b at *;generalize (Zw i p).2=er at *;have e1:(er != 0)=true:=by simpa using h
  replace BO:=Hd BO;clear h rg K hT hS hP ip B1 KN;go_enter Tryz.func14,Tryz.ntmps14;go_wp2_with (fail);refine(BO.out _ XI).mono ?_;rintro e w1 ⟨rfl,x1⟩;have X1:=Hd (Ext.tr (a:=w) XI x1);clear x1;go_wp2_with (fail);go_ret2;exact⟨rfl,X1.out⟩
end
section
open Go.Shelf
def Zas : Go.Shelf.Ren:=⟨fun | 165=>67 | 166=>15 | 169=>17 | 240=>40 | 241=>98 | 276=>69 | 277=>114 | 167=>16 | n=>n,fun | 9=>9 | 3=>3 | 4=>4 | 0=>0 | 5=>5 | 72=>50 | 70=>47 | 37=>48 | 75=>54 | 127=>94 | 164=>117 | 80=>58 | n=>n,fun n=>n⟩
theorem Zj3 : Lays.n166 Tryz.prog Zas where
 mixed:=by kernel_rfl
 f166:=Tryz.func15.trans (congrArg some (by kernel_rfl))
 f240:=Tryz.func40.trans (congrArg some (by kernel_rfl))
 f276:=Tryz.func69.trans (congrArg some (by kernel_rfl))
 t0:=Tryz.underlying0
 a0:=Tryz.isAgg0
 z0:=Tryz.sizeOf0
 v0:=Tryz.zeroValue0
 t3:=Tryz.underlying3
 a3:=Tryz.isAgg3
 z3:=Tryz.sizeOf3
 v3:=Tryz.zeroValue3
 t4:=Tryz.underlying4
 a4:=Tryz.isAgg4
 z4:=Tryz.sizeOf4
 v4:=Tryz.zeroValue4
 t9:=Tryz.underlying9
 a9:=Tryz.isAgg9
 z9:=Tryz.sizeOf9
 v9:=Tryz.zeroValue9
 t20:=Tryz.underlying20
 a20:=Tryz.isAgg20
 z20:=Tryz.sizeOf20
 v20:=Tryz.zeroValue20
 t37:=Tryz.underlying48
 a37:=Tryz.isAgg48
 z37:=Tryz.sizeOf48
 v37:=Tryz.zeroValue48
 t70:=Tryz.underlying47
 a70:=Tryz.isAgg47
 z70:=Tryz.sizeOf47
 v70:=Tryz.zeroValue47
 t72:=Tryz.underlying50
 a72:=Tryz.isAgg50
 z72:=Tryz.sizeOf50
 v72:=Tryz.zeroValue50
 t75:=Tryz.underlying54
 a75:=Tryz.isAgg54
 z75:=Tryz.sizeOf54
 v75:=Tryz.zeroValue54
 t164:=Tryz.underlying117
 a164:=Tryz.isAgg117
 z164:=Tryz.sizeOf117
 v164:=Tryz.zeroValue117
theorem Zj4 : Lays.n167 Tryz.prog Zas where
 mixed:=by kernel_rfl
 f167:=Tryz.func16.trans (congrArg some (by kernel_rfl))
 f240:=Tryz.func40.trans (congrArg some (by kernel_rfl))
 f276:=Tryz.func69.trans (congrArg some (by kernel_rfl))
 t0:=Tryz.underlying0
 a0:=Tryz.isAgg0
 z0:=Tryz.sizeOf0
 v0:=Tryz.zeroValue0
 t4:=Tryz.underlying4
 a4:=Tryz.isAgg4
 z4:=Tryz.sizeOf4
 v4:=Tryz.zeroValue4
 t5:=Tryz.underlying5
 a5:=Tryz.isAgg5
 z5:=Tryz.sizeOf5
 v5:=Tryz.zeroValue5
 t9:=Tryz.underlying9
 a9:=Tryz.isAgg9
 z9:=Tryz.sizeOf9
 v9:=Tryz.zeroValue9
 t20:=Tryz.underlying20
 a20:=Tryz.isAgg20
 z20:=Tryz.sizeOf20
 v20:=Tryz.zeroValue20
 t37:=Tryz.underlying48
 a37:=Tryz.isAgg48
 z37:=Tryz.sizeOf48
 v37:=Tryz.zeroValue48
 t70:=Tryz.underlying47
 a70:=Tryz.isAgg47
 z70:=Tryz.sizeOf47
 v70:=Tryz.zeroValue47
 t72:=Tryz.underlying50
 a72:=Tryz.isAgg50
 z72:=Tryz.sizeOf50
 v72:=Tryz.zeroValue50
 t75:=Tryz.underlying54
 a75:=Tryz.isAgg54
 z75:=Tryz.sizeOf54
 v75:=Tryz.zeroValue54
 t164:=Tryz.underlying117
 a164:=Tryz.isAgg117
 z164:=Tryz.sizeOf117
 v164:=Tryz.zeroValue117
theorem Zj5 : Lays.n169 Tryz.prog Zas where
 mixed:=by kernel_rfl
 f169:=Tryz.func17.trans (congrArg some (by kernel_rfl))
 t0:=Tryz.underlying0
 a0:=Tryz.isAgg0
 z0:=Tryz.sizeOf0
 v0:=Tryz.zeroValue0
 t3:=Tryz.underlying3
 a3:=Tryz.isAgg3
 z3:=Tryz.sizeOf3
 v3:=Tryz.zeroValue3
 t9:=Tryz.underlying9
 a9:=Tryz.isAgg9
 z9:=Tryz.sizeOf9
 v9:=Tryz.zeroValue9
 t37:=Tryz.underlying48
 a37:=Tryz.isAgg48
 z37:=Tryz.sizeOf48
 v37:=Tryz.zeroValue48
 t70:=Tryz.underlying47
 a70:=Tryz.isAgg47
 z70:=Tryz.sizeOf47
 v70:=Tryz.zeroValue47
 t72:=Tryz.underlying50
 a72:=Tryz.isAgg50
 z72:=Tryz.sizeOf50
 v72:=Tryz.zeroValue50
 t127:=Tryz.underlying94
 a127:=Tryz.isAgg94
 z127:=Tryz.sizeOf94
 v127:=Tryz.zeroValue94
theorem Zbx : Builder.Extra Tryz.prog Zas where
 sizeBuilder:=by kernel_rfl
 liesBuilder:=by kernel_rfl
 t5:=Tryz.underlying5
 a5:=Tryz.isAgg5
 z5:=Tryz.sizeOf5
 v5:=Tryz.zeroValue5
 infoByte:=by kernel_rfl
 cellsByte:=by kernel_rfl
 sizeByte:=by kernel_rfl
 neB5:=by decide
open Go.Shelf
def Bl (w:World)(base b:Nat)(l:Txt) : Prop:=Lib.IsBuilderF 50 5 base b (Lib.byteCells l) w
structure BK (base b:Nat)(w w':World) : Prop where
 below:Below base w w'
 kept:Lib.OthersKept 5 (some b) w w'
section
variable {base b:Nat} {w w' w2:World} {l:Txt}
theorem Bl.new (w:World) : Bl (w.alloc (.cells #[.pointer none,.slice none 0 0] 50)) w.heap.size w.heap.size []:=Lib.IsBuilderF.of (Lib.fresh_isBuilder 50 5 w)
theorem Bl.keep (h:Bl w base b l)(hk:∀ (k:Nat) (cs:Array Value) (t:TypeId) (fz:Nat×Nat),w.heap[k]?=some (Obj.cells cs t fz)->t=50\/t=5->w'.heap[k]?=w.heap[k]?) : Bl w' base b l:=by
 have at_:∀ p,Lib.BuilderAtF 50 5 base b p (Lib.byteCells l) w->Lib.BuilderAtF 50 5 base b p (Lib.byteCells l) w':=by
  rintro p ⟨hB,v,hb,hown,hne⟩;refine⟨hB,v,(hk b _ _ _ hb (.inl rfl)).trans hb,⟨hown.1,?_⟩,hne⟩;rcases hown.2 with hn | ⟨g,cap,cur,fz,hv,hbg,hg,rest⟩
  ·exact .inl hn
  ·exact .inr ⟨g,cap,cur,fz,hv,hbg,(hk g _ _ _ hg (.inr rfl)).trans hg,rest⟩
 exact Or.elim h (fun x=>.inl (at_ _ x)) (fun x=>.inr (at_ _ x))
theorem Bl.ext (h:Bl w base b l)(x:Ext w w') : Bl w' base b l:=h.keep fun k _ _ _ hk _=>x.block k (Array.getElem?_eq_some_iff.1 hk).1
theorem Bl.modT {base':Nat}{ts:List TypeId}(h:Bl w base b l)(m:ModT base' ts w w')(h1:50∉ts)(h2:5∉ts) : Bl w' base b l:=h.keep fun k cs t fz hk ht=>m.block k (Array.getElem?_eq_some_iff.1 hk).1 (by
 rintro ⟨_,cs',t',h3,h4⟩;rw[hk] at h3
 injection h3 with h3
 injection h3 with _ h3 _
 subst h3;rcases ht with rfl | rfl
 ·exact h1 h4
 ·exact h2 h4)
theorem Bl.le (h:Bl w base b l) : base<=b/\b<w.heap.size:=by
 rcases h with⟨hB,v,hb,_⟩ | ⟨hB,v,hb,_⟩<;>exact⟨hB,(Array.getElem?_eq_some_iff.1 hb).1⟩
theorem Bl.isB (h:Bl w base b l) : ∃ cs,w.heap[b]?=some (Obj.cells cs 50 (0,0)):=by
 rcases h with⟨hB,v,hb,_⟩ | ⟨hB,v,hb,_⟩<;>exact⟨_,hb⟩
theorem BK.tr (h:BK base b w w')(k:BK base b w' w2) : BK base b w w2:=⟨h.below.trans k.below,h.kept.trans k.kept⟩
theorem Ext.bk {w0:World}(h:Ext w0 w)(k:BK base b w w')(hb:w0.heap.size<=base) : Ext w0 w':=Below.trans h (Below.mono k.below hb)
theorem RdV.bk {e:TypeId}{A:Option Addr}{vs:List Value}(h:RdV w e A vs)(k:BK base b w w')(hB:Bl w base b l)(h1:e≠5)(h2:e≠50) : RdV w' e A vs:=by
 rcases h with rfl | ⟨g,off,cur,rfl,hg,hc⟩
 ·exact .inl rfl
 ·refine .inr ⟨g,off,cur,rfl,k.kept g _ hg ?_ ?_,hc⟩
  ·intro e1
   injection e1 with e1
   subst e1;obtain⟨cs,hb⟩:=hB.isB;rw[hb] at hg
   injection hg with hg
   injection hg with _ hg
   exact h2 hg.symm
  ·rintro c fz hh
   injection hh with _ hh
   exact h1 hh
theorem Blk.bk {g:Nat}{e:TypeId}{cs:Array Value}(h:Blk w g e cs)(k:BK base b w w')(hB:Bl w base b l)(h1:e≠5)(h2:e≠50) : Blk w' g e cs:=by
 refine k.kept g _ h ?_ ?_
 ·intro e1
  injection e1 with e1
  subst e1;obtain⟨cs',hb⟩:=hB.isB;have hg:w.heap[g]?=some (.cells cs e (0,0)):=h;rw[hb] at hg
  injection hg with hg
  injection hg with _ hg
  exact h2 hg.symm
 ·rintro c fz hh
  injection hh with _ hh
  exact h1 hh
theorem OwV.bk {base':Nat}{e:TypeId}{size n c:Nat}{A:Option Addr}{vs:List Value}(h:OwV w base' e size A n c vs)(k:BK base b w w')(hB:Bl w base b l)(h1:e≠5)(h2:e≠50) : OwV w' base' e size A n c vs :=
 h.keep fun g hg=>by
  rcases h.cases with⟨rfl,rfl,rfl,rfl⟩ | ⟨g',cur,rfl,hb',hh,_⟩
  ·simp[bl] at hg
  ·simp[bl] at hg
   subst hg;exact(Blk.bk (g:=g') hh k hB h1 h2).trans hh.symm
end
theorem ZeB (s:Txt) : Lib.strCells ⟨s.toArray⟩=Lib.byteCells s:=by simp[Lib.strCells,Lib.byteCells]
theorem ZiE (base b:Nat)(l s:Txt)(w:World)(h:Bl w base b l)(hl:l.length+s.length<=1000000000)(hb:base<=w.heap.size) :
  Calls Tryz.prog 15 #[.pointer (some ⟨b,0,none⟩),.string ⟨s.toArray⟩] w fun e w'=>e=.returned (.tuple #[.int .i64 s.length,.nilIface])/\Bl w' base b (l++s)/\BK base b w w':=by
 have hs:(⟨s.toArray⟩:ByteArray).size=s.length:=by simp[ByteArray.size]
 have C:=Any.Builder_WriteString_k Zj3 Zbx base b (Lib.byteCells l) ⟨s.toArray⟩ w h (by rw[Lib.byteCells_length,hs];omega) hb;rw[hs] at C;refine C.mono ?_;rintro e w' ⟨rfl,h1,h2,h3⟩;rw[ZeB,<-Lib.byteCells_append] at h1;exact⟨rfl,.inr h1,h2,h3⟩
theorem Zhk (base b:Nat)(l:Txt)(c:UInt8)(w:World)(h:Bl w base b l)(hl:l.length+1<=1000000000)(hb:base<=w.heap.size) :
  Calls Tryz.prog 16 #[.pointer (some ⟨b,0,none⟩),.int .u8 c.toNat] w fun e w'=>e=.returned .nilIface/\Bl w' base b (l++[c])/\BK base b w w':=by
 refine(Any.Builder_WriteByte_k Zj4 Zbx base b (Lib.byteCells l) c.toNat w h (by rw[Lib.byteCells_length];omega) hb).mono ?_;rintro e w' ⟨rfl,h1,h2,h3⟩;refine⟨rfl,.inr ?_,h2,h3⟩;rw[Lib.byteCells_append];exact h1
theorem ZjA (base b:Nat)(l:Txt)(w:World)(h:Bl w base b l)(hl:l.length+1<=1000000000)(hb:base<=w.heap.size) :
  Calls Tryz.prog 16 #[.pointer (some ⟨b,0,none⟩),.int .u8 10] w fun e w'=>e=.returned .nilIface/\Bl w' base b (l++[10])/\BK base b w w':=Zhk base b l 10 w h hl hb
theorem Zhl (base b:Nat)(l:Txt)(w:World)(h:Bl w base b l)(hb:base<=w.heap.size) :
  Calls Tryz.prog 17 #[.pointer (some ⟨b,0,none⟩)] w fun e w'=>e=.returned (.string ⟨l.toArray⟩)/\Bl w' base b l/\BK base b w w':=by
 refine(Any.Builder_String_any_k Zj5 Zbx base b l w h hb).mono ?_;rintro e w' ⟨rfl,h1,h2,h3⟩;exact⟨rfl,h1,h2,h3⟩
end
section
theorem ZiF (A:Option Addr)(n c:Nat)(d:Int)(w:World) : Calls Tryz.prog 5 #[.pointer none,.slice A n c,.int .i64 d] w (YQ ([],1) w):=by
 have WN:=Hd (ZiB A n c w);go_enter Tryz.func5,Tryz.ntmps5;go_wp2_with (fail);refine WN.out.mono ?_;rintro e w1 ⟨rfl,x1⟩;go_wp2_with (fail);go_ret2;exact⟨rfl,x1⟩
theorem ZiG (i:InstP)(g:Nat)(A:Option Addr)(c:Nat)(rs:List Rec)(d:Int)(w0 w:World)(X:Ext w0 w)(K:KernI w0 g i)(hT:Tab w0)(hS:Ten w0)(H:RecSl w w0.heap.size 51 A c rs)(hl:rs.length<=1000)(hp:∀ r∈rs,r.path.length<=1000) :
  Calls Tryz.prog 5 #[.pointer (some ⟨g,0,none⟩),.slice A rs.length c,.int .i64 d] w (YQ (UV i rs d) w0):=by
 have WA:=Hd (ZiC i g A c rs w0 w X K hT H hl hp);have RE:=Hd (fun(W:World) (x:Ext w0 W) (l:Wd) (h:l.length<=1000)=>Zcz i g l W (K.ext x) (hT.ext x) h);have LN:=Hd (fun(W:World) (x:Ext w0 W) (n:Int) (P:Option Addr) (c:Nat) (p:List Int) (hP:RdI W P p) (ip:Ints p) (lp:p.length<=1000)=>ZfS i g n P c p W (K.ext x) (hT.ext x) (hS.ext x) hP ip lp);have OKS:=Hd (fun(h:(Yi (Zo i) (ZB i) rs).2=0)=>Zey h);have OKL:=Hd (fun(l:Wd) (a:List Rec) (h:YF (Zo i) (ZB i) l=some a)=>(Zbw K.1 h).1);have LO:=Hd (fun(p:List Int) (n:Int) (h:okW i p) (h1:1<=n) (h3:n<=3)=>Zgl K.1 h h1 h3);have OI:Hid (∀ p,okW i p->Ints p/\p.length<=1000):=Hd fun p h=>⟨Zbv h,by have:=(XT K.1).len p h.1;have:=Wo K.1;omega⟩
 clear X K hT hS H hp;rcases ZcC (Zo i) (ZB i) rs with h0 | h0
 ·obtain⟨rd,ll⟩:=OKS.out h0
  by_cases hd:d<0
  ·rw[ZcF h0 hd]
   unfold YQ at WA ⊢;rw[h0] at WA;clear LN OKL LO OI h0 rd ll OKS RE;go_enter Tryz.func5,Tryz.ntmps5;go_wp2_with (fail);refine WA.out.mono ?_;rintro e w1 ⟨rfl,x1⟩;go_wp2_with (fail);go_ret2;exact⟨rfl,x1.tr XI⟩
  ·rw[ZcG h0 hd]
   have AL:=Hd (OKL.out _ _ rd);have LS:=Hd (XC rs);have RD:Hid (∀ W:World,Ext w0 W->Calls Tryz.prog 13 #[.pointer (some ⟨g,0,none⟩),.string ⟨(Yi (Zo i) (ZB i) rs).1.toArray⟩] W (Zcy (some (ZC rs)) W)):=Hd fun W x=>by
    have h:=RE.out W x (Yi (Zo i) (ZB i) rs).1 (by omega);rw[rd] at h;exact h
   unfold YQ at WA ⊢;rw[h0] at WA;generalize (Yi (Zo i) (ZB i) rs).1=L at *;generalize ZC rs=S at *;generalize rs.length=n at *;have FL:Hid (∀ r∈S,(YV i r.kind r.path).2=0/\(YV i r.kind r.path).1.length<=200):=Hd fun r hr=>by
    obtain⟨h1,h2,h3⟩:=AL.out r hr;exact LO.out _ _ h1 h2 h3
   have PI:Hid (∀ r∈S,Ints r.path/\r.path.length<=1000):=Hd fun r hr=>OI.out _ (AL.out r hr).1
   clear OKL LO OI h0 rd ll OKS RE AL;unfold txS at LN;generalize hf:(fun r:Rec=>(YV i r.kind r.path).1)=f at *;have hF:Hid (∀ r,(YV i r.kind r.path).1=f r):=Hd fun r=>by rw[<-hf]
   have sn:S.length=n:=LS.out;have hn:n<=1000:=hl;clear hf LS;replace sn:=Hd sn;go_enter Tryz.func5,Tryz.ntmps5;go_wp2_with (fail);refine WA.out.mono ?_;rintro e w1 ⟨rfl,x1⟩;have X1:=Hd x1;clear x1 WA;go_wp2_with (fail);refine(RD.out _ (X1.out.tr XI)).mono ?_;rintro e w2 ⟨M,mc,rfl,r2,x2⟩;have X2:=Hd (X1.out.tr (Ext.tr XI x2));rw[sn.out];have R2:Hid (∃ vs,RdV w2 51 M vs/\RecsO w2 w1.heap.size vs S):=by
    obtain⟨vs,h1,h2⟩:=r2;exact Hd ⟨vs,h1.read,h2.more (by simp)⟩
   clear r2 x2 X1 RD;have BN:=Hd (Bl.new w2);have F0:Hid (([]:Txt)=Yr f d (S.take 0)):=Hd (by simp[Yr]);rw[F0.out] at BN;go_wp2_with (fail);go_loopw [40] (fun u wr=>∃ k:Nat,u=.int .i64 k/\k<=n/\Hid (Bl wr w2.heap.size w2.heap.size (Yr f d (S.take k)))/\Hid (Ext w2 wr)) (fun u _=>n-(intOf u).toNat)
   case atStart=>exact⟨0,rfl,by omega,BN,Hd XI⟩
   case round =>
    obtain⟨k,rfl,hk,HB,Y⟩:=hrel
    by_cases hlt:k<n
    ·obtain⟨vs,d1,d2⟩:=R2.out
     obtain⟨b,off,r,A2,c2,rfl,hb,a0,a1,o2,hr⟩:=(d2.ext Y.out).at (d1.ext Y.out) (by have:=sn.out;omega:k<S.length);have hrm:=List.mem_of_getElem? hr.out;have zy:=Y.out.size
     by_cases hdp:(r.path.length:Int)<=d
     ·have e1:¬(r.path.length:Int)>d:=by omega
      have HN:=Hd (ZcD (f:=f) hr.out hdp);obtain⟨fl0,fl1⟩:=FL.out r hrm;have LR:=Hd (fun(W:World) (x:Ext w2 W) (x':Ext wr W)=>LN.out W (X2.out.tr x) r.kind A2 c2 r.path (o2.read.ext x') (PI.out r hrm).1 (PI.out r hrm).2);have e5:(YV i r.kind r.path).1=f r:=hF.out r;rw[fl0,e5] at LR;rw[e5] at fl1;have LL:=QH (f:=f) (d:=d) (l:=S.take k) fun q hq=>by
       have:=(FL.out q (List.mem_of_mem_take hq)).2;rw[hF.out q] at this;exact this
      rw[List.length_take] at LL;have l9:(Yr f d (S.take k)).length<=1000000:=by
       have:=Nat.min_le_left k S.length;have:201*min k S.length<=201*1000:=Nat.mul_le_mul_left _ (by omega);omega
      generalize Yr f d (S.take k)=acc at *;generalize f r=tx at *;clear d1 d2 o2 fl0 e5 LL hrm;replace hr:=Hd hr;go_wp2_with (fail);refine(LR.out _ (Y.out.tr XI) XI).mono ?_;rintro e w5 ⟨rfl,x5⟩;have y5:=Hd (Ext.tr (a:=wr) XI x5);have z5:=y5.out.size;clear x5 LR a0 a1;go_wp2_with (fail);refine(ZiE w2.heap.size w2.heap.size acc tx w5 (HB.out.ext y5.out) (by omega) (by omega)).mono ?_;rintro e w6 ⟨rfl,h6,k6⟩;have z6:=k6.below.size;have E6:=Hd ((Y.out.tr y5.out).bk k6 (Nat.le_refl _));go_wp2_with (fail);refine(ZjA w2.heap.size w2.heap.size (acc++tx) w6 h6 (by rw[List.length_append];omega) (by omega)).mono ?_;rintro e w7 ⟨rfl,h7,k7⟩;have E7:=Hd (E6.out.bk k7 (Nat.le_refl _));rw[<-HN.out] at h7;replace h7:=Hd h7;clear h6 k6 k7 E6;go_wp2_with (fail);go_roundw
      case rel=>exact⟨k+1,by go_num,by omega,h7,E7⟩
      case measure=>simp[intOf];omega
     ·have e1:(r.path.length:Int)>d:=by omega
      have HN:=Hd (Zbu (f:=f) hr.out hdp);clear d1 d2 o2 hrm;replace hr:=Hd hr;go_wp2_with (fail);go_roundw
      case rel=>exact⟨k+1,by go_num,by omega,by rw[HN.out];exact Hd (HB.out.ext XI),Hd (Y.out.tr XI)⟩
      case measure=>simp[intOf];omega
    ·obtain rfl:k=n:=by omega
     have ht:S.take k=S:=by rw[<-sn.out];exact List.take_length
     rw[ht] at HB;have zy:=Y.out.size;clear ht;obtain⟨P,hP⟩:∃ P,Yr f d S=P:=⟨_,rfl⟩;rw[hP] at HB;replace hP:=Hd hP;go_wp2_with (fail);refine(Zhl w2.heap.size w2.heap.size P _ HB.out (by omega)).mono ?_;rintro e w6 ⟨rfl,h6,k6⟩;have E6:=Hd (X2.out.tr (Y.out.bk k6 (Nat.le_refl _)));clear h6 k6;go_wp2_with (fail);go_ret2;exact⟨by rw[hP.out];rfl,E6.out⟩
 ·rw[ZcE h0]
  unfold YQ at WA ⊢;rw[h0] at WA;clear LN OKL LO OI h0 OKS RE;go_enter Tryz.func5,Tryz.ntmps5;go_wp2_with (fail);refine WA.out.mono ?_;rintro e w1 ⟨rfl,x1⟩;go_wp2_with (go_quiet (fail));go_ret2;exact⟨rfl,x1.tr XI⟩
theorem ZiH (l:List Int)(x y:Nat) : Zbz (ltK l) x y=(decide (l.getD x 0<l.getD y 0) || (decide (l.getD x 0=l.getD y 0)&&decide (x<y))):=by
 unfold Zbz ltK;rw[Bool.eq_iff_iff];simp only[Bool.or_eq_true,Bool.and_eq_true,Bool.not_eq_true',decide_eq_true_eq,decide_eq_false_iff_not];omega
def ahK (l:List Int)(j x:Nat) : Nat:=Zy (ltK l) (List.range j) x
theorem ZiI (l:List Int)(j x:Nat) : ahK l (j+1) x=ahK l j x+if (decide (l.getD j 0<l.getD x 0) || (decide (l.getD j 0=l.getD x 0)&&decide (j<x)))=true then 1 else 0:=by
 unfold ahK;rw[List.range_succ,UI,ZiH]
def plK (l:List Int)(k:Nat) : List Int:=Yp (ahK l l.length) (List.range l.length) k
theorem ZiJ (l:List Int)(k:Nat)(h:k<l.length) : plK l (k+1)=(plK l k).set (ahK l l.length k) (k:Int):=by
 have e:(List.range l.length).getD k 0=k:=by simp[List.getD,h]
 show (Yp (ahK l l.length) (List.range l.length) k).set (ahK l l.length ((List.range l.length).getD k 0)) (((List.range l.length).getD k 0:Nat):Int)=_;rw[e]
 rfl
theorem ZjB (l:List Int)(k:Nat) : (plK l k).length=l.length:=by unfold plK;rw[Y1,List.length_range]
theorem ZiK (l:List Int) : plK l l.length=Zf (Qb l):=by
 have h:=Qm (UU l) (List.pairwise_lt_range (n:=l.length));rw[List.length_range] at h;exact h
theorem Zj6 (l:List Int){k:Nat}(h:k<l.length) : ahK l l.length k<l.length:=by
 have W:=UU l;have hs:=List.pairwise_lt_range (n:=l.length);obtain⟨k',hk',e'⟩:=List.mem_iff_getElem.1 ((Xa W hs).mem.2 (List.mem_range.2 h));unfold ahK;rw[VQ W hs (by rw[List.getElem?_eq_getElem hk',e'])]
 rwa [Yz,List.length_range] at hk'
theorem Zj7 (l:List Int)(j x:Nat) : ahK l j x<=j:=by
 have:=Js (ltK l) (List.range j) x
 rwa [List.length_range] at this
def ZiL (l:List Int)(w:World)(e:Ending)(w':World) : Prop:=∃ (A:Option Addr) (c:Nat),e=.returned (.slice A l.length c)/\OwI w' w.heap.size A c l/\Ext w w'
theorem Zhm (A1:Option Addr)(c1:Nat)(l:List Int)(w:World)(hA:RdI w A1 l)(hl:l.length<=1000) :
  Calls Tryz.prog 53 #[.slice A1 l.length c1] w (ZiL (Zf (Qb l)) w):=by
 unfold ZiL;rw[Zh,U6];have PS:=Hd (fun k=>ZiJ l k);have PL:=Hd (fun k=>ZjB l k);have PF:=Hd (ZiK l);have AS:=Hd (fun j x=>ZiI l j x);have AL:=Hd (fun k=>Zj6 l (k:=k));have AE:=Hd (fun j x=>Zj7 l j x);have P0:Hid (plK l 0=List.replicate l.length 0):=Hd (by
  show List.replicate (List.range l.length).length (0:Int)=_;rw[List.length_range])
 replace hA:=Hd hA;go_enter Tryz.func53,Tryz.ntmps53;go_wp2_with (at_make;refine W7 _ rfl _ _ rfl w.heap.size _ _ l.length rfl rfl rfl rfl (by omega) (Nat.le_refl _) ?_;rintro w3 o3 g3);have x3:Ext w w3:=(Ext.rf _).grownNone g3;rw[<-P0.out] at o3;have S3:Hid (OwI w3 w.heap.size (some ⟨w.heap.size,0,none⟩) l.length (plK l 0)/\Ext w w3):=⟨o3,x3⟩;clear o3 g3 x3;go_wp2_with (fail);go_loopw [4] (fun v wr=>∃ k:Nat,v=.int .i64 k/\k<=l.length/\Hid (OwI wr w.heap.size (some ⟨w.heap.size,0,none⟩) l.length (plK l k)/\Ext w wr)) (fun v _=>l.length-(intOf v).toNat)
 case atStart=>exact⟨0,rfl,by omega,S3⟩
 case round =>
  obtain⟨wo,rfl⟩:=Wq wr;obtain⟨k,rfl,hk,HS⟩:=hrel;clear S3
  by_cases hlt:k<l.length
  ·have q2:(k:Int)<(l.length:Int):=by omega
   have HPK:=Hd (PS.out k hlt);have hal:=AL.out k hlt;obtain⟨O,Y⟩:=HS.out;clear HS;replace O:=Hd O;replace Y:=Hd Y;have A0:Hid (ahK l 0 k=0):=rfl;go_wp2_with (fail);go_loopw [6,5] (fun v nv wr=>∃ j ah:Nat,v=.int .i64 j/\nv=.int .i64 ah/\j<=l.length/\Hid (ahK l j k=ah)/\Hid (Ext wo wr)) (fun v _ _=>l.length-(intOf v).toNat)
   case atStart=>exact⟨0,0,rfl,rfl,by omega,A0,Ext.rf _⟩
   case round =>
    obtain⟨wi,rfl⟩:=Wq wr;clear A0;obtain⟨j,ah,rfl,rfl,hj,HA,YI⟩:=hrel;have hale:=AE.out j k;rw[HA.out] at hale;have rl:RdI wi A1 l:=(hA.out.ext Y.out).ext YI.out;obtain⟨lb,lo,yk,rfl,_,ck,exk,_⟩:=rl.at (k:=k) hlt
    by_cases hjl:j<l.length
    ·have q3:(j:Int)<(l.length:Int):=by omega
     obtain⟨lb2,lo2,yj,hq,_,cj,exj,_⟩:=rl.at (k:=j) hjl;obtain⟨rfl,rfl⟩:lb=lb2/\lo=lo2:=by simpa using hq
     have HA2:Hid (ahK l (j+1) k=ah+if (decide (yj<yk) || (decide (yj=yk)&&decide (j<k)))=true then 1 else 0):=by
      have h:=AS.out j k;rw[HA.out,getD_some exk.out,getD_some exj.out] at h;exact h
     clear HA exk exj hq rl
     by_cases t1:yj<yk
     ·have d1:decide (yj<yk)=true:=decide_eq_true t1
      have HA3:Hid (ahK l (j+1) k=ah+1):=by
       have h:=HA2.out;rw[d1,Bool.true_or,if_pos rfl] at h;exact h
      clear HA2;go_wp2_with (fail);go_quiet (fail);go_wp2_with (fail);go_roundw
      case rel=>exact⟨j+1,ah+1,by go_num,by go_num,by omega,HA3,YI.out.drewN _⟩
      case measure=>simp[intOf];omega
     ·have d1:decide (yj<yk)=false:=decide_eq_false t1
      by_cases t2:yj=yk
      ·have d2:(yj==yk)=true:=by rw[beq_iff_eq];exact t2
       have d2':decide (yj=yk)=true:=decide_eq_true t2;replace t2:=Hd t2
       by_cases t3:j<k
       ·have d3:decide (j<k)=true:=decide_eq_true t3
        have HA3:Hid (ahK l (j+1) k=ah+1):=by
         have h:=HA2.out;rw[d1,d2',d3] at h;exact h
        clear HA2 d2';go_wp2_with (fail);go_quiet (fail);go_wp2_with (fail);go_roundw
        case rel=>exact⟨j+1,ah+1,by go_num,by go_num,by omega,HA3,YI.out.drewN _⟩
        case measure=>simp[intOf];omega
       ·have d3:decide (j<k)=false:=decide_eq_false t3
        have HA3:Hid (ahK l (j+1) k=ah):=by
         have h:=HA2.out;rw[d1,d2',d3] at h;exact h
        clear HA2 d2';go_wp2_with (fail);go_quiet (fail);go_wp2_with (fail);go_roundw
        case rel=>exact⟨j+1,ah,by go_num,rfl,by omega,HA3,YI.out.drewN _⟩
        case measure=>simp[intOf];omega
      ·have d2:(yj==yk)=false:=by rw[beq_eq_false_iff_ne];exact t2
       have d2':decide (yj=yk)=false:=decide_eq_false t2;have HA3:Hid (ahK l (j+1) k=ah):=by
        have h:=HA2.out;rw[d1,d2'] at h;exact h
       clear HA2 d2';go_wp2_with (fail);go_quiet (fail);go_wp2_with (fail);go_roundw
       case rel=>exact⟨j+1,ah,by go_num,rfl,by omega,HA3,YI.out.drewN _⟩
       case measure=>simp[intOf];omega
    ·obtain rfl:j=l.length:=by omega
     have q3:¬(l.length:Int)<(l.length:Int):=by omega
     rw[HA.out] at hal HPK;obtain⟨v9,c9,f9,_,_,s9⟩:=OwI.cell (OwI.ext O.out YI.out) (k:=ah) (by rw[PL.out];exact hal);have q4:(ah:Int)<(l.length:Int):=by omega
     have NX:Hid (∀ W2,Ext wi W2->OwI (W2.setCell ⟨w.heap.size,ah,none⟩ (.int .i64 k)) w.heap.size (some ⟨w.heap.size,0,none⟩) l.length (plK l (k+1))/\Ext w (W2.setCell ⟨w.heap.size,ah,none⟩ (.int .i64 k))):=by
      intro W2 x2;rw[HPK.out];obtain⟨_,_,_,_,_,s8⟩:=OwI.cell (OwI.ext (OwI.ext O.out YI.out) x2) (k:=ah) (by rw[PL.out];exact hal);exact⟨s8.out _,((Y.out.tr YI.out).tr x2).setNew (p:=⟨w.heap.size,ah,none⟩) (Nat.le_refl _) _⟩
     clear s9 HPK rl HA exk;go_wp2_with (first | go_quiet (fail) | go_region);go_roundw
     case rel=>exact⟨k+1,by go_num,by omega,NX.out _ XI⟩
     case measure=>simp[intOf];omega
  ·obtain rfl:k=l.length:=by omega
   have q2:¬(l.length:Int)<(l.length:Int):=by omega
   obtain⟨O,Y⟩:=HS.out;rw[PF.out] at O;replace O:=Hd O;replace Y:=Hd Y;clear HS;go_wp2_with (fail);go_ret;exact⟨_,_,rfl,O.out,Y.out⟩
theorem ZfT (P:Option Addr)(pc:Nat)(l:List Int)(w:World)(hP:RdI w P l)(hl:l.length<=1000) :
  Calls Tryz.prog 25 #[.slice P l.length pc] w (ZiL (Wn l) w):=by
 have BK:=fun(W:World) (x:Ext w W)=>Zhm P pc l W (hP.ext x) hl
 unfold ZiL at BK ⊢;rw[Zh,U6] at BK;have bl1:=U6 l;have BL:Hid (∀ k a,(Qb l)[k]?=some a->a<l.length):=fun k a h=>Ziu h
 have RL:=QF l;have RE:Wn l=(Qb l).map fun a=>l.getD a 0:=rfl
 obtain⟨R,hR⟩:∃ R,Hid (Wn l=R):=⟨_,rfl⟩;rw[hR.out] at RE RL ⊢;replace RE:=Hd RE;rw[RL];replace BK:=Hd BK;generalize Qb l=o at *;replace hP:=Hd hP;replace RL:=Hd RL;replace bl1:=Hd bl1;clear hR;go_enter Tryz.func25,Tryz.ntmps25;go_wp2_with (fail);refine(BK.out _ XI).mono ?_;rintro e w1 ⟨A1,c1,rfl,o1,x1⟩;have X1:=Hd (Ext.tr (a:=w) XI x1);have r1:=Hd o1.read;have z1:=X1.out.size;clear x1 o1 BK;have S0:Hid (OwI (w1.alloc (.cells #[] 3)) w1.heap.size (some ⟨w1.heap.size,0,none⟩) 0 []):=OwI.empty (.new rfl) (Nat.le_refl _);go_wp2_with (fail);go_loopw [4,5] (fun v4 v wr=>∃ (k:Nat) (B:Option Addr) (bc:Nat) (xs:List Int),v=.int .i64 k/\v4=.slice B xs.length bc/\k<=l.length/\Hid (xs=(o.take k).map fun a=>l.getD a 0)/\Hid (OwI wr w1.heap.size B bc xs)/\Hid (Ext w1 wr)) (fun _ v _=>l.length-(intOf v).toNat)
 case atStart=>exact⟨0,_,0,[],rfl,rfl,by omega,rfl,S0.out.ext XI,XI⟩
 case round =>
  obtain⟨wo,rfl⟩:=Wq wr;clear S0;obtain⟨k,B,bc,xs,rfl,rfl,hk,hx,oB,Y⟩:=hrel;have lk:xs.length<=l.length:=by rw[hx.out,List.length_map,List.length_take,bl1.out];omega
  by_cases hlt:k<l.length
  ·obtain⟨a,ha⟩:∃ a,Hid (o[k]?=some a):=⟨o[k]'(by rw[bl1.out];exact hlt),List.getElem?_eq_getElem _⟩
   have hal:=BL.out k a ha.out;obtain⟨ob,oo,av,rfl,zo,co,eo,_⟩:=(r1.out.ext Y.out).at (k:=k) (by rw[Zh,bl1.out];exact hlt);obtain rfl:av=(a:Int):=by
    have h:=eo.out;rw[Z7 ha.out] at h;exact(Option.some.inj h).symm
   obtain⟨lb,lo,x,rfl,zl,cl,el,_⟩:=((hP.out.ext X1.out).ext Y.out).at (k:=a) hal;have q1:(k:Int)<(l.length:Int):=by omega
   have q2:(a:Int)<(l.length:Int):=by omega
   have NX:Hid (xs++[x]=(o.take (k+1)).map fun a=>l.getD a 0):=Hd (by
    rw[List.take_add_one,ha.out,List.map_append,hx.out];simp[List.getD,el.out])
   clear eo el hx;go_wp2_with (at_builtin;(refine Yx _ rfl _ _ rfl w1.heap.size B xs.length bc xs [x] (some ⟨wo.heap.size,0,none⟩) 1 rfl rfl rfl ?_ ?_ ?_ ?_ ?_;(exact oB.out.ext ((Ext.rf _).alloc _));(exact .blk (.new (by simp)) rfl);(simp;omega);(have:=Y.out.size;simp;omega);rintro A7 c7 w7 o7 g7 _;have Y7:Ext w1 w7:=Ext.grow (a:=w1) (Y.out.alloc _) g7 (fun kk hkk=>(oB.out.lt kk hkk).1)));have O7:Hid (OwI w7 w1.heap.size A7 c7 (xs++[x])):=o7;replace Y7:=Hd Y7;clear o7 g7;go_wp2_with (fail);go_roundw
   case rel=>exact⟨k+1,A7,c7,xs++[x],by go_num,by first | rfl | simp,by omega,NX,OwI.ext O7.out XI,Ext.tr Y7.out XI⟩
   case measure=>simp[intOf];omega
  ·obtain rfl:k=l.length:=by omega
   have E:Hid (xs=R):=by
    have h:=hx.out;rw[<-bl1.out,List.take_length,<-RE.out] at h;exact h
   have E2:Hid (OwI wo w.heap.size B bc R):=by
    have h:=oB.out;rw[E.out] at h;exact h.more z1
   have E3:Hid (Value.slice B xs.length bc=.slice B l.length bc):=Hd (by rw[E.out,RL.out]);rw[E3.out];go_wp2_with (fail);go_ret;exact⟨B,bc,rfl,E2.out.ext XI,(X1.out.tr Y.out).tr XI⟩
end
end Go.Proofs.YtnbcmiaaleambaaGreatDoor
