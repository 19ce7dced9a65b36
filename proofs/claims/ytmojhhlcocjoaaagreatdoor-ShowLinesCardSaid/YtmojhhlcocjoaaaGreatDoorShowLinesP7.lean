/- packed and squeezed by programs (see wip/) -/
import Derived.Test.YtmojhhlcocjoaaaGreatDoorShowLinesP6
import Derived.Shelf.Lays
import Derived.Shelf.Strings.OnBuilder
import Derived.Shelf.Strings.Repeat
import Derived.Shelf.Strings.BuilderK
import Derived.LaidMore
import Derived.Lay
import Derived.SevenTiedAt
import Derived.Stop.Joined
import Derived.Stop.LaidErr
import Derived.Lib.LaidTab
import Derived.Test.YtmojhhlcocjoaaaGreatDoorRows
set_option maxRecDepth 100000
set_option maxHeartbeats 16000000
set_option linter.unusedVariables false
set_option linter.unusedSimpArgs false
namespace Go.Proofs.YtmojhhlcocjoaaaGreatDoor
open Go.RowKit Go.ChangeShapes Go.WideShapes Go.ChangeAt Go.Deep
theorem ZaO (A B:Option Addr)(c d:Nat)(vs ws:List Int)(a b:Nat)(w:World)(hv:RdI w A vs)(hw:RdI w B ws)(sv:Small31 vs)(sw:Small31 ws)(ha:a<vs.length)(hb:b<vs.length)(ha':a<ws.length)(hb':b<ws.length)(lv:vs.length<=1000000)(lw:ws.length<=1000000) :
  Calls Tryz.prog 195 #[.slice A vs.length c,.slice B ws.length d,.int .i64 a,.int .i64 b] w fun e w'=>e=.returned (.bool (YX vs ws a b))/\Ext w w':=by
 obtain⟨g1,o1,va,rfl,z1,c1,e1,_⟩:=hv.at ha;obtain⟨g1',o1',vb,h1',z1',c2,e2,_⟩:=hv.at hb;obtain⟨rfl,rfl⟩:g1=g1'/\o1=o1':=by injection h1' with h;injection h with h3 h4;exact⟨h3,h4⟩
 obtain⟨g2,o2,wa,rfl,z2,c3,e3,_⟩:=hw.at ha';obtain⟨g2',o2',wb,h2',z2',c4,e4,_⟩:=hw.at hb';obtain⟨rfl,rfl⟩:g2=g2'/\o2=o2':=by injection h2' with h;injection h with h3 h4;exact⟨h3,h4⟩
 have bva:=sv.get e1.out;have bvb:=sv.get e2.out;have bwa:=sw.get e3.out;have bwb:=sw.get e4.out;obtain⟨res,hres⟩:∃ res,Hid (res=YX vs ws a b):=⟨_,rfl⟩;rw[<-hres.out];have HA:Hid (res=if wa=0\/wb=0 then decide (wa=0)&&(decide (wb≠0) || decide (a<b)) else decide (vb*wa<va*wb) || (decide (va*wb=vb*wa)&&decide (a<b))):=Hd (by
  rw[hres.out];unfold YX;rw[getD_some e1.out,getD_some e2.out,getD_some e3.out,getD_some e4.out])
 clear h1' h2' hv hw sv sw e1 e2 e3 e4 hres
 by_cases hwa:wa=0
 ·subst hwa
  by_cases hwb:wb=0
  ·subst hwb
   have HR:Hid (res=decide (a<b)):=by
    have h:=HA.out;rw[if_pos (by simp)] at h;exact(by simpa using h:res=decide (a<b))
   clear HA;go_enter Tryz.func195,Tryz.ntmps195;go_wp2
   all_goals go_ret
   all_goals exact⟨Xz HR.out.symm,Ext.rf _⟩
  ·have hwb':(wb != 0)=true:=by simpa using hwb
   have HR:Hid (res=true):=by
    have h:=HA.out;rw[if_pos (by simp)] at h;exact(by simpa [hwb] using h:res=true)
   clear HA hwb;go_enter Tryz.func195,Tryz.ntmps195;go_wp2
   all_goals go_ret
   all_goals exact⟨Xz HR.out.symm,Ext.rf _⟩
 ·have hwa':(wa==0)=false:=by simpa using hwa
  by_cases hwb:wb=0
  ·subst hwb
   have HR:Hid (res=false):=by
    have h:=HA.out;rw[if_pos (by simp)] at h;exact(by simpa [hwa] using h:res=false)
   clear HA hwa;go_enter Tryz.func195,Tryz.ntmps195;go_wp2
   all_goals go_ret
   all_goals exact⟨Xz HR.out.symm,Ext.rf _⟩
  ·have hwb':(wb==0)=false:=by simpa using hwb
   have HR0:Hid (res=(decide (vb*wa<va*wb) || (decide (va*wb=vb*wa)&&decide (a<b)))):=by
    have h:=HA.out;rw[if_neg (by simp[hwa,hwb])] at h;exact h
   obtain⟨p,hp⟩:∃ p,Hid (p=va*wb):=⟨_,rfl⟩;obtain⟨q,hq⟩:∃ q,Hid (q=vb*wa):=⟨_,rfl⟩;have bp:0<=p/\p<=4611686014132420609:=by rw[hp.out];exact Wl bva.1 bva.2 bwb.1 bwb.2
   have bq:0<=q/\q<=4611686014132420609:=by rw[hq.out];exact Wl bvb.1 bvb.2 bwa.1 bwa.2
   rw[<-hp.out,<-hq.out] at HR0;have hR:res=(decide (0<Ui p q) || ((Ui p q==0)&&decide (a<b))):=by
    have h:=HR0.out;unfold Ui
    by_cases h1:p=q
    ·have h2:¬q<p:=by omega
     simp[h1,h]
    ·by_cases h2:p<q
     ·have h3:¬q<p:=by omega
      simp[h1,h2,h3,h]
     ·have h3:q<p:=by omega
      simp[h1,h2,h3,h]
   have HR:=Hd hR;clear hR;have CM:=Hd (fun W=>ZcT p q W bp bq);have bc:-1<=Ui p q/\Ui p q<=1:=by unfold Ui;split<;>(try split)<;>omega
   have M1:=Hd (fun W=>Za9 va wb p W bva bwb hp.out);have M2:=Hd (fun W=>Za9 vb wa q W bvb bwa hq.out);generalize Ui p q=cc at *;clear HA hwa hwb HR0 bp bq;go_enter Tryz.func195,Tryz.ntmps195;go_wp2_with (fail);go_region_held3 (fun w'=>w'.cell? ⟨g1,o1+a,none⟩=some (.int .i64 va)/\w'.cell? ⟨g1,o1+b,none⟩=some (.int .i64 vb)/\w'.cell? ⟨g2,o2+a,none⟩=some (.int .i64 wa)/\w'.cell? ⟨g2,o2+b,none⟩=some (.int .i64 wb)) (go_keep)
    (first
    | (go_at_call_of 209 (Value.int .i64 va);refine(UK va _ bva.1 bva.2).mono ?_;rintro e w2 ⟨rfl,x2⟩;have y:=Ext.tr (a:=w) (by(repeat (first | assumption | exact Ext.rf _ | apply Ext.drew | apply Ext.drewN | apply Ext.alloc))) x2;have s1:=Ze y z1 c1;have s2:=Ze y z1 c2;have s3:=Ze y z2 c3;have s4:=Ze y z2 c4)
    | (go_at_call_of 209 (Value.int .i64 wb);refine(UK wb _ bwb.1 bwb.2).mono ?_;rintro e w3 ⟨rfl,x3⟩;have y:=Ext.tr (a:=w) (by(repeat (first | assumption | exact Ext.rf _ | apply Ext.drew | apply Ext.drewN | apply Ext.alloc))) x3;have s1:=Ze y z1 c1;have s2:=Ze y z1 c2;have s3:=Ze y z2 c3;have s4:=Ze y z2 c4)
    | (go_at_call_of 209 (Value.int .i64 vb);refine(UK vb _ bvb.1 bvb.2).mono ?_;rintro e w4 ⟨rfl,x4⟩;have y:=Ext.tr (a:=w) (by(repeat (first | assumption | exact Ext.rf _ | apply Ext.drew | apply Ext.drewN | apply Ext.alloc))) x4;have s1:=Ze y z1 c1;have s2:=Ze y z1 c2;have s3:=Ze y z2 c3;have s4:=Ze y z2 c4)
    | (go_at_call_of 209 (Value.int .i64 wa);refine(UK wa _ bwa.1 bwa.2).mono ?_;rintro e w5 ⟨rfl,x5⟩;have y:=Ext.tr (a:=w) (by(repeat (first | assumption | exact Ext.rf _ | apply Ext.drew | apply Ext.drewN | apply Ext.alloc))) x5;have s1:=Ze y z1 c1;have s2:=Ze y z1 c2;have s3:=Ze y z2 c3;have s4:=Ze y z2 c4)
    | (go_at_call_of 208 (ZU false va 0);refine(M1.out _).mono ?_;rintro e w6 ⟨rfl,x6⟩;have y:=Ext.tr (a:=w) (by(repeat (first | assumption | exact Ext.rf _ | apply Ext.drew | apply Ext.drewN | apply Ext.alloc))) x6;have s1:=Ze y z1 c1;have s2:=Ze y z1 c2;have s3:=Ze y z2 c3;have s4:=Ze y z2 c4)
    | (go_at_call_of 208 (ZU false vb 0);refine(M2.out _).mono ?_;rintro e w7 ⟨rfl,x7⟩;have y:=Ext.tr (a:=w) (by(repeat (first | assumption | exact Ext.rf _ | apply Ext.drew | apply Ext.drewN | apply Ext.alloc))) x7;have s1:=Ze y z1 c1;have s2:=Ze y z1 c2;have s3:=Ze y z2 c3;have s4:=Ze y z2 c4)
    | (go_at_call 207;refine(CM.out _).mono ?_;rintro e w8 ⟨rfl,x8⟩;have y:=Ext.tr (a:=w) (by(repeat (first | assumption | exact Ext.rf _ | apply Ext.drew | apply Ext.drewN | apply Ext.alloc))) x8;have s1:=Ze y z1 c1;have s2:=Ze y z1 c2;have s3:=Ze y z2 c3;have s4:=Ze y z2 c4))
   obtain rfl | rfl | rfl:cc=-1\/cc=0\/cc=1:=by omega
   ·have HF:Hid (res=false):=HR.out
    go_wp2
    all_goals go_ret
    all_goals exact⟨Xz HF.out.symm,by(repeat (first | assumption | exact Ext.rf _ | apply Ext.drew | apply Ext.drewN | apply Ext.alloc))⟩
   ·have HF:Hid (res=decide (a<b)):=HR.out
    go_wp2
    all_goals go_ret
    all_goals exact⟨Xz HF.out.symm,by(repeat (first | assumption | exact Ext.rf _ | apply Ext.drew | apply Ext.drewN | apply Ext.alloc))⟩
   ·have HF:Hid (res=true):=HR.out
    go_wp2
    all_goals go_ret
    all_goals exact⟨Xz HF.out.symm,by(repeat (first | assumption | exact Ext.rf _ | apply Ext.drew | apply Ext.drewN | apply Ext.alloc))⟩
def Qs (l:List Nat)(w:World)(e:Ending)(w':World) : Prop:=∃ A c,e=.returned (.tuple #[.slice A l.length c,.int .i64 0])/\OwI w' w.heap.size A c (nl l)/\Ext w w'
theorem ZaP (A B:Option Addr)(a b:Nat)(vs ws:List Int)(w:World)(hA:RdI w A vs)(hB:RdI w B ws)(hl:vs.length=ws.length)(h64:vs.length<=64)(sv:Small31 vs)(sw:Small31 ws) :
  Calls Tryz.prog 175 #[.slice A vs.length a,.slice B ws.length b] w (Qs (ZB vs ws) w):=by
 have hne:((vs.length:Int) != (ws.length:Int))=false:=by simp[hl]
 have h64':(vs.length:Int)<=64:=by omega
 have BT:=fun(i j:Nat) (hi:i<vs.length) (hj:j<vs.length) (W:World) (x:Ext w W)=>ZaO A B a b vs ws i j W (hA.ext x) (hB.ext x) sv sw hi hj (by omega) (by omega) (by omega) (by omega)
 have PR:=Jl (v:=vs) (w:=ws) (fun x hx=>(sw x hx).1);have RL:=Yy vs ws;have AL:=fun i m=>Zbb vs ws i m
 have PA:Hid (∀ i,i<vs.length->ZZ vs ws i vs.length<vs.length):=fun i hi=>by
  have hm:=(Va (v:=vs) (w:=ws) (a:=i)).2 hi;obtain⟨k,hk,he⟩:=List.mem_iff_getElem.1 hm;have:=VY (v:=vs) (w:=ws) (fun x hx=>(sw x hx).1) (k:=k) (a:=i) (by rw[List.getElem?_eq_getElem hk,he]);rw[Yy] at hk;omega
 replace hl:=Hd hl;replace BT:=Hd BT;replace PR:=Hd PR;replace RL:=Hd RL;replace AL:=Hd AL;go_enter Tryz.func175,Tryz.ntmps175;go_wp2_with (fail);go_loopw [6] (fun i wr=>∃ k:Nat,i=.int .i64 k/\k<=vs.length/\Ext w wr) (fun i _=>vs.length-(intOf i).toNat)
 case atStart=>exact⟨0,rfl,by omega,Ext.rf _⟩
 case round =>
  obtain⟨w1,rfl⟩:∃ w1:World,w1=wr:=⟨_,rfl⟩;obtain⟨k,rfl,hk,Y⟩:=hrel
  by_cases hlt:k<vs.length
  ·obtain⟨g1,o1,x,rfl,_,c1,e1,_⟩:=(hA.ext Y).at hlt
   obtain⟨g2,o2,y,rfl,_,c2,e2,_⟩:=(hB.ext Y).at (k:=k) (by rw[<-hl.out];exact hlt);have b1:=sv.get e1.out;have b2:=sw.get e2.out;have hkw:k<ws.length:=by rw[<-hl.out];exact hlt
   clear e1 e2;go_wp2;go_roundw
   case rel=>exact⟨k+1,by go_num,by omega,Y⟩
   case measure=>simp[intOf];omega
  ·obtain rfl:k=vs.length:=by omega
   clear hlt;have Yo:=Hd Y;go_wp2_with (at_make;refine UM _ rfl _ _ rfl w.heap.size _ _ vs.length rfl rfl rfl rfl (by omega) Y.size ?_;rintro w3 o3 g3);have X3:=Hd (Y.grownNone g3);have O3:Hid (OwI w3 w.heap.size (some ⟨w1.heap.size,0,none⟩) vs.length (XJ (fun i=>ZZ vs ws i vs.length) vs.length 0)):=o3;have zr:=Y.size;clear o3 g3;go_loopw [8] (fun i wq=>∃ m:Nat,i=.int .i64 m/\m<=vs.length/\Hid (OwI wq w.heap.size (some ⟨w1.heap.size,0,none⟩) vs.length (XJ (fun i=>ZZ vs ws i vs.length) vs.length m))/\Ext w wq) (fun i _=>vs.length-(intOf i).toNat)
   case atStart=>exact⟨0,rfl,by omega,O3,X3.out⟩
   case round =>
    obtain⟨wo,rfl⟩:∃ wo:World,wo=wr:=⟨_,rfl⟩;obtain⟨m,rfl,hm,HO,Z⟩:=hrel
    by_cases hlm:m<vs.length
    ·go_wp2_with (fail)
     go_loopw [9,10] (fun n i wq=>∃ (j c:Nat),i=.int .i64 j/\n=.int .i64 c/\j<=vs.length/\c<=j/\Hid (c=ZZ vs ws m j)/\Ext wo wq) (fun _ i _=>vs.length-(intOf i).toNat)
     case atStart=>exact⟨0,0,rfl,rfl,by omega,by omega,by exact rfl,Ext.rf _⟩
     case round =>
      obtain⟨j,c,rfl,rfl,hj,hcj,HC,V⟩:=hrel;have HN:Hid (ZZ vs ws m (j+1)=c+if (decide (j≠m)&&YX vs ws j m)=true then 1 else 0):=by
       have h:=Jj vs ws m j;rw[<-HC.out] at h;exact h
      by_cases hlj:j<vs.length
      ·by_cases hjm:j=m
       ·subst hjm
        have HN2:Hid (c=ZZ vs ws j (j+1)):=by
         have h:=HN.out;simp at h;exact h.symm
        go_wp2_with (fail);go_roundw
        case rel=>exact⟨j+1,c,by go_num,rfl,by omega,by omega,HN2,V⟩
        case measure=>simp[intOf];omega
       ·have hb:((j:Int) != (m:Int))=true:=by rw[bne_iff_ne];omega
        have K:=BT.out j m hlj hlm _ (Z.tr V)
        cases hq:YX vs ws j m with
        | true =>
         rw[hq] at K;have HN2:Hid (c+1=ZZ vs ws m (j+1)):=by
          have h:=HN.out;rw[hq] at h;simp[hjm] at h;exact h.symm
         clear hq hjm;go_wp2_with (fail);refine K.mono ?_;rintro e w5 ⟨rfl,x5⟩;go_wp2;go_roundw
         case rel=>exact⟨j+1,c+1,by go_num,by go_num,by omega,by omega,HN2,V.tr x5⟩
         case measure=>simp[intOf];omega
        | false =>
         rw[hq] at K;have HN2:Hid (c=ZZ vs ws m (j+1)):=by
          have h:=HN.out;rw[hq] at h;simp at h;exact h.symm
         clear hq hjm;go_wp2_with (fail);refine K.mono ?_;rintro e w5 ⟨rfl,x5⟩;go_wp2;go_roundw
         case rel=>exact⟨j+1,c,by go_num,rfl,by omega,by omega,HN2,V.tr x5⟩
         case measure=>simp[intOf];omega
      ·obtain rfl:j=vs.length:=by omega
       have hc:c<vs.length:=by rw[HC.out];exact PA.out m hlm
       have HO2:=HO.out.ext V;obtain⟨x,hcx,hfx,hbx,_,hset⟩:=HO2.cell (k:=c) (by rw[Wb];exact hc);have HN2:Hid (OwI (wr.setCell ⟨w1.heap.size,c,none⟩ (.int .i64 m)) w.heap.size (some ⟨w1.heap.size,0,none⟩) vs.length (XJ (fun i=>ZZ vs ws i vs.length) vs.length (m+1))):=by
        have h:=hset.out m;rw[HC.out] at h ⊢;exact h
       have ZN:=Hd ((Z.tr V).setNew (p:=⟨w1.heap.size,c,none⟩) zr (.int .i64 m));clear hset HO2 HN;go_wp2;go_roundw
       case rel=>exact⟨m+1,by go_num,by omega,HN2,ZN.out⟩
       case measure=>simp[intOf];omega
    ·obtain rfl:m=vs.length:=by omega
     have HF:Hid (OwI wo w.heap.size (some ⟨w1.heap.size,0,none⟩) vs.length (nl (ZB vs ws))):=by
      have h:=HO.out;rw[PR.out] at h;exact h
     clear hlm HO;go_wp2;go_ret2;exact⟨_,_,by rw[RL.out];rfl,HF.out,Z⟩
def Yd (i:InstP) : List Nat:=ZB i.value i.weight
def wsP (i:InstP) : List Int:=Zp (Yd i) i.weight
def vsP (i:InstP) : List Int:=Zp (Yd i) i.value
theorem Ws {i:InstP}(ok:KnapOk i) : ((Yd i).length:Int)=i.n:=by unfold Yd;rw[Yy];exact ok.v
theorem YY {l:List Nat}{v:List Int}(h:Small31 v) : Small31 (Zp l v):=by
 intro x hx;obtain⟨q,hq,rfl⟩:=List.mem_map.1 hx
 cases hv:v[q]? with
 | none=>simp[List.getD,hv]
 | some y=>rw[getD_some hv];exact h.get hv
theorem kok {i:InstP}(ok:KnapOk i) : KOk i.cap (Yd i) (wsP i) (vsP i) (Yv (vsP i) 0) :=
 ⟨ok.cap,by have:=Ws ok;have:=ok.n2;omega,Z5 _ _,Z5 _ _,by rw[XQ];unfold vsP;rw[Z5],YY ok.sw,YY ok.sv⟩
def Zds (l:List Nat)(st:Option (Int×Int))(w:World)(e:Ending)(w':World) : Prop:=Ext w w'/\match st with
 | none=>e=.returned (.tuple #[.slice none 0 0,.int .i64 0,.int .i64 0,.bool false])
 | some (r,o)=>∃ A c,e=.returned (.tuple #[.slice A l.length c,.int .i64 r,.int .i64 o,.bool true])/\RdI w' A (nl l)
theorem ZaQ (i:InstP)(us:List Value)(P:Option Addr)(c:Nat)(p:List Int)(w:World)(H:RInst w us i)(ok:KnapOk i)(hP:RdI w P p)(lp:p.length<=1000000000) :
  Calls Tryz.prog 150 #[.agg (List.toArray us),.slice P p.length c] w (Zds (Yd i) (stP i.cap 0 (wsP i) (vsP i) p) w):=by
 have K:=kok ok;have lN:=Ws ok;have RA:=fun(A B:Option Addr) (a b:Nat) (W:World) (hA:RdI W A i.value) (hB:RdI W B i.weight)=>ZaP A B a b i.value i.weight W hA hB (by have:=ok.w;have:=ok.v;omega) (by have:=ok.v;have:=ok.n2;omega) ok.sv ok.sw
 have LM:∀ k q,(Yd i)[k]?=some q->q<i.weight.length/\q<i.value.length:=fun k q h=>by
  have h1:=WZ h;have:=ok.w;have:=ok.v;omega
 have EW:∀ k q x,(Yd i)[k]?=some q->i.weight[q]?=some x->(wsP i)[k]?=some x:=fun k q x h1 h2=>XG h1 h2
 have EV:∀ k q x,(Yd i)[k]?=some q->i.value[q]?=some x->(vsP i)[k]?=some x:=fun k q x h1 h2=>XG h1 h2
 change ∀ (A B:Option Addr) (a b:Nat) (W:World),RdI W A i.value->RdI W B i.weight->Calls Tryz.prog _ _ W (Qs (Yd i) W) at RA
 have K1:=K.cap;have K2:=K.l64;have K3:=K.lw;have K4:=K.lv;have K5:=K.sw;have K6:=K.sv;generalize Yd i=l at *;generalize wsP i=ws at *;generalize vsP i=vs at *;clear K ok;obtain⟨kind,nn,cap,xw,xv,co⟩:=i;obtain⟨A,a,B,b,D,d,rfl,⟨rA,iA,lA,mA⟩,⟨rB,iB,lB,mB⟩,-⟩:=H;simp only at *;obtain⟨n,rfl⟩:∃ n:Nat,nn=(n:Int):=⟨nn.toNat,by omega⟩;have hn:l.length=n:=by omega
 clear lN;obtain⟨kc1,kc2⟩:=K1;replace RA:=Hd RA;replace LM:=Hd LM;replace EW:=Hd EW;replace EV:=Hd EV;replace K3:=Hd K3;replace K4:=Hd K4;replace K5:=Hd K5;replace K6:=Hd K6;replace rA:=Hd rA;replace rB:=Hd rB;replace iA:=Hd iA;replace iB:=Hd iB;replace mA:=Hd mA;replace mB:=Hd mB;have hn2:n<=64:=by omega
 replace hn:=Hd hn;have B1:Hid (Blk (w.alloc (.cells #[.int .i64 kind,.int .i64 n,.int .i64 cap,.slice A xw.length a,.slice B xv.length b,.slice D co.length d] 25)) w.heap.size 25 #[.int .i64 kind,.int .i64 n,.int .i64 cap,.slice A xw.length a,.slice B xv.length b,.slice D co.length d]):=.new rfl;obtain⟨st,hst⟩:∃ st,Hid (stP cap 0 ws vs p=st):=⟨_,rfl⟩;rw[hst.out];go_enter Tryz.func150,Tryz.ntmps150;go_wp2_with (fail);refine(RA.out B A b a _ (rB.out.ext ((Ext.rf _).alloc _)) (rA.out.ext ((Ext.rf _).alloc _))).mono ?_;rintro e w2 ⟨LA,lc,rfl,oL,x2⟩;have X2:=Hd (Ext.tr (a:=w) (by(repeat (first | assumption | exact Ext.rf _ | apply Ext.drew | apply Ext.drewN | apply Ext.alloc))) x2);have B2:=Hd (B1.out.ext x2);have rL:=Hd oL.read;have d1:=B2.out.c1;have d2:=B2.out.c2;have d3:=B2.out.c3;have d4:=B2.out.c4;have zb:=B2.out.lt;clear x2 oL
 by_cases hlen:n<p.length
 ·have HN:Hid (st=none):=by
   have h:=hst.out;rw[Wx (by rw[K3.out,hn.out];exact hlen)] at h;exact h.symm
  go_wp2_with (fail);refine bodyPost_ret (v:=.tuple #[.slice none 0 0,.int .i64 0,.int .i64 0,.bool false]) (by simp[results,Tryz.results150,go_sem]) rfl ?_;rw[HN.out];exact⟨X2.out,rfl⟩
 ·have hlb:decide (n<p.length)=false:=by simpa using hlen
  go_wp2_with (fail);go_loopw [10,11,12] (fun r o i wr=>∃ (k:Nat) (room out:Int),i=.int .i64 k/\r=.int .i64 room/\o=.int .i64 out/\k<=p.length/\0<=room/\room<=2147483647/\0<=out/\out<=2147483647*(k:Int)/\Hid (st=stP room out (ws.drop k) (vs.drop k) (p.drop k))/\Ext w2 wr) (fun _ _ i _=>p.length-(intOf i).toNat)
  case atStart=>exact⟨0,cap,0,rfl,rfl,rfl,by omega,kc1,kc2,by omega,by omega,hst.out.symm,Ext.rf _⟩
  case round =>
   obtain⟨wo,rfl⟩:∃ wo:World,wo=wr:=⟨_,rfl⟩;obtain⟨k,room,out,rfl,rfl,rfl,hk,b1,b2,b3,b4,HS,Y⟩:=hrel
   by_cases hlt:k<p.length
   ·obtain⟨pb,po,x,rfl,_,cx,ex,dx⟩:=(hP.ext (X2.out.tr Y)).at hlt
    have hkl:k<l.length:=by rw[hn.out];omega
    obtain⟨q,hq0⟩:∃ q,Hid (l[k]?=some q):=⟨l[k],List.getElem?_eq_getElem hkl⟩;obtain⟨qb,qo,qi,rfl,zq,cq,eq,_⟩:=(rL.out.ext Y).at (k:=k) (by rw[ZF];exact hkl);obtain rfl:qi=(q:Int):=by
     have h1:=Zam hq0.out;rw[eq.out] at h1;exact Option.some.inj h1
    obtain⟨hqw,hqv⟩:=LM.out k q hq0.out;obtain⟨wb,wo',u,rfl,zu,cu,eu,_⟩:=(rA.out.ext (X2.out.tr Y)).at hqw;obtain⟨vb,vo',v,rfl,zv,cv,ev,_⟩:=(rB.out.ext (X2.out.tr Y)).at hqv;have du:Hid (ws.drop k=u::ws.drop (k+1)):=by
     obtain⟨h1,h2⟩:=List.getElem?_eq_some_iff.1 (EW.out k q u hq0.out eu.out);exact(by rw[List.drop_eq_getElem_cons h1,h2]:ws.drop k=u::ws.drop (k+1))
    have dv:Hid (vs.drop k=v::vs.drop (k+1)):=by
     obtain⟨h1,h2⟩:=List.getElem?_eq_some_iff.1 (EV.out k q v hq0.out ev.out);exact(by rw[List.drop_eq_getElem_cons h1,h2]:vs.drop k=v::vs.drop (k+1))
    have bu:=K5.out.get (EW.out k q u hq0.out eu.out);have bv:=K6.out.get (EV.out k q v hq0.out ev.out);have e3:=Ze Y zb d3;have e4:=Ze Y zb d4;have HT:Hid (st=if x=1 then(if room-u<0 then none else stP (room-u) out (ws.drop (k+1)) (vs.drop (k+1)) (p.drop (k+1))) else if x=0 then(if room<0 then none else stP room (out+v) (ws.drop (k+1)) (vs.drop (k+1)) (p.drop (k+1))) else none):=by
     have h:=HS.out;rw[dx.out,du.out,dv.out] at h;exact h
    have wr1:Hid (IntKind.i64.wrap (room-u)=room-u):=IntWalk.i64_in _ (by omega);have wr2:Hid (IntKind.i64.wrap (out+v)=out+v):=IntWalk.i64_in _ (by omega);clear HS ex eu ev dx du dv eq;have qi1:(q:Int)<(xw.length:Int):=by omega
    have qi2:(q:Int)<(xv.length:Int):=by omega
    have qi3:(k:Int)<(l.length:Int):=by omega
    by_cases x1:x=1
    ·subst x1
     have wr1':=wr1.out
     by_cases hneg:room-u<0
     ·have HN:Hid (st=none):=by
       have h:=HT.out;rw[if_pos rfl,if_pos hneg] at h;exact h
      go_wp2_with (go_quiet (fail))
      all_goals (refine bodyPost_ret (v:=.tuple #[.slice none 0 0,.int .i64 0,.int .i64 0,.bool false]) (by simp[results,Tryz.results150,go_sem]) rfl ?_)
      all_goals rw[HN.out]
      all_goals exact⟨Ext.tr X2.out (by repeat (first | exact Y | apply Ext.drewN)),rfl⟩
     ·have HN:Hid (st=stP (room-u) out (ws.drop (k+1)) (vs.drop (k+1)) (p.drop (k+1))):=by
       have h:=HT.out;rw[if_pos rfl,if_neg hneg] at h;exact h
      go_wp2_with (go_quiet (fail));go_roundw
      case rel=>exact⟨k+1,room-u,out,by go_num,rfl,rfl,by omega,by omega,by omega,by omega,by omega,HN,by repeat (first | exact Y | apply Ext.drewN)⟩
      case measure=>simp[intOf];omega
    ·have x1':(x==1)=false:=by simpa using x1
     have x1n:(x != 1)=true:=by simpa using x1
     by_cases x0:x=0
     ·subst x0
      have wr2':=wr2.out;have HN:Hid (st=stP room (out+v) (ws.drop (k+1)) (vs.drop (k+1)) (p.drop (k+1))):=by
       have h:=HT.out;rw[if_neg x1,if_pos rfl,if_neg (by omega)] at h;exact h
      clear x1;go_wp2_with (go_quiet (fail));go_roundw
      case rel=>exact⟨k+1,room,out+v,by go_num,rfl,rfl,by omega,by omega,by omega,by omega,by omega,HN,by repeat (first | exact Y | apply Ext.drewN)⟩
      case measure=>simp[intOf];omega
     ·have x0n:(x != 0)=true:=by simpa using x0
      have HN:Hid (st=none):=by
       have h:=HT.out;rw[if_neg x1,if_neg x0] at h;exact h
      clear x1 x0;go_wp2_with (go_quiet (fail))
      all_goals (refine bodyPost_ret (v:=.tuple #[.slice none 0 0,.int .i64 0,.int .i64 0,.bool false]) (by simp[results,Tryz.results150,go_sem]) rfl ?_)
      all_goals rw[HN.out]
      all_goals exact⟨Ext.tr X2.out (by repeat (first | exact Y | apply Ext.drewN)),rfl⟩
   ·have HN:Hid (st=some (room,out)):=by
     have h:=HS.out;rw[List.drop_of_length_le (l:=p) (i:=k) (by omega)] at h;have h2:stP room out (ws.drop k) (vs.drop k) []=some (room,out):=by cases ws.drop k<;>cases vs.drop k<;>rfl
     rw[h2] at h;exact h
    clear HS;go_wp2_with (fail);refine bodyPost_ret (v:=.tuple #[.slice LA l.length lc,.int .i64 room,.int .i64 out,.bool true]) (by simp[results,Tryz.results150,go_sem]) rfl ?_;rw[HN.out];exact⟨Ext.tr X2.out Y,LA,lc,rfl,rL.out.ext Y⟩
theorem ZaR {i:InstP}(ok:KnapOk i) : (wsP i).length=(vsP i).length/\((wsP i).length:Int)=i.n/\(∀ x∈wsP i,0<=x)/\(∀ x∈vsP i,0<=x/\x<=2147483647)/\Falls (wsP i) (vsP i):=by
 have sw:=ok.sw;have sv:=ok.sv;have hw:∀ x∈i.weight,0<=x:=fun x hx=>(sw x hx).1
 have hv:∀ x∈i.value,0<=x:=fun x hx=>(sv x hx).1
 have l1:(wsP i).length=(Yd i).length:=Z5 _ _;have l2:(vsP i).length=(Yd i).length:=Z5 _ _;have lo:=Ws ok;refine⟨by omega,by omega,fun x hx=>(YY sw x hx).1,fun x hx=>YY sv x hx,?_⟩;exact Jn hv hw (W6 hw)
def KernI (w:World)(g:Nat)(i:InstP) : Prop:=Zn i=0 /\
 ((i.kind=1/\∃ gk base,FaceB w g 69 gk/\KernB w base gk i.cap (Yd i) (wsP i) (vsP i) (Yv (vsP i) 0)) ∨
  (i.kind=2/\∃ gk base,FaceB w g 76 gk/\KernA w base gk i.cost) ∨
  (i.kind=3/\∃ gk base,FaceB w g 79 gk/\KernT w base gk i.cost (Xy i.cost)))
theorem KernI.ext {w w':World}{g:Nat}{i:InstP}(h:KernI w g i)(x:Ext w w') : KernI w' g i:=by
 obtain⟨hc,h⟩:=h;refine⟨hc,?_⟩;rcases h with⟨hk,gk,base,h1,h2⟩ | ⟨hk,gk,base,h1,h2⟩ | ⟨hk,gk,base,h1,h2⟩
 ·exact .inl ⟨hk,gk,base,h1.ext x,h2.ext x⟩
 ·exact .inr (.inl ⟨hk,gk,base,h1.ext x,h2.ext x⟩)
 ·exact .inr (.inr ⟨hk,gk,base,h1.ext x,h2.ext x⟩)
def Zs (i:InstP)(p:List Int) : Int×Int:=if i.kind=1 then Wc i.cap (wsP i) (vsP i) p else if i.kind=2 then Yj i.cost p else Ym i.cost (Xy i.cost) p
theorem Zdt (j:InstP)(vs:List Value)(w:World)(H:RInst w vs j)(lw:j.weight.length<=1000000000)(lv:j.value.length<=1000000000) :
  Calls Tryz.prog 11 #[.agg (List.toArray vs)] w fun e w'=>((Zn j≠0/\e=.returned (.tuple #[.pointer none,.int .i64 (Zn j)]))\/(Zn j=0/\∃ g,e=.returned (.tuple #[.pointer (some ⟨g,0,none⟩),.int .i64 0])/\KernI w' g j))/\Ext w w':=by
 by_cases hc:Zn j=0
 ·rcases YW hc with hk | hk | hk
  ·refine(ZdX j vs w H hc hk).mono ?_
   rintro e w' ⟨⟨g,gk,base,rfl,h1,h2⟩,x⟩;exact⟨.inr ⟨hc,g,rfl,hc,.inl ⟨hk,gk,base,h1,h2⟩⟩,x⟩
  ·refine(ZdY j vs w H hc hk).mono ?_
   rintro e w' ⟨⟨g,gk,base,rfl,h1,h2⟩,x⟩;exact⟨.inr ⟨hc,g,rfl,hc,.inr (.inl ⟨hk,gk,base,h1,h2⟩)⟩,x⟩
  ·refine(ZdZ j vs w H hc hk).mono ?_
   rintro e w' ⟨⟨g,gk,base,rfl,h1,h2⟩,x⟩;exact⟨.inr ⟨hc,g,rfl,hc,.inr (.inr ⟨hk,gk,base,h1,h2⟩)⟩,x⟩
 ·refine(ZdS j vs w H lw lv hc).mono ?_
  rintro e w' ⟨rfl,x⟩;exact⟨.inl ⟨hc,rfl⟩,x⟩
theorem J6 {w:World}{g gk:Nat}{a b:Int}{s:Value}(h:FaceB w g 69 gk)(D:Calls Tryz.prog 250 #[.pointer (some ⟨gk,0,none⟩),s] w fun e w'=>e=.returned (.tuple #[.int .i64 a,.int .i64 b])/\Ext w w') :
  Calls Tryz.prog 15 #[.pointer (some ⟨g,0,none⟩),s] w fun e w'=>e=.returned (.tuple #[.int .i64 a,.int .i64 b])/\Ext w w':=by
 have c0:=Blk.c0 h;have hm:∀ (x y:Value) (u:World),(callMethod (.iface 69 x) "Bound" #[y]).run Tryz.prog u=.ok (.enter 250 #[x,y]) u:=fun _ _ _=>by kernel_rfl
 replace D:=Hd D;go_enter Tryz.func15,Tryz.ntmps15;go_wp2_with (fail);refine D.out.mono ?_;rintro e w1 ⟨rfl,x1⟩;go_wp2_with (fail);go_ret2;exact⟨rfl,x1⟩
theorem J7 {w:World}{g gk:Nat}{a b:Int}{s:Value}(h:FaceB w g 76 gk)(D:Calls Tryz.prog 259 #[.pointer (some ⟨gk,0,none⟩),s] w fun e w'=>e=.returned (.tuple #[.int .i64 a,.int .i64 b])/\Ext w w') :
  Calls Tryz.prog 15 #[.pointer (some ⟨g,0,none⟩),s] w fun e w'=>e=.returned (.tuple #[.int .i64 a,.int .i64 b])/\Ext w w':=by
 have c0:=Blk.c0 h;have hm:∀ (x y:Value) (u:World),(callMethod (.iface 76 x) "Bound" #[y]).run Tryz.prog u=.ok (.enter 259 #[x,y]) u:=fun _ _ _=>by kernel_rfl
 replace D:=Hd D;go_enter Tryz.func15,Tryz.ntmps15;go_wp2_with (fail);refine D.out.mono ?_;rintro e w1 ⟨rfl,x1⟩;go_wp2_with (fail);go_ret2;exact⟨rfl,x1⟩
theorem J8 {w:World}{g gk:Nat}{a b:Int}{s:Value}(h:FaceB w g 79 gk)(D:Calls Tryz.prog 276 #[.pointer (some ⟨gk,0,none⟩),s] w fun e w'=>e=.returned (.tuple #[.int .i64 a,.int .i64 b])/\Ext w w') :
  Calls Tryz.prog 15 #[.pointer (some ⟨g,0,none⟩),s] w fun e w'=>e=.returned (.tuple #[.int .i64 a,.int .i64 b])/\Ext w w':=by
 have c0:=Blk.c0 h;have hm:∀ (x y:Value) (u:World),(callMethod (.iface 79 x) "Bound" #[y]).run Tryz.prog u=.ok (.enter 276 #[x,y]) u:=fun _ _ _=>by kernel_rfl
 replace D:=Hd D;go_enter Tryz.func15,Tryz.ntmps15;go_wp2_with (fail);refine D.out.mono ?_;rintro e w1 ⟨rfl,x1⟩;go_wp2_with (fail);go_ret2;exact⟨rfl,x1⟩
theorem ZaS {w:World}{g:Nat}{i:InstP}(P:Option Addr)(pc:Nat)(p:List Int)(h:KernI w g i)(hT:Tab w)(hP:RdI w P p)(lp:p.length<=1000000000) :
  Calls Tryz.prog 15 #[.pointer (some ⟨g,0,none⟩),.slice P p.length pc] w fun e w'=>e=.returned (.tuple #[.int .i64 (Zs i p).1,.int .i64 (Zs i p).2])/\Ext w w':=by
 obtain⟨hc,h⟩:=h;unfold Zs;rcases h with⟨hk,gk,base,h1,h2⟩ | ⟨hk,gk,base,h1,h2⟩ | ⟨hk,gk,base,h1,h2⟩
 ·rw[if_pos hk]
  exact J6 h1 (Zbz P pc p w h2 (kok (YL hc hk)) rfl hP lp)
 ·rw[if_neg (by omega),if_pos hk]
  exact J7 h1 (Zau P pc p w hT h2 (Yx (ZG hc (by omega))) hP lp)
 ·rw[if_neg (by omega),if_neg (by omega)]
  exact J8 h1 (Zaz P pc p w hT h2 (Yx (ZG hc (by omega))) hP lp)
end Go.Proofs.YtmojhhlcocjoaaaGreatDoor
namespace Go.Proofs.YtmojhhlcocjoaaaGreatDoor
open Go.Shelf
def Zba : Go.Shelf.Ren:=⟨fun | 105=>49 | 212=>91 | 99=>92 | 165=>93 | 166=>63 | 170=>94 | 169=>65 | 263=>144 | 264=>145 | 206=>146 | 240=>114 | 241=>147 | 276=>161 | 277=>173 | 167=>64 | n=>n,fun | 9=>9 | 3=>3 | 4=>4 | 20=>20 | 0=>0 | 46=>150 | 109=>151 | 5=>5 | 72=>109 | 76=>112 | 51=>196 | 146=>197 | 53=>53 | 148=>199 | 70=>107 | 37=>52 | 75=>111 | 127=>175 | 164=>213 | 80=>115 | n=>n,fun n=>n⟩
theorem ZdO : Lays.n105 Tryz.prog Zba where
 mixed:=by kernel_rfl
 f99:=Tryz.func92.trans (congrArg some (by kernel_rfl))
 f105:=Tryz.func49.trans (congrArg some (by kernel_rfl))
 f165:=Tryz.func93.trans (congrArg some (by kernel_rfl))
 f166:=Tryz.func63.trans (congrArg some (by kernel_rfl))
 f169:=Tryz.func65.trans (congrArg some (by kernel_rfl))
 f170:=Tryz.func94.trans (congrArg some (by kernel_rfl))
 f206:=Tryz.func146.trans (congrArg some (by kernel_rfl))
 f212:=Tryz.func91.trans (congrArg some (by kernel_rfl))
 f240:=Tryz.func114.trans (congrArg some (by kernel_rfl))
 f241:=Tryz.func147.trans (congrArg some (by kernel_rfl))
 f263:=Tryz.func144.trans (congrArg some (by kernel_rfl))
 f264:=Tryz.func145.trans (congrArg some (by kernel_rfl))
 f276:=Tryz.func161.trans (congrArg some (by kernel_rfl))
 f277:=Tryz.func173.trans (congrArg some (by kernel_rfl))
 t0:=Tryz.underlying0
 a0:=Tryz.isAgg0
 z0:=Tryz.sizeOf0
 v0:=Tryz.zeroValue0
 t3:=Tryz.underlying3
 a3:=Tryz.isAgg3
 z3:=Tryz.sizeOf3
 v3:=Tryz.zeroValue3
 t4:=Tryz.underlying4
 a4:=Tryz.isAgg4
 z4:=Tryz.sizeOf4
 v4:=Tryz.zeroValue4
 t5:=Tryz.underlying5
 a5:=Tryz.isAgg5
 z5:=Tryz.sizeOf5
 v5:=Tryz.zeroValue5
 t9:=Tryz.underlying9
 a9:=Tryz.isAgg9
 z9:=Tryz.sizeOf9
 v9:=Tryz.zeroValue9
 t20:=Tryz.underlying20
 a20:=Tryz.isAgg20
 z20:=Tryz.sizeOf20
 v20:=Tryz.zeroValue20
 t37:=Tryz.underlying52
 a37:=Tryz.isAgg52
 z37:=Tryz.sizeOf52
 v37:=Tryz.zeroValue52
 t46:=Tryz.underlying150
 a46:=Tryz.isAgg150
 z46:=Tryz.sizeOf150
 v46:=Tryz.zeroValue150
 t51:=Tryz.underlying196
 a51:=Tryz.isAgg196
 z51:=Tryz.sizeOf196
 v51:=Tryz.zeroValue196
 t53:=Tryz.underlying53
 a53:=Tryz.isAgg53
 z53:=Tryz.sizeOf53
 v53:=Tryz.zeroValue53
 t70:=Tryz.underlying107
 a70:=Tryz.isAgg107
 z70:=Tryz.sizeOf107
 v70:=Tryz.zeroValue107
 t72:=Tryz.underlying109
 a72:=Tryz.isAgg109
 z72:=Tryz.sizeOf109
 v72:=Tryz.zeroValue109
 t75:=Tryz.underlying111
 a75:=Tryz.isAgg111
 z75:=Tryz.sizeOf111
 v75:=Tryz.zeroValue111
 t76:=Tryz.underlying112
 a76:=Tryz.isAgg112
 z76:=Tryz.sizeOf112
 v76:=Tryz.zeroValue112
 t109:=Tryz.underlying151
 a109:=Tryz.isAgg151
 z109:=Tryz.sizeOf151
 v109:=Tryz.zeroValue151
 t127:=Tryz.underlying175
 a127:=Tryz.isAgg175
 z127:=Tryz.sizeOf175
 v127:=Tryz.zeroValue175
 t146:=Tryz.underlying197
 a146:=Tryz.isAgg197
 z146:=Tryz.sizeOf197
 v146:=Tryz.zeroValue197
 t148:=Tryz.underlying199
 a148:=Tryz.isAgg199
 z148:=Tryz.sizeOf199
 v148:=Tryz.zeroValue199
 t164:=Tryz.underlying213
 a164:=Tryz.isAgg213
 z164:=Tryz.sizeOf213
 v164:=Tryz.zeroValue213
theorem ZcU : Builder.Extra Tryz.prog Zba where
 sizeBuilder:=by kernel_rfl
 liesBuilder:=by kernel_rfl
 t5:=Tryz.underlying5
 a5:=Tryz.isAgg5
 z5:=Tryz.sizeOf5
 v5:=Tryz.zeroValue5
 infoByte:=by kernel_rfl
 cellsByte:=by kernel_rfl
 sizeByte:=by kernel_rfl
 neB5:=by decide
theorem ZaT (s:List UInt8)(c:Nat)(w:World)(hc:c<=9223372036854775807)(hlen:s.length*c<=140737488355328) :
  Calls Tryz.prog 49 #[.string ⟨s.toArray⟩,.int .i64 c] w fun e w'=>e=.returned (.string ⟨(Lib.repeatL s c).toArray⟩)/\Ext w w' :=
 Any.strings_Repeat ZdO ZcU ⟨s.toArray⟩ c w hc hlen
def Xh (n:Int) : Txt:=if n=1 then [112,114,117,110,101,100] else if n=2 then [98,114,97,110,99,104] else [108,101,97,102]
def W9 (p:List Int) : Txt:=if p.length=0 then [114,111,111,116] else Lib.itoa (p.getD (p.length-1) 0)
def Qt (n:Int)(p:List Int)(b:Int) : Txt:=Lib.repeatL [32,32] p.length++W9 p++[32]++Xh n++[32,97,116,32]++Lib.itoa b
def XY (i:InstP)(n:Int)(p:List Int) : Txt×Int :=
 if (Zs i p).2≠0 then([],1) else if n<1\/3<n then([],8) else(Qt n p (Zs i p).1,0)
theorem ZaU {i:InstP}(ok:KnapOk i)(p:List Int) : -1000000000000<=(Wc i.cap (wsP i) (vsP i) p).1/\(Wc i.cap (wsP i) (vsP i) p).1<=1000000000000:=by
 obtain⟨f1,f2,f3,f4,f5⟩:=ZaR ok;unfold Wc
 cases hst:stP i.cap 0 (wsP i) (vsP i) p with
 | none=>simp
 | some q =>
  obtain⟨room,out⟩:=q;simp only;have n2:=ok.n2;have hle:p.length<=(wsP i).length:=by
   by_cases h:(wsP i).length<p.length
   ·rw[Wx h] at hst;cases hst
   ·omega
  have bR:=UP f3 ok.cap.1 hst;have bO:=QY f4 hst;have bS:=UC (vs:=vsP i) f4 p.length;have bN:=YG (room:=room) (ws:=(wsP i).drop p.length) (vs:=(vsP i).drop p.length) bR.1 (fun x hx=>f3 x (List.mem_of_mem_drop hx)) (fun x hx=>(f4 x (List.mem_of_mem_drop hx)).1);have bL:=Wd (room:=room) (ws:=(wsP i).drop p.length) (vs:=(vsP i).drop p.length) bR.1 (fun x hx=>f3 x (List.mem_of_mem_drop hx)) (fun x hx=>(f4 x (List.mem_of_mem_drop hx)).1);omega
theorem ZaV {rows:List (List Int)}(ok:RowsOk rows)(p:List Int) : -1000000000000<=(Yj rows p).1/\(Yj rows p).1<=1000000000000:=by
 have n2:=ok.n2;unfold Yj
 cases hr:XE rows.length p with
 | none=>simp
 | some m =>
  obtain⟨hpl,hin,hS⟩:=Qb n2 hr;simp only;have h1:=VD (B:=2147483647) (rows:=rows) (p:=p) (by omega) fun row hr c hc=>by
   have:=hin c hc;exact ok.get hr (by omega)
  have RB:=Vh (rows:=rows.drop p.length) (m:=m) (by rw[List.length_drop];omega) (fun row hr c hc=>ok.get (List.mem_of_mem_drop hr) (hS.2 c hc));split<;>omega
theorem ZaW {rows:List (List Int)}{mi:Bool}(ok:RowsOk rows)(p:List Int) : -1000000000000<=(Ym rows mi p).1/\(Ym rows mi p).1<=1000000000000:=by
 have l1:=ok.n1;have l2:=ok.n2;unfold Ym
 cases hr:Wu rows p with
 | none=>simp
 | some s =>
  obtain⟨m,last,cost⟩:=s;obtain⟨pl,WO⟩:=Q9 l1 l2 hr;simp only;have hS:=WO.sub;have hla:=Uf l1 WO;have hlen:(Zb m).length<=24:=by have:=WO.len;omega
  have num:∀ a b,a<rows.length->b<rows.length->0<=Za rows a b/\Za rows a b<=2147483647:=fun a b ha hb=>by
   have e1:rows[a]?=some rows[a]:=List.getElem?_eq_getElem ha;have e2:=ok.row _ (List.getElem_mem ha);have e3:(rows[a])[b]?=some (rows[a])[b]:=List.getElem?_eq_getElem (by omega);unfold Za;rw[getD_some e1,getD_some e3];exact ok.num _ (List.getElem_mem ha) _ (List.getElem_mem _)
  have bcost:0<=cost/\cost<=2147483647*24:=by
   have h1:=UH num pl 0 (by omega) fun x hx=>(WO.inn x hx).1
   have h2:=WO.len;rw[WO.cost];omega
  have bred:=Vm num (by omega) hla hS.2 hlen;have n0:=num last 0 hla (by omega);split
  ·omega
  ·rename_i hne
   have bend:=Qk num (by omega) hla hS.2 hlen hne;split<;>omega
theorem Qu {i:InstP}(hc:Zn i=0)(p:List Int) : -9223372036854775808<=(Zs i p).1/\(Zs i p).1<=9223372036854775807:=by
 unfold Zs;split
 ·rename_i hk
  have:=ZaU (YL hc hk) p;omega
 ·have ok:=Yx (ZG hc (by assumption))
  split
  ·have:=ZaV ok p
   omega
  ·have:=ZaW (mi:=Xy i.cost) ok p
   omega
theorem J9 {i:InstP}{n:Int}{p:List Int}(h:(Zs i p).2≠0) : XY i n p=([],1):=by unfold XY;rw[if_pos h]
theorem Qv {i:InstP}{n:Int}{p:List Int}(h:(Zs i p).2=0)(hn:n<1\/3<n) : XY i n p=([],8):=by unfold XY;rw[if_neg (by simpa using h),if_pos hn]
theorem QX {i:InstP}{n:Int}{p:List Int}(h:(Zs i p).2=0)(hn:¬(n<1\/3<n)) : XY i n p=(Qt n p (Zs i p).1,0):=by unfold XY;rw[if_neg (by simpa using h),if_neg hn]
theorem Jd : ∀ k:Nat,(Lib.repeatL ([32,32]:Txt) k).length=2*k
 | 0=>rfl
 | k+1=>by
  simp only[Lib.repeatL,List.length_append,Jd k,List.length_cons,List.length_nil];omega
theorem Zaa : ∀ k:Nat,Lib.repeatL ([32,32]:Txt) k++[32,32]=Lib.repeatL [32,32] (k+1)
 | 0=>rfl
 | k+1=>by
  have ih:=Zaa k;simp only[Lib.repeatL,List.append_assoc] at ih ⊢;rw[ih]
end Go.Proofs.YtmojhhlcocjoaaaGreatDoor
namespace Go.Proofs.YtmojhhlcocjoaaaGreatDoor
open Go.RowKit Go.ChangeShapes Go.WideShapes Go.ChangeAt Go.Deep
def Vo (n:Int) : Txt:=if n<1\/3<n then [] else Xh n
theorem ZaX (n:Int)(w:World) : Calls Tryz.prog 47 #[.int .i64 n] w fun e w'=>e=.returned (.string ⟨(Vo n).toArray⟩)/\Ext w w':=by
 by_cases h1:n=1
 ·subst h1
  go_enter Tryz.func47,Tryz.ntmps47;go_wp2_with (fail);go_ret;exact⟨rfl,by(repeat (first | assumption | exact Ext.rf _ | apply Ext.drew | apply Ext.drewN | apply Ext.alloc))⟩
 ·by_cases h2:n=2
  ·subst h2
   go_enter Tryz.func47,Tryz.ntmps47;go_wp2_with (fail);go_ret;exact⟨rfl,by(repeat (first | assumption | exact Ext.rf _ | apply Ext.drew | apply Ext.drewN | apply Ext.alloc))⟩
  ·by_cases h3:n=3
   ·subst h3
    go_enter Tryz.func47,Tryz.ntmps47;go_wp2_with (fail);go_ret;exact⟨rfl,by(repeat (first | assumption | exact Ext.rf _ | apply Ext.drew | apply Ext.drewN | apply Ext.alloc))⟩
   ·have e:Vo n=[]:=by unfold Vo;rw[if_pos (by omega)]
    rw[e];have e1:(n==1)=false:=by simpa using h1
    have e2:(n==2)=false:=by simpa using h2
    have e3:(n==3)=false:=by simpa using h3
    clear e;go_enter Tryz.func47,Tryz.ntmps47;go_wp2_with (fail);go_ret;exact⟨rfl,by(repeat (first | assumption | exact Ext.rf _ | apply Ext.drew | apply Ext.drewN | apply Ext.alloc))⟩
theorem ZaY (n:Int)(s:Value)(w:World) :
  Calls Tryz.prog 18 #[.pointer none,.agg #[.int .i64 n,s]] w fun e w'=>e=.returned (.tuple #[.string ⟨#[]⟩,.int .i64 1])/\Ext w w':=by
 go_enter Tryz.func18,Tryz.ntmps18;go_wp2_with (fail);go_ret2;exact⟨rfl,by(repeat (first | assumption | exact Ext.rf _ | apply Ext.drew | apply Ext.drewN | apply Ext.alloc))⟩
theorem ZaZ (i:InstP)(g:Nat)(n:Int)(P:Option Addr)(c:Nat)(p:List Int)(w:World)(K:KernI w g i)(hT:Tab w)(hS:Ten w)(hP:RdI w P p)(ip:Ints p)(lp:p.length<=1000) :
  Calls Tryz.prog 18 #[.pointer (some ⟨g,0,none⟩),.agg #[.int .i64 n,.slice P p.length c]] w fun e w'=>e=.returned (.tuple #[txS (XY i n p).1,.int .i64 (XY i n p).2])/\Ext w w':=by
 have BO:=fun(W:World) (y:Ext w W)=>ZaS P c p (K.ext y) (hT.ext y) (hP.ext y) (by omega)
 have rg:=Qu K.1 p;have B1:Hid (Blk (w.alloc (.cells #[.int .i64 n,.slice P p.length c] 44)) w.heap.size 44 #[.int .i64 n,.slice P p.length c]):=.new rfl;have KN:=Hd (fun W:World=>ZaX n W);unfold txS
 by_cases h:(Zs i p).2=0
 ·rw[h] at BO
  by_cases hn:n<1\/3<n
  ·rw[Qv h hn]
   have ek:Vo n=[]:=by unfold Vo;rw[if_pos hn]
   rw[ek] at KN;generalize (Zs i p).1=b at *;replace BO:=Hd BO;clear h hn rg K hT hS hP ip ek;go_enter Tryz.func18,Tryz.ntmps18;go_wp2_with (fail);refine(BO.out _ (by(repeat (first | assumption | exact Ext.rf _ | apply Ext.drew | apply Ext.drewN | apply Ext.alloc)))).mono ?_;rintro e w1 ⟨rfl,x1⟩;have X1:=Hd (Ext.tr (a:=w) (by(repeat (first | assumption | exact Ext.rf _ | apply Ext.drew | apply Ext.drewN | apply Ext.alloc))) x1);have b1:=B1.out.ext x1;have t0:=b1.c0;have t1:=b1.c1;clear x1 b1 B1;go_wp2_with (fail);refine(KN.out _).mono ?_;rintro e w2 ⟨rfl,x2⟩;have X2:=Hd (X1.out.tr (Ext.tr (by(repeat (first | assumption | exact Ext.rf _ | apply Ext.drew | apply Ext.drewN | apply Ext.alloc))) x2));clear x2;go_wp2_with (fail);go_ret2;exact⟨rfl,X2.out⟩
  ·rw[QX h hn]
   have ek:Vo n=Xh n:=by unfold Vo;rw[if_neg hn]
   rw[ek] at KN;have l0:Hid ((Xh n).length<=6/\(Xh n).isEmpty=false):=by
    unfold Xh;split
    ·exact⟨by decide,by decide⟩
    ·split
     ·exact⟨by decide,by decide⟩
     ·exact⟨by decide,by decide⟩
   have NM:Hid (W9 p=if p.length=0 then [114,111,111,116] else Lib.itoa (p.getD (p.length-1) 0)):=by
    have h:W9 p=if p.length=0 then [114,111,111,116] else Lib.itoa (p.getD (p.length-1) 0):=rfl
    exact h
   have WB:=Hd (fun(W:World) (y:Ext w W)=>Xl (Zs i p).1 rg.1 rg.2 W (hS.ext y));have lb:=Lib.itoa_length_le _ rg.1 rg.2;have LT:Hid (Qt n p (Zs i p).1=Lib.repeatL [32,32] p.length++W9 p++[32]++Xh n++[32,97,116,32]++Lib.itoa (Zs i p).1):=by
    have h:Qt n p (Zs i p).1=Lib.repeatL [32,32] p.length++W9 p++[32]++Xh n++[32,97,116,32]++Lib.itoa (Zs i p).1:=rfl;exact h
   have RP:=Hd (fun W:World=>ZaT [32,32] p.length W (by omega) (by simp;omega));have lr:(Lib.repeatL ([32,32]:Txt) p.length).length=2*p.length:=Jd _;generalize hlt:Qt n p (Zs i p).1=LTX at *;generalize (Zs i p).1=b at *;generalize Lib.itoa b=tb at *;generalize Xh n=tk at *;generalize Lib.repeatL [32,32] p.length=tr at *;obtain⟨lk,ne⟩:=l0.out;replace BO:=Hd BO;replace hlt:=Hd hlt;clear h hn rg K hT ek l0
   by_cases hp:p.length=0
   ·have nm:W9 p=[114,111,111,116]:=by rw[NM.out,if_pos hp]
    have lA:¬9223372036854775807<tr.length+4:=by omega
    have lB:¬9223372036854775807<tr.length+4+1:=by omega
    have lC:¬9223372036854775807<tr.length+4+1+tk.length:=by omega
    have lD:¬9223372036854775807<tr.length+4+1+tk.length+4:=by omega
    have lE:¬9223372036854775807<tr.length+4+1+tk.length+4+tb.length:=by omega
    have ES:Hid ((⟨tr.toArray⟩:ByteArray)++⟨#[114,111,111,116]⟩++⟨#[32]⟩++⟨tk.toArray⟩++⟨#[32,97,116,32]⟩++⟨tb.toArray⟩=⟨LTX.toArray⟩):=Hd (by
     rw[LT.out,nm,show (⟨#[114,111,111,116]⟩:ByteArray)=⟨([114,111,111,116]:Txt).toArray⟩ from rfl,show (⟨#[32]⟩:ByteArray)=⟨([32]:Txt).toArray⟩ from rfl,show (⟨#[32,97,116,32]⟩:ByteArray)=⟨([32,97,116,32]:Txt).toArray⟩ from rfl,ZI,ZI,ZI,ZI,ZI])
    have hp0:¬(0:Int)<(p.length:Int):=by omega
    clear NM nm LT hP hS ip hp lr lk lb hlt;go_enter Tryz.func18,Tryz.ntmps18;go_wp2_with (fail);refine(BO.out _ (by(repeat (first | assumption | exact Ext.rf _ | apply Ext.drew | apply Ext.drewN | apply Ext.alloc)))).mono ?_;rintro e w1 ⟨rfl,x1⟩;have X1:=Hd (Ext.tr (a:=w) (by(repeat (first | assumption | exact Ext.rf _ | apply Ext.drew | apply Ext.drewN | apply Ext.alloc))) x1);have b1:=B1.out.ext x1;have t0:=b1.c0;have t1:=b1.c1;clear x1 B1;go_wp2_with (fail);refine(KN.out _).mono ?_;rintro e w2 ⟨rfl,x2⟩;have X2:=Hd (X1.out.tr (Ext.tr (by(repeat (first | assumption | exact Ext.rf _ | apply Ext.drew | apply Ext.drewN | apply Ext.alloc))) x2));have b2:=b1.ext (Ext.tr (by(repeat (first | assumption | exact Ext.rf _ | apply Ext.drew | apply Ext.drewN | apply Ext.alloc))) x2);have s1:=b2.c1;clear x2 b1 t0 t1 X1;go_wp2_with (fail);refine(RP.out _).mono ?_;rintro e w3 ⟨rfl,x3⟩;have X3:=Hd (X2.out.tr (Ext.tr (by(repeat (first | assumption | exact Ext.rf _ | apply Ext.drew | apply Ext.drewN | apply Ext.alloc))) x3));clear x3 b2 s1 X2;go_wp2_with (fail);refine(WB.out _ (X3.out.tr (by(repeat (first | assumption | exact Ext.rf _ | apply Ext.drew | apply Ext.drewN | apply Ext.alloc))))).mono ?_;rintro e w4 ⟨rfl,x4⟩;have X4:=Hd (X3.out.tr (Ext.tr (by(repeat (first | assumption | exact Ext.rf _ | apply Ext.drew | apply Ext.drewN | apply Ext.alloc))) x4));clear x4 X3;go_wp2_with (fail);go_ret2;exact⟨by rw[<-ES.out];rfl,X4.out⟩
   ·obtain⟨pb,po,x,rfl,zb,cx,ex,-⟩:=hP.at (k:=p.length-1) (by omega)
    have ix:=ip.get ex.out;have nm:W9 p=Lib.itoa x:=by rw[NM.out,if_neg hp,getD_some ex.out]
    have WX:=Hd (fun(W:World) (y:Ext w W)=>Xl x ix.1 ix.2 W (hS.ext y));have lx:=Lib.itoa_length_le _ ix.1 ix.2;generalize Lib.itoa x=tx at *;have lA:¬9223372036854775807<tr.length+tx.length:=by omega
    have lB:¬9223372036854775807<tr.length+tx.length+1:=by omega
    have lC:¬9223372036854775807<tr.length+tx.length+1+tk.length:=by omega
    have lD:¬9223372036854775807<tr.length+tx.length+1+tk.length+4:=by omega
    have lE:¬9223372036854775807<tr.length+tx.length+1+tk.length+4+tb.length:=by omega
    have ES:Hid ((⟨tr.toArray⟩:ByteArray)++⟨tx.toArray⟩++⟨#[32]⟩++⟨tk.toArray⟩++⟨#[32,97,116,32]⟩++⟨tb.toArray⟩=⟨LTX.toArray⟩):=Hd (by
     rw[LT.out,nm,show (⟨#[32]⟩:ByteArray)=⟨([32]:Txt).toArray⟩ from rfl,show (⟨#[32,97,116,32]⟩:ByteArray)=⟨([32,97,116,32]:Txt).toArray⟩ from rfl,ZI,ZI,ZI,ZI,ZI])
    have hp0:(0:Int)<(p.length:Int):=by omega
    have wl:IntKind.i64.wrap ((p.length:Int)-1)=((p.length-1:Nat):Int):=by rw[show (p.length:Int)-1=((p.length-1:Nat):Int) by omega];exact IntWalk.i64_in _ (by omega)
    have q1:(0:Int)<=((p.length-1:Nat):Int):=by omega
    have q2:((p.length-1:Nat):Int)<(p.length:Int):=by omega
    clear NM nm LT hP hS ip hp lr lk lb hlt ex ix lx;go_enter Tryz.func18,Tryz.ntmps18;go_wp2_with (fail);refine(BO.out _ (by(repeat (first | assumption | exact Ext.rf _ | apply Ext.drew | apply Ext.drewN | apply Ext.alloc)))).mono ?_;rintro e w1 ⟨rfl,x1⟩;have X1:=Hd (Ext.tr (a:=w) (by(repeat (first | assumption | exact Ext.rf _ | apply Ext.drew | apply Ext.drewN | apply Ext.alloc))) x1);have b1:=B1.out.ext x1;have t0:=b1.c0;have t1:=b1.c1;clear x1 B1;go_wp2_with (fail);refine(KN.out _).mono ?_;rintro e w2 ⟨rfl,x2⟩;have X2:=Hd (X1.out.tr (Ext.tr (by(repeat (first | assumption | exact Ext.rf _ | apply Ext.drew | apply Ext.drewN | apply Ext.alloc))) x2));have b2:=b1.ext (Ext.tr (by(repeat (first | assumption | exact Ext.rf _ | apply Ext.drew | apply Ext.drewN | apply Ext.alloc))) x2);have s1:=b2.c1;have s2:w2.cell? ⟨pb,po+(p.length-1),none⟩=some (.int .i64 x):=(X2.out.cell (p:=⟨pb,po+(p.length-1),none⟩) zb).trans cx;clear x2 b1 t0 t1 X1;go_wp2_with (fail);refine(WX.out _ (X2.out.tr (by(repeat (first | assumption | exact Ext.rf _ | apply Ext.drew | apply Ext.drewN | apply Ext.alloc))))).mono ?_;rintro e w3 ⟨rfl,x3⟩;have X3:=Hd (X2.out.tr (Ext.tr (by(repeat (first | assumption | exact Ext.rf _ | apply Ext.drew | apply Ext.drewN | apply Ext.alloc))) x3));have b3:=b2.ext (Ext.tr (by(repeat (first | assumption | exact Ext.rf _ | apply Ext.drew | apply Ext.drewN | apply Ext.alloc))) x3);have r1:=b3.c1;clear x3 b2 s1 s2 X2;go_wp2_with (fail);refine(RP.out _).mono ?_;rintro e w4 ⟨rfl,x4⟩;have X4:=Hd (X3.out.tr (Ext.tr (by(repeat (first | assumption | exact Ext.rf _ | apply Ext.drew | apply Ext.drewN | apply Ext.alloc))) x4));clear x4 b3 r1 X3;go_wp2_with (fail);refine(WB.out _ (X4.out.tr (by(repeat (first | assumption | exact Ext.rf _ | apply Ext.drew | apply Ext.drewN | apply Ext.alloc))))).mono ?_;rintro e w5 ⟨rfl,x5⟩;have X5:=Hd (X4.out.tr (Ext.tr (by(repeat (first | assumption | exact Ext.rf _ | apply Ext.drew | apply Ext.drewN | apply Ext.alloc))) x5));clear x5 X4;go_wp2_with (fail);go_ret2;exact⟨by rw[<-ES.out];rfl,X5.out⟩
 ·rw[J9 h]
  generalize (Zs i p).1=b at *;generalize (Zs i p).2=er at *;have e1:(er != 0)=true:=by simpa using h
  replace BO:=Hd BO;clear h rg K hT hS hP ip B1 KN;go_enter Tryz.func18,Tryz.ntmps18;go_wp2_with (fail);refine(BO.out _ (by(repeat (first | assumption | exact Ext.rf _ | apply Ext.drew | apply Ext.drewN | apply Ext.alloc)))).mono ?_;rintro e w1 ⟨rfl,x1⟩;have X1:=Hd (Ext.tr (a:=w) (by(repeat (first | assumption | exact Ext.rf _ | apply Ext.drew | apply Ext.drewN | apply Ext.alloc))) x1);clear x1;go_wp2_with (fail);go_ret2;exact⟨rfl,X1.out⟩
theorem Za0 (i:InstP)(us:List Value)(P:Option Addr)(c:Nat)(p:List Int)(w:World)(H:RInst w us i)(ok:KnapOk i)(hP:RdI w P p)(lp:p.length<=1000000000) :
  Calls Tryz.prog 97 #[.agg (List.toArray us),.slice P p.length c] w fun e w'=>e=.returned (JH (Wc i.cap (wsP i) (vsP i) p))/\Ext w w':=by
 have K:=kok ok;have lN:=Ws ok;have ST:=fun(W:World) (x:Ext w W)=>ZaQ i us P c p W (H.ext x) ok (hP.ext x) lp
 have LM:∀ k q,(Yd i)[k]?=some q->q<i.weight.length/\q<i.value.length:=fun k q h=>by
  have h1:=WZ h;have:=ok.w;have:=ok.v;omega
 have EW:∀ k q x,(Yd i)[k]?=some q->i.weight[q]?=some x->(wsP i)[k]?=some x:=fun k q x h1 h2=>XG h1 h2
 have EV:∀ k q x,(Yd i)[k]?=some q->i.value[q]?=some x->(vsP i)[k]?=some x:=fun k q x h1 h2=>XG h1 h2
 have K1:=K.cap;have K2:=K.l64;have K3:=K.lw;have K4:=K.lv;have K5:=K.sw;have K6:=K.sv;generalize Yd i=l at *;generalize wsP i=ws at *;generalize vsP i=vs at *;clear K ok;obtain⟨kind,nn,cap,xw,xv,co⟩:=i;obtain⟨A,a,B,b,D,d,rfl,⟨rA,iA,lA,mA⟩,⟨rB,iB,lB,mB⟩,-⟩:=H;simp only at *;obtain⟨n,rfl⟩:∃ n:Nat,nn=(n:Int):=⟨nn.toNat,by omega⟩;have hn:l.length=n:=by omega
 clear lN;have hn2:n<=64:=by omega
 replace ST:=Hd ST;replace LM:=Hd LM;replace EW:=Hd EW;replace EV:=Hd EV;replace K3:=Hd K3;replace K4:=Hd K4;replace K5:=Hd K5;replace K6:=Hd K6;replace rA:=Hd rA;replace rB:=Hd rB;replace iA:=Hd iA;replace iB:=Hd iB;replace mA:=Hd mA;replace mB:=Hd mB;replace hn:=Hd hn;have B1:Hid (Blk (w.alloc (.cells #[.int .i64 kind,.int .i64 n,.int .i64 cap,.slice A xw.length a,.slice B xv.length b,.slice D co.length d] 25)) w.heap.size 25 #[.int .i64 kind,.int .i64 n,.int .i64 cap,.slice A xw.length a,.slice B xv.length b,.slice D co.length d]):=.new rfl;obtain⟨bd,hbd⟩:∃ bd,Hid (Wc cap ws vs p=bd):=⟨_,rfl⟩;rw[hbd.out];have HK:∀ o,stP cap 0 ws vs p=o->bd=(match o with
  | none=>(0,1)
  | some (room,out)=>(out+Zi (vs.drop p.length)-Zu room (ws.drop p.length) (vs.drop p.length),0)):=fun o ho=>by subst ho;exact hbd.out.symm
 have HL:Hid (∀ q,stP cap 0 ws vs p=some q->p.length<=n):=fun q hq=>by
  by_cases h:ws.length<p.length
  ·rw[Wx h] at hq;cases hq
  ·have h3:=K3.out;have h4:=hn.out;omega
 replace HK:=Hd HK;obtain⟨st,hst⟩:∃ st,Hid (stP cap 0 ws vs p=st):=⟨_,rfl⟩;rw[hst.out] at ST;have HK2:=HK.out _ hst.out;clear HK hbd;rcases st with _ | ⟨room,out⟩
 ·simp only at HK2
  subst HK2;go_enter Tryz.func97,Tryz.ntmps97;go_wp2_with (fail);refine(ST.out _ (by(repeat (first | assumption | exact Ext.rf _ | apply Ext.drew | apply Ext.drewN | apply Ext.alloc)))).mono ?_;rintro e w1 ⟨x1,rfl⟩;have X1:=Ext.tr (a:=w) (by(repeat (first | assumption | exact Ext.rf _ | apply Ext.drew | apply Ext.drewN | apply Ext.alloc))) x1;go_wp2;go_ret2;exact⟨rfl,X1⟩
 ·simp only at HK2
  have hle:=HL.out _ hst.out;have bR:=UP (fun x hx=>(K5.out x hx).1) K1.1 hst.out;have bO:=QY K6.out hst.out;obtain⟨T,hT⟩:∃ T,Hid (T=Zi (vs.drop p.length)):=⟨_,rfl⟩;obtain⟨G,hG⟩:∃ G,Hid (G=Zu room (ws.drop p.length) (vs.drop p.length)):=⟨_,rfl⟩;rw[<-hT.out,<-hG.out] at HK2;subst HK2;have bT:=UC K6.out p.length;have b0:0<=G:=by
   rw[hG.out];exact YG bR.1 (fun x hx=>(K5.out x (List.mem_of_mem_drop hx)).1) (fun x hx=>(K6.out x (List.mem_of_mem_drop hx)).1)
  have b9:G<=T:=by
   rw[hG.out,hT.out];exact Wd bR.1 (fun x hx=>(K5.out x (List.mem_of_mem_drop hx)).1) (fun x hx=>(K6.out x (List.mem_of_mem_drop hx)).1)
  have bT2:T<=137438953408:=by
   have h3:=K4.out;have h4:=hn.out;rw[<-hT.out] at bT;have:=bT.2;omega
  clear bT;obtain⟨bR1,bR2⟩:=bR;obtain⟨bO1,bO2⟩:=bO;obtain⟨kc1,kc2⟩:=K1;go_enter Tryz.func97,Tryz.ntmps97;go_wp2_with (fail);refine(ST.out _ (by(repeat (first | assumption | exact Ext.rf _ | apply Ext.drew | apply Ext.drewN | apply Ext.alloc)))).mono ?_;rintro e w1 ⟨x1,LA,lc,rfl,rL⟩;have X1:=Hd (Ext.tr (a:=w) (by(repeat (first | assumption | exact Ext.rf _ | apply Ext.drew | apply Ext.drewN | apply Ext.alloc))) x1);have BB:=Hd (B1.out.ext x1);have d1:=BB.out.c1;have d3:=BB.out.c3;have d4:=BB.out.c4;have zb:=BB.out.lt;replace rL:=Hd rL;clear x1;go_wp2_with (fail);go_loopw [7,10,11,12,13] (fun r t u m i wr=>∃ (k:Nat) (rm rest up:Int) (more:Bool),i=.int .i64 k/\r=.int .i64 rm/\t=.int .i64 rest/\u=.int .i64 up/\m=.bool more/\k<=n/\0<=rm/\rm<=2147483647/\0<=rest/\rest<=2147483647*(k:Int)/\0<=up/\up<=rest /\
    Hid (T=rest+Zi (vs.drop k))/\Hid (if more=true then G=up+Zu rm (ws.drop k) (vs.drop k) else G=up)/\Ext w1 wr) (fun _ _ _ _ i _=>n-(intOf i).toNat)
  case atStart=>exact⟨p.length,room,0,0,true,rfl,rfl,rfl,rfl,rfl,hle,bR1,by omega,by omega,by omega,by omega,by omega,by rw[Int.zero_add];exact hT,by
   have h:G=0+Zu room (ws.drop p.length) (vs.drop p.length):=by rw[Int.zero_add];exact hG.out
   exact h,Ext.rf _⟩
  case round =>
   obtain⟨wo,rfl⟩:∃ wo:World,wo=wr:=⟨_,rfl⟩;obtain⟨k,rm,rest,up,more,rfl,rfl,rfl,rfl,rfl,hk,q1,q2,q3,q4,q5,q6,HT,HG,Y⟩:=hrel;have e1:=Ze Y zb d1
   by_cases hlt:k<n
   ·have hkl:k<l.length:=by rw[hn.out];exact hlt
    obtain⟨q,hq0⟩:∃ q,Hid (l[k]?=some q):=⟨l[k],List.getElem?_eq_getElem hkl⟩;obtain⟨qb,qo,qi,rfl,zq,cq,eq,_⟩:=(rL.out.ext Y).at (k:=k) (by rw[ZF];exact hkl);obtain rfl:qi=(q:Int):=by
     have h1:=Zam hq0.out;rw[eq.out] at h1;exact Option.some.inj h1
    obtain⟨hqw,hqv⟩:=LM.out k q hq0.out;obtain⟨wb,wo',u,rfl,zu,cu,eu,_⟩:=(rA.out.ext (X1.out.tr Y)).at hqw;obtain⟨vb,vo',v,rfl,zv,cv,ev,_⟩:=(rB.out.ext (X1.out.tr Y)).at hqv;have du:Hid (ws.drop k=u::ws.drop (k+1)):=by
     obtain⟨h1,h2⟩:=List.getElem?_eq_some_iff.1 (EW.out k q u hq0.out eu.out);exact(by rw[List.drop_eq_getElem_cons h1,h2]:ws.drop k=u::ws.drop (k+1))
    have dv:Hid (vs.drop k=v::vs.drop (k+1)):=by
     obtain⟨h1,h2⟩:=List.getElem?_eq_some_iff.1 (EV.out k q v hq0.out ev.out);exact(by rw[List.drop_eq_getElem_cons h1,h2]:vs.drop k=v::vs.drop (k+1))
    have bu:=K5.out.get (EW.out k q u hq0.out eu.out);have bv:=K6.out.get (EV.out k q v hq0.out ev.out);have e3:=Ze Y zb d3;have e4:=Ze Y zb d4;have qi1:(q:Int)<(xw.length:Int):=by omega
    have qi2:(q:Int)<(xv.length:Int):=by omega
    have qi3:(k:Int)<(l.length:Int):=by omega
    have HT2:Hid (T=(rest+v)+Zi (vs.drop (k+1))):=by
     have h:=HT.out;rw[dv.out] at h;simp only[Zi] at h;have h2:T=(rest+v)+Zi (vs.drop (k+1)):=by omega
     exact h2
    clear HT eu ev eq
    cases more with
    | false =>
     have hG2:(if (false:Bool)=true then G=up+Zu rm (ws.drop (k+1)) (vs.drop (k+1)) else G=up):=by
      have h:=HG.out;rw[if_neg (by decide)] at h ⊢;exact h
     have HG2:=Hd hG2;clear hG2 HG du dv;go_wp2_with (go_quiet (fail));go_roundw
     case rel=>exact⟨k+1,rm,rest+v,up,false,by go_num,rfl,rfl,rfl,rfl,by omega,by omega,by omega,by omega,by omega,by omega,by omega,HT2,HG2,by repeat (first | exact Y | apply Ext.drewN)⟩
     case measure=>simp[intOf];omega
    | true =>
     have hG1:G=up+Zu rm (u::ws.drop (k+1)) (v::vs.drop (k+1)):=by
      have h:=HG.out;rw[if_pos rfl,du.out,dv.out] at h;exact h
     replace hG1:=Hd hG1;clear HG du dv
     by_cases hle2:u<=rm
     ·have hG2:(if (true:Bool)=true then G=(up+v)+Zu (rm-u) (ws.drop (k+1)) (vs.drop (k+1)) else G=up+v):=by
       have h:=hG1.out;rw[Zu,if_neg (by omega),<-Int.add_assoc] at h;rw[if_pos rfl];exact h
      have HG2:=Hd hG2;clear hG2;go_wp2_with (go_quiet (fail));go_roundw
      case rel=>exact⟨k+1,rm-u,rest+v,up+v,true,by go_num,rfl,rfl,rfl,rfl,by omega,by omega,by omega,by omega,by omega,by omega,by omega,HT2,HG2,by repeat (first | exact Y | apply Ext.drewN)⟩
      case measure=>simp[intOf];omega
     ·have hm:=Wl bv.1 bv.2 q1 q2
      have hpos:0<u:=by omega
      have hqv2:v*rm / u<=v:=by
       have h1:v*rm<=v*u:=Int.mul_le_mul_of_nonneg_left (by omega) bv.1;have h2:v*rm / u<=v*u / u:=Int.ediv_le_ediv hpos h1
       rwa [Int.mul_ediv_cancel _ (by omega)] at h2
      have hq0':0<=v*rm / u:=Int.ediv_nonneg hm.1 (by omega);have hG2:(if (false:Bool)=true then G=(up+v*rm / u)+Zu rm (ws.drop (k+1)) (vs.drop (k+1)) else G=up+v*rm / u):=by
       have h:=hG1.out;rw[Zu,if_pos (by omega)] at h;rw[if_neg (by decide)];exact h
      have HG2:=Hd hG2;clear hG2;obtain⟨z,hz⟩:∃ z,Hid (z=v*rm / u):=⟨_,rfl⟩;rw[<-hz.out] at hqv2 hq0' HG2;have w1':wrap64 (v*rm)=v*rm:=IntWalk.wrap64_in _ ⟨by omega,by omega⟩;have w2':(v*rm).tdiv u=z:=by rw[Int.tdiv_eq_ediv_of_nonneg hm.1,hz.out]
      have w3':v*rm / u=z:=hz.out.symm;clear hm;go_wp2_with (go_quiet (fail));go_roundw
      case rel=>exact⟨k+1,rm,rest+v,up+z,false,by go_num,rfl,rfl,rfl,rfl,by omega,by omega,by omega,by omega,by omega,by omega,by omega,HT2,HG2,by repeat (first | exact Y | apply Ext.drewN)⟩
      case measure=>simp[intOf];omega
   ·obtain rfl:k=n:=by omega
    have HT2:Hid (rest=T):=by
     have h:=HT.out;rw[List.drop_of_length_le (l:=vs) (i:=k) (by have h3:=K4.out;have h4:=hn.out;omega)] at h;simp only[Zi] at h;have h2:rest=T:=by omega
     exact h2
    have HG2:Hid (up=G):=by
     have h:=HG.out;rw[List.drop_of_length_le (l:=ws) (i:=k) (by have h3:=K3.out;have h4:=hn.out;omega)] at h;have h0:Zu rm [] (vs.drop k)=0:=by cases vs.drop k<;>rfl
     rw[h0,Int.add_zero] at h;have h2:up=G:=by
      cases more with
      | true=>rw[if_pos rfl] at h;exact h.symm
      | false=>rw[if_neg (by decide)] at h;exact h.symm
     exact h2
    obtain rfl:=HT2.out;obtain rfl:=HG2.out;clear HT HG hT hG HT2 HG2;go_wp2_with (fail);go_ret2;exact⟨rfl,X1.out.tr Y⟩
theorem ZdT (i:InstP)(us:List Value)(P:Option Addr)(c:Nat)(p:List Int)(w:World)(H:RInst w us i)(hc:Zn i=0)(hk:i.kind=1)(hP:RdI w P p)(lp:p.length<=1000000000) :
  Calls Tryz.prog 51 #[.agg (List.toArray us),.slice P p.length c] w fun e w'=>e=.returned (.tuple #[.int .i64 (Zs i p).1,.int .i64 (Zs i p).2])/\Ext w w':=by
 have e:Zs i p=Wc i.cap (wsP i) (vsP i) p:=by unfold Zs;rw[if_pos hk]
 have KI:Hid (∀ W,Ext w W->Calls Tryz.prog 97 #[.agg (List.toArray us),.slice P p.length c] W fun e w'=>e=.returned (.tuple #[.int .i64 (Zs i p).1,.int .i64 (Zs i p).2])/\Ext W w'):=fun W x=>by
  refine(Za0 i us P c p W (H.ext x) (YL hc hk) (hP.ext x) lp).mono ?_;rintro e1 w1 ⟨rfl,x1⟩;exact⟨by first | (rw[e];done) | (rw[e];rfl),x1⟩
 clear e hc;generalize (Zs i p).1=l at *;generalize (Zs i p).2=er at *;obtain⟨kind,nn,cap,xw,xv,co⟩:=i;obtain⟨A,a,B,b,D,d,rfl,-,-,-⟩:=H;simp only at *;subst hk;go_enter Tryz.func51,Tryz.ntmps51;go_wp2_with (fail);refine(KI.out _ (by(repeat (first | assumption | exact Ext.rf _ | apply Ext.drew | apply Ext.drewN | apply Ext.alloc)))).mono ?_;rintro e w1 ⟨rfl,x1⟩;have X1:=Hd (Ext.tr (a:=w) (by(repeat (first | assumption | exact Ext.rf _ | apply Ext.drew | apply Ext.drewN | apply Ext.alloc))) x1);clear x1 KI;go_wp2_with (fail);go_ret2;exact⟨rfl,X1.out.tr (by(repeat (first | assumption | exact Ext.rf _ | apply Ext.drew | apply Ext.drewN | apply Ext.alloc)))⟩
theorem ZdU (i:InstP)(us:List Value)(P:Option Addr)(c:Nat)(p:List Int)(w:World)(H:RInst w us i)(hc:Zn i=0)(hk:i.kind=2)(hP:RdI w P p)(lp:p.length<=1000000000) :
  Calls Tryz.prog 51 #[.agg (List.toArray us),.slice P p.length c] w fun e w'=>e=.returned (.tuple #[.int .i64 (Zs i p).1,.int .i64 (Zs i p).2])/\Ext w w':=by
 have e:Zs i p=Yj i.cost p:=by unfold Zs;rw[if_neg (by omega),if_pos hk]
 have KI:Hid (∀ W,Ext w W->Calls Tryz.prog 98 #[.agg (List.toArray us),.slice P p.length c] W fun e w'=>e=.returned (.tuple #[.int .i64 (Zs i p).1,.int .i64 (Zs i p).2])/\Ext W w'):=fun W x=>by
  refine(Q8 i us P c p W (H.ext x) (ZG hc (by omega)) (hP.ext x) lp).mono ?_;rintro e1 w1 ⟨rfl,x1⟩;exact⟨by first | (rw[e];done) | (rw[e];rfl),x1⟩
 clear e hc;generalize (Zs i p).1=l at *;generalize (Zs i p).2=er at *;obtain⟨kind,nn,cap,xw,xv,co⟩:=i;obtain⟨A,a,B,b,D,d,rfl,-,-,-⟩:=H;simp only at *;subst hk;go_enter Tryz.func51,Tryz.ntmps51;go_wp2_with (fail);refine(KI.out _ (by(repeat (first | assumption | exact Ext.rf _ | apply Ext.drew | apply Ext.drewN | apply Ext.alloc)))).mono ?_;rintro e w1 ⟨rfl,x1⟩;have X1:=Hd (Ext.tr (a:=w) (by(repeat (first | assumption | exact Ext.rf _ | apply Ext.drew | apply Ext.drewN | apply Ext.alloc))) x1);clear x1 KI;go_wp2_with (fail);go_ret2;exact⟨rfl,X1.out.tr (by(repeat (first | assumption | exact Ext.rf _ | apply Ext.drew | apply Ext.drewN | apply Ext.alloc)))⟩
theorem ZdV (i:InstP)(us:List Value)(P:Option Addr)(c:Nat)(p:List Int)(w:World)(H:RInst w us i)(hc:Zn i=0)(hk:i.kind=3)(hP:RdI w P p)(lp:p.length<=1000000000) :
  Calls Tryz.prog 51 #[.agg (List.toArray us),.slice P p.length c] w fun e w'=>e=.returned (.tuple #[.int .i64 (Zs i p).1,.int .i64 (Zs i p).2])/\Ext w w':=by
 have e:Zs i p=Ym i.cost (Xy i.cost) p:=by unfold Zs;rw[if_neg (by omega),if_neg (by omega)]
 have KI:Hid (∀ W,Ext w W->Calls Tryz.prog 99 #[.agg (List.toArray us),.slice P p.length c] W fun e w'=>e=.returned (.tuple #[.int .i64 (Zs i p).1,.int .i64 (Zs i p).2])/\Ext W w'):=fun W x=>by
  refine(Jb i us P c p W (H.ext x) (ZG hc (by omega)) (hP.ext x) lp).mono ?_;rintro e1 w1 ⟨rfl,x1⟩;exact⟨by first | (rw[e];done) | (rw[e];rfl),x1⟩
 clear e hc;generalize (Zs i p).1=l at *;generalize (Zs i p).2=er at *;obtain⟨kind,nn,cap,xw,xv,co⟩:=i;obtain⟨A,a,B,b,D,d,rfl,-,-,-⟩:=H;simp only at *;subst hk;go_enter Tryz.func51,Tryz.ntmps51;go_wp2_with (fail);refine(KI.out _ (by(repeat (first | assumption | exact Ext.rf _ | apply Ext.drew | apply Ext.drewN | apply Ext.alloc)))).mono ?_;rintro e w1 ⟨rfl,x1⟩;have X1:=Hd (Ext.tr (a:=w) (by(repeat (first | assumption | exact Ext.rf _ | apply Ext.drew | apply Ext.drewN | apply Ext.alloc))) x1);clear x1 KI;go_wp2_with (fail);go_ret2;exact⟨rfl,X1.out.tr (by(repeat (first | assumption | exact Ext.rf _ | apply Ext.drew | apply Ext.drewN | apply Ext.alloc)))⟩
theorem Zdu (i:InstP)(us:List Value)(P:Option Addr)(c:Nat)(p:List Int)(w:World)(H:RInst w us i)(hc:Zn i=0)(hP:RdI w P p)(lp:p.length<=1000000000) :
  Calls Tryz.prog 51 #[.agg (List.toArray us),.slice P p.length c] w fun e w'=>e=.returned (.tuple #[.int .i64 (Zs i p).1,.int .i64 (Zs i p).2])/\Ext w w':=by
 rcases YW hc with h | h | h
 ·exact ZdT i us P c p w H hc h hP lp
 ·exact ZdU i us P c p w H hc h hP lp
 ·exact ZdV i us P c p w H hc h hP lp
theorem Zdv (P:Program)(t:TypeId)(a b:Txt)(h:a.length+b.length<=1000000)(u:World) : (binOp .add t (.string ⟨a.toArray⟩) (.string ⟨b.toArray⟩)).run P u=.ok (.string ⟨(a++b).toArray⟩) u:=by
 rw[binOp_string_add,run_string_add_sum _ _ _ (by simp[ByteArray.size];omega)]
 congr 2
theorem ZO {P:Program}{ops:Array Oper}{i:Nat}{T T2 t:TypeId}{x y:Operand}{d:Option Tmp}{A:Act}{w:World}{K:Act->World->Prop}{Q:Exit->Act->World->Prop}(hi:W5 ops i=some (none,.binOp .add T x y T2,t,d))(a b:Txt)(hx:A.eval x=.string ⟨a.toArray⟩)(hy:A.eval y=.string ⟨b.toArray⟩)(hl:a.length+b.length<=1000000)(hK:K (A.put d (.string ⟨(a++b).toArray⟩)) w) : wpOp P ops Q i K A w :=
 Zz hi _ (by simp[Zd,execOp,hx,hy,eqGuard,Zdv P T a b hl]) hK
theorem Uj (a b:Txt) : (⟨a.toArray⟩:ByteArray)++⟨b.toArray⟩=⟨(a++b).toArray⟩:=by
 refine ByteArray.ext ?_;simp
theorem Zab (i:InstP)(us:List Value)(n:Int)(P:Option Addr)(c:Nat)(p:List Int)(w:World)(H:RInst w us i)(hc:Zn i=0)(hP:RdI w P p)(ip:Ints p)(lp:p.length<=1000) :
  Calls Tryz.prog 20 #[.agg (List.toArray us),.agg #[.int .i64 n,.slice P p.length c]] w fun e w'=>e=.returned (.tuple #[txS (XY i n p).1,.int .i64 (XY i n p).2])/\Ext w w':=by
 have BO:=fun(W:World) (y:Ext w W)=>Zdu i us P c p W (H.ext y) hc (hP.ext y) (by omega)
 have rg:=Qu hc p;have LK:=Hd (fun h:(Zs i p).2=0=>fun hn:n<1\/3<n=>Qv h hn);have LY:=Hd (fun h:(Zs i p).2=0=>fun hn:¬(n<1\/3<n)=>QX h hn);have LN:=Hd (fun h:(Zs i p).2≠0=>J9 (n:=n) h);unfold txS;generalize XY i n p=LL at *;generalize (Zs i p).1=b at *;generalize (Zs i p).2=er at *;clear hc;obtain⟨kind,nn,cap,xw,xv,co⟩:=i;obtain⟨A,a,B,b2,D,d,rfl,-,-,-⟩:=H;simp only at *;have B1:Hid (Blk ((w.alloc (.cells #[.int .i64 kind,.int .i64 nn,.int .i64 cap,.slice A xw.length a,.slice B xv.length b2,.slice D co.length d] 25)).alloc (.cells #[.int .i64 n,.slice P p.length c] 41)) (w.heap.size+1) 41 #[.int .i64 n,.slice P p.length c]):=.new (by simp)
 by_cases h:er=0
 ·subst h
  by_cases hn:n<1\/3<n
  ·rw[LK.out rfl hn]
   replace BO:=Hd BO;have hn2:Hid (n<1\/3<n):=hn;clear LK LY LN rg hP ip
   by_cases h1:n<1
   all_goals
    have h3:Hid (n<1\/3<n):=hn;clear hn
    try (have h4:3<n:=(hn2.out.resolve_left h1))
    go_enter Tryz.func20,Tryz.ntmps20;go_wp2_with (fail);refine(BO.out _ (by(repeat (first | assumption | exact Ext.rf _ | apply Ext.drew | apply Ext.drewN | apply Ext.alloc)))).mono ?_;rintro e w1 ⟨rfl,x1⟩;have X1:=Hd (Ext.tr (a:=w) (by(repeat (first | assumption | exact Ext.rf _ | apply Ext.drew | apply Ext.drewN | apply Ext.alloc))) x1);have b1:=B1.out.ext x1;have t0:=b1.c0;have t1:=b1.c1;clear x1 b1 B1;go_wp2_with (fail);go_ret2;exact⟨rfl,X1.out.tr (by(repeat (first | assumption | exact Ext.rf _ | apply Ext.drew | apply Ext.drewN | apply Ext.alloc)))⟩
  ·rw[LY.out rfl hn]
   have h1:¬n<1:=fun h=>hn (.inl h)
   have h3:¬3<n:=fun h=>hn (.inr h)
   have WB:=Hd (fun(W:World)=>Yp b rg.1 rg.2 W);have lb:=Lib.itoa_length_le _ rg.1 rg.2;have lr:∀ k:Nat,(Lib.repeatL ([32,32]:Txt) k).length=2*k:=Jd;have SN:∀ k:Nat,(⟨(Lib.repeatL ([32,32]:Txt) k).toArray⟩:ByteArray)++⟨#[32,32]⟩=⟨(Lib.repeatL ([32,32]:Txt) (k+1)).toArray⟩:=fun k=>by rw[<-Zaa,<-Uj]
   replace lr:=Hd lr;replace SN:=Hd SN;replace BO:=Hd BO;clear LK LY LN hn;go_enter Tryz.func20,Tryz.ntmps20;go_wp2_with (fail);refine(BO.out _ (by(repeat (first | assumption | exact Ext.rf _ | apply Ext.drew | apply Ext.drewN | apply Ext.alloc)))).mono ?_;rintro e w1 ⟨rfl,x1⟩;have X1:=Hd (Ext.tr (a:=w) (by(repeat (first | assumption | exact Ext.rf _ | apply Ext.drew | apply Ext.drewN | apply Ext.alloc))) x1);have b1:=Hd (B1.out.ext x1);have t0:=b1.out.c0;have t1:=b1.out.c1;clear x1 B1 BO;go_wp2_with (fail);clear t0 t1;go_loopw [8,9] (fun v8 v9 wr=>∃ k:Nat,v8=.string ⟨(Lib.repeatL ([32,32]:Txt) k).toArray⟩/\v9=.int .i64 k/\k<=p.length/\Hid (Ext w1 wr)) (fun _ v9 _=>p.length-(intOf v9).toNat)
   case atStart=>exact⟨0,rfl,rfl,by omega,by(repeat (first | assumption | exact Ext.rf _ | apply Ext.drew | apply Ext.drewN | apply Ext.alloc))⟩
   case round =>
    obtain⟨wo,rfl⟩:∃ wo:World,wo=wr:=⟨_,rfl⟩;obtain⟨k,rfl,rfl,hk,Y⟩:=hrel;have bb:=Hd (b1.out.ext Y.out);have X2:=Hd (X1.out.tr Y.out);have d0:=bb.out.c0;have d1:=bb.out.c1;have lk:¬9223372036854775807<(Lib.repeatL ([32,32]:Txt) k).length+2:=by have:=lr.out k;omega
    by_cases hkl:(k:Int)<(p.length:Int)
    ·go_wp2_with (fail)
     go_roundw
     case rel=>exact⟨k+1,by rw[<-SN.out k],by go_num,by omega,Y.out.tr (by(repeat (first | assumption | exact Ext.rf _ | apply Ext.drew | apply Ext.drewN | apply Ext.alloc)))⟩
     case measure=>(simp only[intOf];omega)
    ·obtain rfl:k=p.length:=by omega
     have lt:=lr.out p.length;have zB:=bb.out.lt;have LT:Hid (Qt n p b=Lib.repeatL [32,32] p.length++W9 p++[32]++Xh n++[32,97,116,32]++Lib.itoa b):=Hd rfl;have NM:Hid (W9 p=if p.length=0 then [114,111,111,116] else Lib.itoa (p.getD (p.length-1) 0)):=Hd rfl;generalize hlt:Qt n p b=LTX at *;generalize hnm:W9 p=nx at *;replace hlt:=Hd hlt;replace hnm:=Hd hnm;clear lr SN;have hn3:n=1\/n=2\/n=3:=by omega
     clear h1 h3 lk;generalize Lib.repeatL ([32,32]:Txt) p.length=tr at *
     by_cases hp:p.length=0
     ·have hp0:((p.length:Int)==0)=true:=by rw[beq_iff_eq];omega
      rw[if_pos hp] at NM;obtain⟨PX,hPX⟩:∃ PX,tr++nx=PX:=⟨_,rfl⟩;rw[hPX] at LT;have e0:(⟨tr.toArray⟩:ByteArray)++⟨#[114,111,111,116]⟩=⟨PX.toArray⟩:=by rw[<-hPX,NM.out,show (#[114,111,111,116]:Array UInt8)=[114,111,111,116].toArray from rfl,Uj]
      have lPX:PX.length<=3000:=by rw[<-hPX,NM.out,List.length_append,List.length_cons,List.length_cons,List.length_cons,List.length_cons,List.length_nil];omega
      have lA:¬9223372036854775807<tr.length+4:=by omega
      replace hPX:=Hd hPX;clear NM hnm hP ip;replace e0:=Hd e0;rcases hn3 with rfl | rfl | rfl
      ·have kw:Hid (Xh 1=[112,114,117,110,101,100]):=Hd rfl
       rw[kw.out] at LT;go_wp2_with (fail);rw[e0.out];refine wp_region_any (by kernel_rfl) ?_
       change wpAny _ _ _ _ _ _ _ (World.drew _)
       refine Zc (i:=0) (op:=Op.move (Operand.tmp 8)) (t:=9) (d:=some 53) (v:=?_) rfl (by decide +kernel) (by decide +kernel) (by decide +kernel) (fun _ _ _ h=>h) ?_ ?_
       case refine_2=>(intro _;unfold Zd;go_simp;try with_reducible rfl)
       try simp only[lay]
       refine Zc (i:=3) (op:=Op.fieldAddr 41 (Operand.tmp 3) 0) (t:=0) (d:=some 56) (v:=?_) rfl (by decide +kernel) (by decide +kernel) (by decide +kernel) (fun _ _ _ h=>h) ?_ ?_
       case refine_2=>(intro _;unfold Zd;go_simp;try with_reducible rfl)
       try simp only[lay]
       refine Zc (i:=10) (op:=Op.move (Operand.tmp 6)) (t:=3) (d:=some 63) (v:=?_) rfl (by decide +kernel) (by decide +kernel) (by decide +kernel) (fun _ _ _ h=>h) ?_ ?_
       case refine_2=>(intro _;unfold Zd;go_simp;try with_reducible rfl)
       try simp only[lay]
       refine Zv (n:=2) [(1,some 54),(2,some 55),(4,some 57),(5,some 58),(6,some 59),(7,some 60),(8,some 61),(9,some 62),(11,some 64),(12,some 65)] (Ext wo) (VF (fun | 1=>some (.string ⟨(PX++[32]).toArray⟩) | 4=>some (.int .i64 1) | 5=>some (.int .i64 0) | 7=>some (.string ⟨([112,114,117,110,101,100]).toArray⟩) | 8=>some (.string ⟨((PX++[32])++[112,114,117,110,101,100]).toArray⟩) | 9=>some (.string ⟨(((PX++[32])++[112,114,117,110,101,100])++[32,97,116,32]).toArray⟩) | 11=>some (.string ⟨(Lib.itoa b).toArray⟩) | 12=>some (.string ⟨((((PX++[32])++[112,114,117,110,101,100])++[32,97,116,32])++Lib.itoa b).toArray⟩) | _=>none) (fun i v W=>(i=2->∃ z,v=.slice (some ⟨z,0,none⟩) 3 3/\Blk W z 9 #[.string ⟨#[112,114,117,110,101,100]⟩,.string ⟨#[98,114,97,110,99,104]⟩,.string ⟨#[108,101,97,102]⟩])/\(i=6->∃ z,v=.pointer (some ⟨z,0,none⟩)/\Blk W z 9 #[.string ⟨#[112,114,117,110,101,100]⟩,.string ⟨#[98,114,97,110,99,104]⟩,.string ⟨#[108,101,97,102]⟩]))) Ext #[true,true,true,true,true,true,true,true,true,true,true,true,true,false,false] (by decide +kernel) (VF.stab ?_) ?_ ?_ (by first | exact(Ext.rf _).drew | exact Ext.rf _)
       ·intro j v W W' _ gz hx
        obtain⟨g0,g1⟩:=gz;exact⟨fun h=>(g0 h).imp fun z hz=>⟨hz.1,hz.2.ext hx⟩,fun h=>(g1 h).imp fun z hz=>⟨hz.1,hz.2.ext hx⟩⟩
       ·intro pS hpm uS wS hRW hD K hK
        simp only[List.mem_cons,List.not_mem_nil,or_false] at hpm;rcases hpm with rfl | rfl | rfl | rfl | rfl | rfl | rfl | rfl | rfl | rfl
        ·( exact ZO (t:=9) (d:=some 54) rfl (PX) ([32]) (by kernel_rfl) (by kernel_rfl) (by simp only[List.length_append,List.length_cons,List.length_nil];omega) (hK _ _ (VF.mk rfl) hRW (Ext.rf _)))
        ·( exact Zz (op:=Op.buildSlice 91 3 #[(0,Operand.const (Value.string { data:=#[112,114,117,110,101,100] })),(1,Operand.const (Value.string { data:=#[98,114,97,110,99,104] })),(2,Operand.const (Value.string { data:=#[108,101,97,102] }))]) (t:=91) (d:=some 55) rfl _ (by unfold Zd;go_simp;try rfl) (hK _ _ (VF.mg rfl ⟨(fun _=>⟨_,rfl,.new rfl⟩),(fun h=>absurd h (by decide))⟩) (hRW.alloc _) ((Ext.rf _).alloc _)))
        ·( have rX:=Ze hRW zB d0;exact Zr (T:=3) (x:=Operand.tmp 56) (t:=3) (d:=some 57) rfl (.pointer (some ⟨w.heap.size+1,0,none⟩)) (by kernel_rfl) (.int .i64 1) (by go_simp) (hK _ _ (VF.mk rfl) hRW (Ext.rf _)))
        ·(have e4:uS 4=.int .i64 1:=(hD 4 (Zf (by kernel_rfl))).k rfl;exact Zz (op:=Op.binOp BinOp.sub 3 (Operand.tmp 57) (Operand.const (Value.int IntKind.i64 1)) 3) (t:=3) (d:=some 58) rfl (.int .i64 0) (by simp only[Zj,Act.put,List.setIfInBounds_toArray,List.set_cons_zero,List.set_cons_succ];unfold Zd;(try go_simp);(try simp only[e4]);(try go_simp);(try rfl);(try (exact IntWalk.i64_in _ (by omega)))) (hK _ _ (VF.mk rfl) hRW (Ext.rf _)))
        ·(have e5:uS 5=.int .i64 0:=(hD 5 (Zf (by kernel_rfl))).k rfl;obtain⟨z,ez,bz⟩:=((hD 2 (Zf (by kernel_rfl))).g rfl).1 rfl;exact Yt (T:=91) (x:=Operand.tmp 55) (y:=Operand.tmp 58) (t:=0) (d:=some 59) rfl (.slice (some ⟨z,0,none⟩) 3 3) (.int .i64 0) (Eq.trans (b:=uS 2) (by kernel_rfl) ez) (Eq.trans (b:=uS 5) (by kernel_rfl) e5) (.pointer (some ⟨z,0,none⟩)) (by go_simp) (hK _ _ (VF.mg rfl ⟨(fun h=>absurd h (by decide)),(fun _=>⟨z,rfl,bz⟩)⟩) hRW (Ext.rf _)))
        ·(obtain⟨z,ez,bz⟩:=((hD 6 (Zf (by kernel_rfl))).g rfl).2 rfl;have rX:wS.cell? ⟨z,0,none⟩=some (.string ⟨([112,114,117,110,101,100]).toArray⟩):=bz.cell 0;exact Zr (T:=9) (x:=Operand.tmp 59) (t:=9) (d:=some 60) rfl (.pointer (some ⟨z,0,none⟩)) (Eq.trans (b:=uS 6) (by kernel_rfl) ez) (.string ⟨([112,114,117,110,101,100]).toArray⟩) (by go_simp) (hK _ _ (VF.mk rfl) hRW (Ext.rf _)))
        ·(have e1:uS 1=.string ⟨(PX++[32]).toArray⟩:=(hD 1 (Zf (by kernel_rfl))).k rfl;have e7:uS 7=.string ⟨([112,114,117,110,101,100]).toArray⟩:=(hD 7 (Zf (by kernel_rfl))).k rfl;exact ZO (t:=9) (d:=some 61) rfl ((PX++[32])) ([112,114,117,110,101,100]) (Eq.trans (b:=uS 1) (by kernel_rfl) e1) (Eq.trans (b:=uS 7) (by kernel_rfl) e7) (by simp only[List.length_append,List.length_cons,List.length_nil];omega) (hK _ _ (VF.mk rfl) hRW (Ext.rf _)))
        ·(have e8:uS 8=.string ⟨((PX++[32])++[112,114,117,110,101,100]).toArray⟩:=(hD 8 (Zf (by kernel_rfl))).k rfl;exact ZO (t:=9) (d:=some 62) rfl (((PX++[32])++[112,114,117,110,101,100])) ([32,97,116,32]) (Eq.trans (b:=uS 8) (by kernel_rfl) e8) (by kernel_rfl) (by simp only[List.length_append,List.length_cons,List.length_nil];omega) (hK _ _ (VF.mk rfl) hRW (Ext.rf _)))
        ·( exact ZJ (f:=52) (xs:=#[Operand.tmp 63]) (ts:=#[3]) (t:=9) (d:=some 64) rfl #[.int .i64 b] (by go_simp) (by kernel_rfl) _ (Yp b rg.1 rg.2 _) (by rintro e w9 ⟨rfl,xx⟩;exact⟨_,rfl,hK _ _ (VF.mk rfl) (hRW.tr xx) xx⟩))
        ·(have e9:uS 9=.string ⟨(((PX++[32])++[112,114,117,110,101,100])++[32,97,116,32]).toArray⟩:=(hD 9 (Zf (by kernel_rfl))).k rfl;have e11:uS 11=.string ⟨(Lib.itoa b).toArray⟩:=(hD 11 (Zf (by kernel_rfl))).k rfl;exact ZO (t:=9) (d:=some 65) rfl ((((PX++[32])++[112,114,117,110,101,100])++[32,97,116,32])) (Lib.itoa b) (Eq.trans (b:=uS 9) (by kernel_rfl) e9) (Eq.trans (b:=uS 11) (by kernel_rfl) e11) (by simp only[List.length_append,List.length_cons,List.length_nil];omega) (hK _ _ (VF.mk rfl) hRW (Ext.rf _)))
       intro u w8 hR8 hV;have h1:=(hV (1,some 54) (by simp)).k rfl;have h4:=(hV (4,some 57) (by simp)).k rfl;have h5:=(hV (5,some 58) (by simp)).k rfl;have h7:=(hV (7,some 60) (by simp)).k rfl;have h8:=(hV (8,some 61) (by simp)).k rfl;have h9:=(hV (9,some 62) (by simp)).k rfl;have h11:=(hV (11,some 64) (by simp)).k rfl;have h12:=(hV (12,some 65) (by simp)).k rfl;simp only[Zj,h1,h4,h5,h7,h8,h9,h11,h12];clear hV h1 h4 h5 h7 h8 h9 h11 h12
       try simp only[lay]
       have X8:=Hd (X2.out.tr hR8);clear hR8
       try simp only[lay]
       refine Zc (i:=13) (op:=Op.assign (Operand.tmp 65)) (t:=9) (d:=some 4) (v:=?_) rfl (by decide +kernel) (by decide +kernel) (by decide +kernel) (fun _ _ _ h=>h) ?_ ?_
       case refine_2=>(intro _;unfold Zd;go_simp;try with_reducible rfl)
       try simp only[lay]
       refine Zc (i:=14) (op:=Op.assign (Operand.const (Value.int IntKind.i64 0))) (t:=30) (d:=some 5) (v:=?_) rfl (by decide +kernel) (by decide +kernel) (by decide +kernel) (fun _ _ _ h=>h) ?_ ?_
       case refine_2=>(intro _;unfold Zd;go_simp;try with_reducible rfl)
       try simp only[lay]
       refine wpAny_done (by kernel_rfl) ?_ _;go_simp;go_wp2_with (fail);go_ret2;exact⟨by rw[hlt.out.trans LT.out];simp,X8.out⟩
      ·have kw:Hid (Xh 2=[98,114,97,110,99,104]):=Hd rfl
       rw[kw.out] at LT;go_wp2_with (fail);rw[e0.out];refine wp_region_any (by kernel_rfl) ?_
       change wpAny _ _ _ _ _ _ _ (World.drew _)
       refine Zc (i:=0) (op:=Op.move (Operand.tmp 8)) (t:=9) (d:=some 53) (v:=?_) rfl (by decide +kernel) (by decide +kernel) (by decide +kernel) (fun _ _ _ h=>h) ?_ ?_
       case refine_2=>(intro _;unfold Zd;go_simp;try with_reducible rfl)
       try simp only[lay]
       refine Zc (i:=3) (op:=Op.fieldAddr 41 (Operand.tmp 3) 0) (t:=0) (d:=some 56) (v:=?_) rfl (by decide +kernel) (by decide +kernel) (by decide +kernel) (fun _ _ _ h=>h) ?_ ?_
       case refine_2=>(intro _;unfold Zd;go_simp;try with_reducible rfl)
       try simp only[lay]
       refine Zc (i:=10) (op:=Op.move (Operand.tmp 6)) (t:=3) (d:=some 63) (v:=?_) rfl (by decide +kernel) (by decide +kernel) (by decide +kernel) (fun _ _ _ h=>h) ?_ ?_
       case refine_2=>(intro _;unfold Zd;go_simp;try with_reducible rfl)
       try simp only[lay]
       refine Zv (n:=2) [(1,some 54),(2,some 55),(4,some 57),(5,some 58),(6,some 59),(7,some 60),(8,some 61),(9,some 62),(11,some 64),(12,some 65)] (Ext wo) (VF (fun | 1=>some (.string ⟨(PX++[32]).toArray⟩) | 4=>some (.int .i64 2) | 5=>some (.int .i64 1) | 7=>some (.string ⟨([98,114,97,110,99,104]).toArray⟩) | 8=>some (.string ⟨((PX++[32])++[98,114,97,110,99,104]).toArray⟩) | 9=>some (.string ⟨(((PX++[32])++[98,114,97,110,99,104])++[32,97,116,32]).toArray⟩) | 11=>some (.string ⟨(Lib.itoa b).toArray⟩) | 12=>some (.string ⟨((((PX++[32])++[98,114,97,110,99,104])++[32,97,116,32])++Lib.itoa b).toArray⟩) | _=>none) (fun i v W=>(i=2->∃ z,v=.slice (some ⟨z,0,none⟩) 3 3/\Blk W z 9 #[.string ⟨#[112,114,117,110,101,100]⟩,.string ⟨#[98,114,97,110,99,104]⟩,.string ⟨#[108,101,97,102]⟩])/\(i=6->∃ z,v=.pointer (some ⟨z,1,none⟩)/\Blk W z 9 #[.string ⟨#[112,114,117,110,101,100]⟩,.string ⟨#[98,114,97,110,99,104]⟩,.string ⟨#[108,101,97,102]⟩]))) Ext #[true,true,true,true,true,true,true,true,true,true,true,true,true,false,false] (by decide +kernel) (VF.stab ?_) ?_ ?_ (by first | exact(Ext.rf _).drew | exact Ext.rf _)
       ·intro j v W W' _ gz hx
        obtain⟨g0,g1⟩:=gz;exact⟨fun h=>(g0 h).imp fun z hz=>⟨hz.1,hz.2.ext hx⟩,fun h=>(g1 h).imp fun z hz=>⟨hz.1,hz.2.ext hx⟩⟩
       ·intro pS hpm uS wS hRW hD K hK
        simp only[List.mem_cons,List.not_mem_nil,or_false] at hpm;rcases hpm with rfl | rfl | rfl | rfl | rfl | rfl | rfl | rfl | rfl | rfl
        ·( exact ZO (t:=9) (d:=some 54) rfl (PX) ([32]) (by kernel_rfl) (by kernel_rfl) (by simp only[List.length_append,List.length_cons,List.length_nil];omega) (hK _ _ (VF.mk rfl) hRW (Ext.rf _)))
        ·( exact Zz (op:=Op.buildSlice 91 3 #[(0,Operand.const (Value.string { data:=#[112,114,117,110,101,100] })),(1,Operand.const (Value.string { data:=#[98,114,97,110,99,104] })),(2,Operand.const (Value.string { data:=#[108,101,97,102] }))]) (t:=91) (d:=some 55) rfl _ (by unfold Zd;go_simp;try rfl) (hK _ _ (VF.mg rfl ⟨(fun _=>⟨_,rfl,.new rfl⟩),(fun h=>absurd h (by decide))⟩) (hRW.alloc _) ((Ext.rf _).alloc _)))
        ·( have rX:=Ze hRW zB d0;exact Zr (T:=3) (x:=Operand.tmp 56) (t:=3) (d:=some 57) rfl (.pointer (some ⟨w.heap.size+1,0,none⟩)) (by kernel_rfl) (.int .i64 2) (by go_simp) (hK _ _ (VF.mk rfl) hRW (Ext.rf _)))
        ·(have e4:uS 4=.int .i64 2:=(hD 4 (Zf (by kernel_rfl))).k rfl;exact Zz (op:=Op.binOp BinOp.sub 3 (Operand.tmp 57) (Operand.const (Value.int IntKind.i64 1)) 3) (t:=3) (d:=some 58) rfl (.int .i64 1) (by simp only[Zj,Act.put,List.setIfInBounds_toArray,List.set_cons_zero,List.set_cons_succ];unfold Zd;(try go_simp);(try simp only[e4]);(try go_simp);(try rfl);(try (exact IntWalk.i64_in _ (by omega)))) (hK _ _ (VF.mk rfl) hRW (Ext.rf _)))
        ·(have e5:uS 5=.int .i64 1:=(hD 5 (Zf (by kernel_rfl))).k rfl;obtain⟨z,ez,bz⟩:=((hD 2 (Zf (by kernel_rfl))).g rfl).1 rfl;exact Yt (T:=91) (x:=Operand.tmp 55) (y:=Operand.tmp 58) (t:=0) (d:=some 59) rfl (.slice (some ⟨z,0,none⟩) 3 3) (.int .i64 1) (Eq.trans (b:=uS 2) (by kernel_rfl) ez) (Eq.trans (b:=uS 5) (by kernel_rfl) e5) (.pointer (some ⟨z,1,none⟩)) (by go_simp) (hK _ _ (VF.mg rfl ⟨(fun h=>absurd h (by decide)),(fun _=>⟨z,rfl,bz⟩)⟩) hRW (Ext.rf _)))
        ·(obtain⟨z,ez,bz⟩:=((hD 6 (Zf (by kernel_rfl))).g rfl).2 rfl;have rX:wS.cell? ⟨z,1,none⟩=some (.string ⟨([98,114,97,110,99,104]).toArray⟩):=bz.cell 1;exact Zr (T:=9) (x:=Operand.tmp 59) (t:=9) (d:=some 60) rfl (.pointer (some ⟨z,1,none⟩)) (Eq.trans (b:=uS 6) (by kernel_rfl) ez) (.string ⟨([98,114,97,110,99,104]).toArray⟩) (by go_simp) (hK _ _ (VF.mk rfl) hRW (Ext.rf _)))
        ·(have e1:uS 1=.string ⟨(PX++[32]).toArray⟩:=(hD 1 (Zf (by kernel_rfl))).k rfl;have e7:uS 7=.string ⟨([98,114,97,110,99,104]).toArray⟩:=(hD 7 (Zf (by kernel_rfl))).k rfl;exact ZO (t:=9) (d:=some 61) rfl ((PX++[32])) ([98,114,97,110,99,104]) (Eq.trans (b:=uS 1) (by kernel_rfl) e1) (Eq.trans (b:=uS 7) (by kernel_rfl) e7) (by simp only[List.length_append,List.length_cons,List.length_nil];omega) (hK _ _ (VF.mk rfl) hRW (Ext.rf _)))
        ·(have e8:uS 8=.string ⟨((PX++[32])++[98,114,97,110,99,104]).toArray⟩:=(hD 8 (Zf (by kernel_rfl))).k rfl;exact ZO (t:=9) (d:=some 62) rfl (((PX++[32])++[98,114,97,110,99,104])) ([32,97,116,32]) (Eq.trans (b:=uS 8) (by kernel_rfl) e8) (by kernel_rfl) (by simp only[List.length_append,List.length_cons,List.length_nil];omega) (hK _ _ (VF.mk rfl) hRW (Ext.rf _)))
        ·( exact ZJ (f:=52) (xs:=#[Operand.tmp 63]) (ts:=#[3]) (t:=9) (d:=some 64) rfl #[.int .i64 b] (by go_simp) (by kernel_rfl) _ (Yp b rg.1 rg.2 _) (by rintro e w9 ⟨rfl,xx⟩;exact⟨_,rfl,hK _ _ (VF.mk rfl) (hRW.tr xx) xx⟩))
        ·(have e9:uS 9=.string ⟨(((PX++[32])++[98,114,97,110,99,104])++[32,97,116,32]).toArray⟩:=(hD 9 (Zf (by kernel_rfl))).k rfl;have e11:uS 11=.string ⟨(Lib.itoa b).toArray⟩:=(hD 11 (Zf (by kernel_rfl))).k rfl;exact ZO (t:=9) (d:=some 65) rfl ((((PX++[32])++[98,114,97,110,99,104])++[32,97,116,32])) (Lib.itoa b) (Eq.trans (b:=uS 9) (by kernel_rfl) e9) (Eq.trans (b:=uS 11) (by kernel_rfl) e11) (by simp only[List.length_append,List.length_cons,List.length_nil];omega) (hK _ _ (VF.mk rfl) hRW (Ext.rf _)))
       intro u w8 hR8 hV;have h1:=(hV (1,some 54) (by simp)).k rfl;have h4:=(hV (4,some 57) (by simp)).k rfl;have h5:=(hV (5,some 58) (by simp)).k rfl;have h7:=(hV (7,some 60) (by simp)).k rfl;have h8:=(hV (8,some 61) (by simp)).k rfl;have h9:=(hV (9,some 62) (by simp)).k rfl;have h11:=(hV (11,some 64) (by simp)).k rfl;have h12:=(hV (12,some 65) (by simp)).k rfl;simp only[Zj,h1,h4,h5,h7,h8,h9,h11,h12];clear hV h1 h4 h5 h7 h8 h9 h11 h12
       try simp only[lay]
       have X8:=Hd (X2.out.tr hR8);clear hR8
       try simp only[lay]
       refine Zc (i:=13) (op:=Op.assign (Operand.tmp 65)) (t:=9) (d:=some 4) (v:=?_) rfl (by decide +kernel) (by decide +kernel) (by decide +kernel) (fun _ _ _ h=>h) ?_ ?_
       case refine_2=>(intro _;unfold Zd;go_simp;try with_reducible rfl)
       try simp only[lay]
       refine Zc (i:=14) (op:=Op.assign (Operand.const (Value.int IntKind.i64 0))) (t:=30) (d:=some 5) (v:=?_) rfl (by decide +kernel) (by decide +kernel) (by decide +kernel) (fun _ _ _ h=>h) ?_ ?_
       case refine_2=>(intro _;unfold Zd;go_simp;try with_reducible rfl)
       try simp only[lay]
       refine wpAny_done (by kernel_rfl) ?_ _;go_simp;go_wp2_with (fail);go_ret2;exact⟨by rw[hlt.out.trans LT.out];simp,X8.out⟩
      ·have kw:Hid (Xh 3=[108,101,97,102]):=Hd rfl
       rw[kw.out] at LT;go_wp2_with (fail);rw[e0.out];refine wp_region_any (by kernel_rfl) ?_
       change wpAny _ _ _ _ _ _ _ (World.drew _)
       refine Zc (i:=0) (op:=Op.move (Operand.tmp 8)) (t:=9) (d:=some 53) (v:=?_) rfl (by decide +kernel) (by decide +kernel) (by decide +kernel) (fun _ _ _ h=>h) ?_ ?_
       case refine_2=>(intro _;unfold Zd;go_simp;try with_reducible rfl)
       try simp only[lay]
       refine Zc (i:=3) (op:=Op.fieldAddr 41 (Operand.tmp 3) 0) (t:=0) (d:=some 56) (v:=?_) rfl (by decide +kernel) (by decide +kernel) (by decide +kernel) (fun _ _ _ h=>h) ?_ ?_
       case refine_2=>(intro _;unfold Zd;go_simp;try with_reducible rfl)
       try simp only[lay]
       refine Zc (i:=10) (op:=Op.move (Operand.tmp 6)) (t:=3) (d:=some 63) (v:=?_) rfl (by decide +kernel) (by decide +kernel) (by decide +kernel) (fun _ _ _ h=>h) ?_ ?_
       case refine_2=>(intro _;unfold Zd;go_simp;try with_reducible rfl)
       try simp only[lay]
       refine Zv (n:=2) [(1,some 54),(2,some 55),(4,some 57),(5,some 58),(6,some 59),(7,some 60),(8,some 61),(9,some 62),(11,some 64),(12,some 65)] (Ext wo) (VF (fun | 1=>some (.string ⟨(PX++[32]).toArray⟩) | 4=>some (.int .i64 3) | 5=>some (.int .i64 2) | 7=>some (.string ⟨([108,101,97,102]).toArray⟩) | 8=>some (.string ⟨((PX++[32])++[108,101,97,102]).toArray⟩) | 9=>some (.string ⟨(((PX++[32])++[108,101,97,102])++[32,97,116,32]).toArray⟩) | 11=>some (.string ⟨(Lib.itoa b).toArray⟩) | 12=>some (.string ⟨((((PX++[32])++[108,101,97,102])++[32,97,116,32])++Lib.itoa b).toArray⟩) | _=>none) (fun i v W=>(i=2->∃ z,v=.slice (some ⟨z,0,none⟩) 3 3/\Blk W z 9 #[.string ⟨#[112,114,117,110,101,100]⟩,.string ⟨#[98,114,97,110,99,104]⟩,.string ⟨#[108,101,97,102]⟩])/\(i=6->∃ z,v=.pointer (some ⟨z,2,none⟩)/\Blk W z 9 #[.string ⟨#[112,114,117,110,101,100]⟩,.string ⟨#[98,114,97,110,99,104]⟩,.string ⟨#[108,101,97,102]⟩]))) Ext #[true,true,true,true,true,true,true,true,true,true,true,true,true,false,false] (by decide +kernel) (VF.stab ?_) ?_ ?_ (by first | exact(Ext.rf _).drew | exact Ext.rf _)
       ·intro j v W W' _ gz hx
        obtain⟨g0,g1⟩:=gz;exact⟨fun h=>(g0 h).imp fun z hz=>⟨hz.1,hz.2.ext hx⟩,fun h=>(g1 h).imp fun z hz=>⟨hz.1,hz.2.ext hx⟩⟩
       ·intro pS hpm uS wS hRW hD K hK
        simp only[List.mem_cons,List.not_mem_nil,or_false] at hpm;rcases hpm with rfl | rfl | rfl | rfl | rfl | rfl | rfl | rfl | rfl | rfl
        ·( exact ZO (t:=9) (d:=some 54) rfl (PX) ([32]) (by kernel_rfl) (by kernel_rfl) (by simp only[List.length_append,List.length_cons,List.length_nil];omega) (hK _ _ (VF.mk rfl) hRW (Ext.rf _)))
        ·( exact Zz (op:=Op.buildSlice 91 3 #[(0,Operand.const (Value.string { data:=#[112,114,117,110,101,100] })),(1,Operand.const (Value.string { data:=#[98,114,97,110,99,104] })),(2,Operand.const (Value.string { data:=#[108,101,97,102] }))]) (t:=91) (d:=some 55) rfl _ (by unfold Zd;go_simp;try rfl) (hK _ _ (VF.mg rfl ⟨(fun _=>⟨_,rfl,.new rfl⟩),(fun h=>absurd h (by decide))⟩) (hRW.alloc _) ((Ext.rf _).alloc _)))
        ·( have rX:=Ze hRW zB d0;exact Zr (T:=3) (x:=Operand.tmp 56) (t:=3) (d:=some 57) rfl (.pointer (some ⟨w.heap.size+1,0,none⟩)) (by kernel_rfl) (.int .i64 3) (by go_simp) (hK _ _ (VF.mk rfl) hRW (Ext.rf _)))
        ·(have e4:uS 4=.int .i64 3:=(hD 4 (Zf (by kernel_rfl))).k rfl;exact Zz (op:=Op.binOp BinOp.sub 3 (Operand.tmp 57) (Operand.const (Value.int IntKind.i64 1)) 3) (t:=3) (d:=some 58) rfl (.int .i64 2) (by simp only[Zj,Act.put,List.setIfInBounds_toArray,List.set_cons_zero,List.set_cons_succ];unfold Zd;(try go_simp);(try simp only[e4]);(try go_simp);(try rfl);(try (exact IntWalk.i64_in _ (by omega)))) (hK _ _ (VF.mk rfl) hRW (Ext.rf _)))
        ·(have e5:uS 5=.int .i64 2:=(hD 5 (Zf (by kernel_rfl))).k rfl;obtain⟨z,ez,bz⟩:=((hD 2 (Zf (by kernel_rfl))).g rfl).1 rfl;exact Yt (T:=91) (x:=Operand.tmp 55) (y:=Operand.tmp 58) (t:=0) (d:=some 59) rfl (.slice (some ⟨z,0,none⟩) 3 3) (.int .i64 2) (Eq.trans (b:=uS 2) (by kernel_rfl) ez) (Eq.trans (b:=uS 5) (by kernel_rfl) e5) (.pointer (some ⟨z,2,none⟩)) (by go_simp) (hK _ _ (VF.mg rfl ⟨(fun h=>absurd h (by decide)),(fun _=>⟨z,rfl,bz⟩)⟩) hRW (Ext.rf _)))
        ·(obtain⟨z,ez,bz⟩:=((hD 6 (Zf (by kernel_rfl))).g rfl).2 rfl;have rX:wS.cell? ⟨z,2,none⟩=some (.string ⟨([108,101,97,102]).toArray⟩):=bz.cell 2;exact Zr (T:=9) (x:=Operand.tmp 59) (t:=9) (d:=some 60) rfl (.pointer (some ⟨z,2,none⟩)) (Eq.trans (b:=uS 6) (by kernel_rfl) ez) (.string ⟨([108,101,97,102]).toArray⟩) (by go_simp) (hK _ _ (VF.mk rfl) hRW (Ext.rf _)))
        ·(have e1:uS 1=.string ⟨(PX++[32]).toArray⟩:=(hD 1 (Zf (by kernel_rfl))).k rfl;have e7:uS 7=.string ⟨([108,101,97,102]).toArray⟩:=(hD 7 (Zf (by kernel_rfl))).k rfl;exact ZO (t:=9) (d:=some 61) rfl ((PX++[32])) ([108,101,97,102]) (Eq.trans (b:=uS 1) (by kernel_rfl) e1) (Eq.trans (b:=uS 7) (by kernel_rfl) e7) (by simp only[List.length_append,List.length_cons,List.length_nil];omega) (hK _ _ (VF.mk rfl) hRW (Ext.rf _)))
        ·(have e8:uS 8=.string ⟨((PX++[32])++[108,101,97,102]).toArray⟩:=(hD 8 (Zf (by kernel_rfl))).k rfl;exact ZO (t:=9) (d:=some 62) rfl (((PX++[32])++[108,101,97,102])) ([32,97,116,32]) (Eq.trans (b:=uS 8) (by kernel_rfl) e8) (by kernel_rfl) (by simp only[List.length_append,List.length_cons,List.length_nil];omega) (hK _ _ (VF.mk rfl) hRW (Ext.rf _)))
        ·( exact ZJ (f:=52) (xs:=#[Operand.tmp 63]) (ts:=#[3]) (t:=9) (d:=some 64) rfl #[.int .i64 b] (by go_simp) (by kernel_rfl) _ (Yp b rg.1 rg.2 _) (by rintro e w9 ⟨rfl,xx⟩;exact⟨_,rfl,hK _ _ (VF.mk rfl) (hRW.tr xx) xx⟩))
        ·(have e9:uS 9=.string ⟨(((PX++[32])++[108,101,97,102])++[32,97,116,32]).toArray⟩:=(hD 9 (Zf (by kernel_rfl))).k rfl;have e11:uS 11=.string ⟨(Lib.itoa b).toArray⟩:=(hD 11 (Zf (by kernel_rfl))).k rfl;exact ZO (t:=9) (d:=some 65) rfl ((((PX++[32])++[108,101,97,102])++[32,97,116,32])) (Lib.itoa b) (Eq.trans (b:=uS 9) (by kernel_rfl) e9) (Eq.trans (b:=uS 11) (by kernel_rfl) e11) (by simp only[List.length_append,List.length_cons,List.length_nil];omega) (hK _ _ (VF.mk rfl) hRW (Ext.rf _)))
       intro u w8 hR8 hV;have h1:=(hV (1,some 54) (by simp)).k rfl;have h4:=(hV (4,some 57) (by simp)).k rfl;have h5:=(hV (5,some 58) (by simp)).k rfl;have h7:=(hV (7,some 60) (by simp)).k rfl;have h8:=(hV (8,some 61) (by simp)).k rfl;have h9:=(hV (9,some 62) (by simp)).k rfl;have h11:=(hV (11,some 64) (by simp)).k rfl;have h12:=(hV (12,some 65) (by simp)).k rfl;simp only[Zj,h1,h4,h5,h7,h8,h9,h11,h12];clear hV h1 h4 h5 h7 h8 h9 h11 h12
       try simp only[lay]
       have X8:=Hd (X2.out.tr hR8);clear hR8
       try simp only[lay]
       refine Zc (i:=13) (op:=Op.assign (Operand.tmp 65)) (t:=9) (d:=some 4) (v:=?_) rfl (by decide +kernel) (by decide +kernel) (by decide +kernel) (fun _ _ _ h=>h) ?_ ?_
       case refine_2=>(intro _;unfold Zd;go_simp;try with_reducible rfl)
       try simp only[lay]
       refine Zc (i:=14) (op:=Op.assign (Operand.const (Value.int IntKind.i64 0))) (t:=30) (d:=some 5) (v:=?_) rfl (by decide +kernel) (by decide +kernel) (by decide +kernel) (fun _ _ _ h=>h) ?_ ?_
       case refine_2=>(intro _;unfold Zd;go_simp;try with_reducible rfl)
       try simp only[lay]
       refine wpAny_done (by kernel_rfl) ?_ _;go_simp;go_wp2_with (fail);go_ret2;exact⟨by rw[hlt.out.trans LT.out];simp,X8.out⟩
     ·have hp0:((p.length:Int)==0)=false:=by rw[beq_eq_false_iff_ne];omega
      obtain⟨pb,po,x,rfl,zb,cx,ex,-⟩:=hP.at (k:=p.length-1) (by omega);have ix:=ip.get ex.out;rw[if_neg hp,getD_some ex.out] at NM;have lx:=Lib.itoa_length_le _ ix.1 ix.2;obtain⟨PX,hPX⟩:∃ PX,tr++nx=PX:=⟨_,rfl⟩;rw[hPX] at LT;have e0:(⟨tr.toArray⟩:ByteArray)++⟨(Lib.itoa x).toArray⟩=⟨PX.toArray⟩:=by rw[<-hPX,NM.out,Uj]
      have lPX:PX.length<=3000:=by rw[<-hPX,NM.out,List.length_append];omega
      have WX:=Hd (fun W:World=>Yp x ix.1 ix.2 W);have lA:¬9223372036854775807<tr.length+(Lib.itoa x).length:=by omega
      have wl:IntKind.i64.wrap ((p.length:Int)-1)=((p.length-1:Nat):Int):=by rw[show (p.length:Int)-1=((p.length-1:Nat):Int) by omega];exact IntWalk.i64_in _ (by omega)
      have q1:(0:Int)<=((p.length-1:Nat):Int):=by omega
      have q2:((p.length-1:Nat):Int)<(p.length:Int):=by omega
      have d9:wo.cell? ⟨pb,po+(p.length-1),none⟩=some (.int .i64 x):=(X2.out.cell (p:=⟨pb,po+(p.length-1),none⟩) zb).trans cx;replace hPX:=Hd hPX;replace e0:=Hd e0;clear NM hnm hP ip ex ix lx;go_wp2_with (fail);refine(WX.out _).mono ?_;rintro e w7 ⟨rfl,x7⟩;have X7:=Hd (X2.out.tr (Ext.tr (by(repeat (first | assumption | exact Ext.rf _ | apply Ext.drew | apply Ext.drewN | apply Ext.alloc))) x7));have b7:=Hd (bb.out.ext (Ext.tr (by(repeat (first | assumption | exact Ext.rf _ | apply Ext.drew | apply Ext.drewN | apply Ext.alloc))) x7));have f0:=b7.out.c0;have f1:=b7.out.c1;have zC:=b7.out.lt;clear x7 d0 d1 d9 X2;rcases hn3 with rfl | rfl | rfl
      ·have kw:Hid (Xh 1=[112,114,117,110,101,100]):=Hd rfl
       rw[kw.out] at LT;go_wp2_with (fail);rw[e0.out];refine wp_region_any (by kernel_rfl) ?_
       change wpAny _ _ _ _ _ _ _ (World.drew _)
       refine Zc (i:=0) (op:=Op.move (Operand.tmp 8)) (t:=9) (d:=some 53) (v:=?_) rfl (by decide +kernel) (by decide +kernel) (by decide +kernel) (fun _ _ _ h=>h) ?_ ?_
       case refine_2=>(intro _;unfold Zd;go_simp;try with_reducible rfl)
       try simp only[lay]
       refine Zc (i:=3) (op:=Op.fieldAddr 41 (Operand.tmp 3) 0) (t:=0) (d:=some 56) (v:=?_) rfl (by decide +kernel) (by decide +kernel) (by decide +kernel) (fun _ _ _ h=>h) ?_ ?_
       case refine_2=>(intro _;unfold Zd;go_simp;try with_reducible rfl)
       try simp only[lay]
       refine Zc (i:=10) (op:=Op.move (Operand.tmp 6)) (t:=3) (d:=some 63) (v:=?_) rfl (by decide +kernel) (by decide +kernel) (by decide +kernel) (fun _ _ _ h=>h) ?_ ?_
       case refine_2=>(intro _;unfold Zd;go_simp;try with_reducible rfl)
       try simp only[lay]
       refine Zv (n:=2) [(1,some 54),(2,some 55),(4,some 57),(5,some 58),(6,some 59),(7,some 60),(8,some 61),(9,some 62),(11,some 64),(12,some 65)] (Ext w7) (VF (fun | 1=>some (.string ⟨(PX++[32]).toArray⟩) | 4=>some (.int .i64 1) | 5=>some (.int .i64 0) | 7=>some (.string ⟨([112,114,117,110,101,100]).toArray⟩) | 8=>some (.string ⟨((PX++[32])++[112,114,117,110,101,100]).toArray⟩) | 9=>some (.string ⟨(((PX++[32])++[112,114,117,110,101,100])++[32,97,116,32]).toArray⟩) | 11=>some (.string ⟨(Lib.itoa b).toArray⟩) | 12=>some (.string ⟨((((PX++[32])++[112,114,117,110,101,100])++[32,97,116,32])++Lib.itoa b).toArray⟩) | _=>none) (fun i v W=>(i=2->∃ z,v=.slice (some ⟨z,0,none⟩) 3 3/\Blk W z 9 #[.string ⟨#[112,114,117,110,101,100]⟩,.string ⟨#[98,114,97,110,99,104]⟩,.string ⟨#[108,101,97,102]⟩])/\(i=6->∃ z,v=.pointer (some ⟨z,0,none⟩)/\Blk W z 9 #[.string ⟨#[112,114,117,110,101,100]⟩,.string ⟨#[98,114,97,110,99,104]⟩,.string ⟨#[108,101,97,102]⟩]))) Ext #[true,true,true,true,true,true,true,true,true,true,true,true,true,false,false] (by decide +kernel) (VF.stab ?_) ?_ ?_ (by first | exact(Ext.rf _).drew | exact Ext.rf _)
       ·intro j v W W' _ gz hx
        obtain⟨g0,g1⟩:=gz;exact⟨fun h=>(g0 h).imp fun z hz=>⟨hz.1,hz.2.ext hx⟩,fun h=>(g1 h).imp fun z hz=>⟨hz.1,hz.2.ext hx⟩⟩
       ·intro pS hpm uS wS hRW hD K hK
        simp only[List.mem_cons,List.not_mem_nil,or_false] at hpm;rcases hpm with rfl | rfl | rfl | rfl | rfl | rfl | rfl | rfl | rfl | rfl
        ·( exact ZO (t:=9) (d:=some 54) rfl (PX) ([32]) (by kernel_rfl) (by kernel_rfl) (by simp only[List.length_append,List.length_cons,List.length_nil];omega) (hK _ _ (VF.mk rfl) hRW (Ext.rf _)))
        ·( exact Zz (op:=Op.buildSlice 91 3 #[(0,Operand.const (Value.string { data:=#[112,114,117,110,101,100] })),(1,Operand.const (Value.string { data:=#[98,114,97,110,99,104] })),(2,Operand.const (Value.string { data:=#[108,101,97,102] }))]) (t:=91) (d:=some 55) rfl _ (by unfold Zd;go_simp;try rfl) (hK _ _ (VF.mg rfl ⟨(fun _=>⟨_,rfl,.new rfl⟩),(fun h=>absurd h (by decide))⟩) (hRW.alloc _) ((Ext.rf _).alloc _)))
        ·( have rX:=Ze hRW zC f0;exact Zr (T:=3) (x:=Operand.tmp 56) (t:=3) (d:=some 57) rfl (.pointer (some ⟨w.heap.size+1,0,none⟩)) (by kernel_rfl) (.int .i64 1) (by go_simp) (hK _ _ (VF.mk rfl) hRW (Ext.rf _)))
        ·(have e4:uS 4=.int .i64 1:=(hD 4 (Zf (by kernel_rfl))).k rfl;exact Zz (op:=Op.binOp BinOp.sub 3 (Operand.tmp 57) (Operand.const (Value.int IntKind.i64 1)) 3) (t:=3) (d:=some 58) rfl (.int .i64 0) (by simp only[Zj,Act.put,List.setIfInBounds_toArray,List.set_cons_zero,List.set_cons_succ];unfold Zd;(try go_simp);(try simp only[e4]);(try go_simp);(try rfl);(try (exact IntWalk.i64_in _ (by omega)))) (hK _ _ (VF.mk rfl) hRW (Ext.rf _)))
        ·(have e5:uS 5=.int .i64 0:=(hD 5 (Zf (by kernel_rfl))).k rfl;obtain⟨z,ez,bz⟩:=((hD 2 (Zf (by kernel_rfl))).g rfl).1 rfl;exact Yt (T:=91) (x:=Operand.tmp 55) (y:=Operand.tmp 58) (t:=0) (d:=some 59) rfl (.slice (some ⟨z,0,none⟩) 3 3) (.int .i64 0) (Eq.trans (b:=uS 2) (by kernel_rfl) ez) (Eq.trans (b:=uS 5) (by kernel_rfl) e5) (.pointer (some ⟨z,0,none⟩)) (by go_simp) (hK _ _ (VF.mg rfl ⟨(fun h=>absurd h (by decide)),(fun _=>⟨z,rfl,bz⟩)⟩) hRW (Ext.rf _)))
        ·(obtain⟨z,ez,bz⟩:=((hD 6 (Zf (by kernel_rfl))).g rfl).2 rfl;have rX:wS.cell? ⟨z,0,none⟩=some (.string ⟨([112,114,117,110,101,100]).toArray⟩):=bz.cell 0;exact Zr (T:=9) (x:=Operand.tmp 59) (t:=9) (d:=some 60) rfl (.pointer (some ⟨z,0,none⟩)) (Eq.trans (b:=uS 6) (by kernel_rfl) ez) (.string ⟨([112,114,117,110,101,100]).toArray⟩) (by go_simp) (hK _ _ (VF.mk rfl) hRW (Ext.rf _)))
        ·(have e1:uS 1=.string ⟨(PX++[32]).toArray⟩:=(hD 1 (Zf (by kernel_rfl))).k rfl;have e7:uS 7=.string ⟨([112,114,117,110,101,100]).toArray⟩:=(hD 7 (Zf (by kernel_rfl))).k rfl;exact ZO (t:=9) (d:=some 61) rfl ((PX++[32])) ([112,114,117,110,101,100]) (Eq.trans (b:=uS 1) (by kernel_rfl) e1) (Eq.trans (b:=uS 7) (by kernel_rfl) e7) (by simp only[List.length_append,List.length_cons,List.length_nil];omega) (hK _ _ (VF.mk rfl) hRW (Ext.rf _)))
        ·(have e8:uS 8=.string ⟨((PX++[32])++[112,114,117,110,101,100]).toArray⟩:=(hD 8 (Zf (by kernel_rfl))).k rfl;exact ZO (t:=9) (d:=some 62) rfl (((PX++[32])++[112,114,117,110,101,100])) ([32,97,116,32]) (Eq.trans (b:=uS 8) (by kernel_rfl) e8) (by kernel_rfl) (by simp only[List.length_append,List.length_cons,List.length_nil];omega) (hK _ _ (VF.mk rfl) hRW (Ext.rf _)))
        ·( exact ZJ (f:=52) (xs:=#[Operand.tmp 63]) (ts:=#[3]) (t:=9) (d:=some 64) rfl #[.int .i64 b] (by go_simp) (by kernel_rfl) _ (Yp b rg.1 rg.2 _) (by rintro e w9 ⟨rfl,xx⟩;exact⟨_,rfl,hK _ _ (VF.mk rfl) (hRW.tr xx) xx⟩))
        ·(have e9:uS 9=.string ⟨(((PX++[32])++[112,114,117,110,101,100])++[32,97,116,32]).toArray⟩:=(hD 9 (Zf (by kernel_rfl))).k rfl;have e11:uS 11=.string ⟨(Lib.itoa b).toArray⟩:=(hD 11 (Zf (by kernel_rfl))).k rfl;exact ZO (t:=9) (d:=some 65) rfl ((((PX++[32])++[112,114,117,110,101,100])++[32,97,116,32])) (Lib.itoa b) (Eq.trans (b:=uS 9) (by kernel_rfl) e9) (Eq.trans (b:=uS 11) (by kernel_rfl) e11) (by simp only[List.length_append,List.length_cons,List.length_nil];omega) (hK _ _ (VF.mk rfl) hRW (Ext.rf _)))
       intro u w8 hR8 hV;have h1:=(hV (1,some 54) (by simp)).k rfl;have h4:=(hV (4,some 57) (by simp)).k rfl;have h5:=(hV (5,some 58) (by simp)).k rfl;have h7:=(hV (7,some 60) (by simp)).k rfl;have h8:=(hV (8,some 61) (by simp)).k rfl;have h9:=(hV (9,some 62) (by simp)).k rfl;have h11:=(hV (11,some 64) (by simp)).k rfl;have h12:=(hV (12,some 65) (by simp)).k rfl;simp only[Zj,h1,h4,h5,h7,h8,h9,h11,h12];clear hV h1 h4 h5 h7 h8 h9 h11 h12
       try simp only[lay]
       have X8:=Hd (X7.out.tr hR8);clear hR8
       try simp only[lay]
       refine Zc (i:=13) (op:=Op.assign (Operand.tmp 65)) (t:=9) (d:=some 4) (v:=?_) rfl (by decide +kernel) (by decide +kernel) (by decide +kernel) (fun _ _ _ h=>h) ?_ ?_
       case refine_2=>(intro _;unfold Zd;go_simp;try with_reducible rfl)
       try simp only[lay]
       refine Zc (i:=14) (op:=Op.assign (Operand.const (Value.int IntKind.i64 0))) (t:=30) (d:=some 5) (v:=?_) rfl (by decide +kernel) (by decide +kernel) (by decide +kernel) (fun _ _ _ h=>h) ?_ ?_
       case refine_2=>(intro _;unfold Zd;go_simp;try with_reducible rfl)
       try simp only[lay]
       refine wpAny_done (by kernel_rfl) ?_ _;go_simp;go_wp2_with (fail);go_ret2;exact⟨by rw[hlt.out.trans LT.out];simp,X8.out⟩
      ·have kw:Hid (Xh 2=[98,114,97,110,99,104]):=Hd rfl
       rw[kw.out] at LT;go_wp2_with (fail);rw[e0.out];refine wp_region_any (by kernel_rfl) ?_
       change wpAny _ _ _ _ _ _ _ (World.drew _)
       refine Zc (i:=0) (op:=Op.move (Operand.tmp 8)) (t:=9) (d:=some 53) (v:=?_) rfl (by decide +kernel) (by decide +kernel) (by decide +kernel) (fun _ _ _ h=>h) ?_ ?_
       case refine_2=>(intro _;unfold Zd;go_simp;try with_reducible rfl)
       try simp only[lay]
       refine Zc (i:=3) (op:=Op.fieldAddr 41 (Operand.tmp 3) 0) (t:=0) (d:=some 56) (v:=?_) rfl (by decide +kernel) (by decide +kernel) (by decide +kernel) (fun _ _ _ h=>h) ?_ ?_
       case refine_2=>(intro _;unfold Zd;go_simp;try with_reducible rfl)
       try simp only[lay]
       refine Zc (i:=10) (op:=Op.move (Operand.tmp 6)) (t:=3) (d:=some 63) (v:=?_) rfl (by decide +kernel) (by decide +kernel) (by decide +kernel) (fun _ _ _ h=>h) ?_ ?_
       case refine_2=>(intro _;unfold Zd;go_simp;try with_reducible rfl)
       try simp only[lay]
       refine Zv (n:=2) [(1,some 54),(2,some 55),(4,some 57),(5,some 58),(6,some 59),(7,some 60),(8,some 61),(9,some 62),(11,some 64),(12,some 65)] (Ext w7) (VF (fun | 1=>some (.string ⟨(PX++[32]).toArray⟩) | 4=>some (.int .i64 2) | 5=>some (.int .i64 1) | 7=>some (.string ⟨([98,114,97,110,99,104]).toArray⟩) | 8=>some (.string ⟨((PX++[32])++[98,114,97,110,99,104]).toArray⟩) | 9=>some (.string ⟨(((PX++[32])++[98,114,97,110,99,104])++[32,97,116,32]).toArray⟩) | 11=>some (.string ⟨(Lib.itoa b).toArray⟩) | 12=>some (.string ⟨((((PX++[32])++[98,114,97,110,99,104])++[32,97,116,32])++Lib.itoa b).toArray⟩) | _=>none) (fun i v W=>(i=2->∃ z,v=.slice (some ⟨z,0,none⟩) 3 3/\Blk W z 9 #[.string ⟨#[112,114,117,110,101,100]⟩,.string ⟨#[98,114,97,110,99,104]⟩,.string ⟨#[108,101,97,102]⟩])/\(i=6->∃ z,v=.pointer (some ⟨z,1,none⟩)/\Blk W z 9 #[.string ⟨#[112,114,117,110,101,100]⟩,.string ⟨#[98,114,97,110,99,104]⟩,.string ⟨#[108,101,97,102]⟩]))) Ext #[true,true,true,true,true,true,true,true,true,true,true,true,true,false,false] (by decide +kernel) (VF.stab ?_) ?_ ?_ (by first | exact(Ext.rf _).drew | exact Ext.rf _)
       ·intro j v W W' _ gz hx
        obtain⟨g0,g1⟩:=gz;exact⟨fun h=>(g0 h).imp fun z hz=>⟨hz.1,hz.2.ext hx⟩,fun h=>(g1 h).imp fun z hz=>⟨hz.1,hz.2.ext hx⟩⟩
       ·intro pS hpm uS wS hRW hD K hK
        simp only[List.mem_cons,List.not_mem_nil,or_false] at hpm;rcases hpm with rfl | rfl | rfl | rfl | rfl | rfl | rfl | rfl | rfl | rfl
        ·( exact ZO (t:=9) (d:=some 54) rfl (PX) ([32]) (by kernel_rfl) (by kernel_rfl) (by simp only[List.length_append,List.length_cons,List.length_nil];omega) (hK _ _ (VF.mk rfl) hRW (Ext.rf _)))
        ·( exact Zz (op:=Op.buildSlice 91 3 #[(0,Operand.const (Value.string { data:=#[112,114,117,110,101,100] })),(1,Operand.const (Value.string { data:=#[98,114,97,110,99,104] })),(2,Operand.const (Value.string { data:=#[108,101,97,102] }))]) (t:=91) (d:=some 55) rfl _ (by unfold Zd;go_simp;try rfl) (hK _ _ (VF.mg rfl ⟨(fun _=>⟨_,rfl,.new rfl⟩),(fun h=>absurd h (by decide))⟩) (hRW.alloc _) ((Ext.rf _).alloc _)))
        ·( have rX:=Ze hRW zC f0;exact Zr (T:=3) (x:=Operand.tmp 56) (t:=3) (d:=some 57) rfl (.pointer (some ⟨w.heap.size+1,0,none⟩)) (by kernel_rfl) (.int .i64 2) (by go_simp) (hK _ _ (VF.mk rfl) hRW (Ext.rf _)))
        ·(have e4:uS 4=.int .i64 2:=(hD 4 (Zf (by kernel_rfl))).k rfl;exact Zz (op:=Op.binOp BinOp.sub 3 (Operand.tmp 57) (Operand.const (Value.int IntKind.i64 1)) 3) (t:=3) (d:=some 58) rfl (.int .i64 1) (by simp only[Zj,Act.put,List.setIfInBounds_toArray,List.set_cons_zero,List.set_cons_succ];unfold Zd;(try go_simp);(try simp only[e4]);(try go_simp);(try rfl);(try (exact IntWalk.i64_in _ (by omega)))) (hK _ _ (VF.mk rfl) hRW (Ext.rf _)))
        ·(have e5:uS 5=.int .i64 1:=(hD 5 (Zf (by kernel_rfl))).k rfl;obtain⟨z,ez,bz⟩:=((hD 2 (Zf (by kernel_rfl))).g rfl).1 rfl;exact Yt (T:=91) (x:=Operand.tmp 55) (y:=Operand.tmp 58) (t:=0) (d:=some 59) rfl (.slice (some ⟨z,0,none⟩) 3 3) (.int .i64 1) (Eq.trans (b:=uS 2) (by kernel_rfl) ez) (Eq.trans (b:=uS 5) (by kernel_rfl) e5) (.pointer (some ⟨z,1,none⟩)) (by go_simp) (hK _ _ (VF.mg rfl ⟨(fun h=>absurd h (by decide)),(fun _=>⟨z,rfl,bz⟩)⟩) hRW (Ext.rf _)))
        ·(obtain⟨z,ez,bz⟩:=((hD 6 (Zf (by kernel_rfl))).g rfl).2 rfl;have rX:wS.cell? ⟨z,1,none⟩=some (.string ⟨([98,114,97,110,99,104]).toArray⟩):=bz.cell 1;exact Zr (T:=9) (x:=Operand.tmp 59) (t:=9) (d:=some 60) rfl (.pointer (some ⟨z,1,none⟩)) (Eq.trans (b:=uS 6) (by kernel_rfl) ez) (.string ⟨([98,114,97,110,99,104]).toArray⟩) (by go_simp) (hK _ _ (VF.mk rfl) hRW (Ext.rf _)))
        ·(have e1:uS 1=.string ⟨(PX++[32]).toArray⟩:=(hD 1 (Zf (by kernel_rfl))).k rfl;have e7:uS 7=.string ⟨([98,114,97,110,99,104]).toArray⟩:=(hD 7 (Zf (by kernel_rfl))).k rfl;exact ZO (t:=9) (d:=some 61) rfl ((PX++[32])) ([98,114,97,110,99,104]) (Eq.trans (b:=uS 1) (by kernel_rfl) e1) (Eq.trans (b:=uS 7) (by kernel_rfl) e7) (by simp only[List.length_append,List.length_cons,List.length_nil];omega) (hK _ _ (VF.mk rfl) hRW (Ext.rf _)))
        ·(have e8:uS 8=.string ⟨((PX++[32])++[98,114,97,110,99,104]).toArray⟩:=(hD 8 (Zf (by kernel_rfl))).k rfl;exact ZO (t:=9) (d:=some 62) rfl (((PX++[32])++[98,114,97,110,99,104])) ([32,97,116,32]) (Eq.trans (b:=uS 8) (by kernel_rfl) e8) (by kernel_rfl) (by simp only[List.length_append,List.length_cons,List.length_nil];omega) (hK _ _ (VF.mk rfl) hRW (Ext.rf _)))
        ·( exact ZJ (f:=52) (xs:=#[Operand.tmp 63]) (ts:=#[3]) (t:=9) (d:=some 64) rfl #[.int .i64 b] (by go_simp) (by kernel_rfl) _ (Yp b rg.1 rg.2 _) (by rintro e w9 ⟨rfl,xx⟩;exact⟨_,rfl,hK _ _ (VF.mk rfl) (hRW.tr xx) xx⟩))
        ·(have e9:uS 9=.string ⟨(((PX++[32])++[98,114,97,110,99,104])++[32,97,116,32]).toArray⟩:=(hD 9 (Zf (by kernel_rfl))).k rfl;have e11:uS 11=.string ⟨(Lib.itoa b).toArray⟩:=(hD 11 (Zf (by kernel_rfl))).k rfl;exact ZO (t:=9) (d:=some 65) rfl ((((PX++[32])++[98,114,97,110,99,104])++[32,97,116,32])) (Lib.itoa b) (Eq.trans (b:=uS 9) (by kernel_rfl) e9) (Eq.trans (b:=uS 11) (by kernel_rfl) e11) (by simp only[List.length_append,List.length_cons,List.length_nil];omega) (hK _ _ (VF.mk rfl) hRW (Ext.rf _)))
       intro u w8 hR8 hV;have h1:=(hV (1,some 54) (by simp)).k rfl;have h4:=(hV (4,some 57) (by simp)).k rfl;have h5:=(hV (5,some 58) (by simp)).k rfl;have h7:=(hV (7,some 60) (by simp)).k rfl;have h8:=(hV (8,some 61) (by simp)).k rfl;have h9:=(hV (9,some 62) (by simp)).k rfl;have h11:=(hV (11,some 64) (by simp)).k rfl;have h12:=(hV (12,some 65) (by simp)).k rfl;simp only[Zj,h1,h4,h5,h7,h8,h9,h11,h12];clear hV h1 h4 h5 h7 h8 h9 h11 h12
       try simp only[lay]
       have X8:=Hd (X7.out.tr hR8);clear hR8
       try simp only[lay]
       refine Zc (i:=13) (op:=Op.assign (Operand.tmp 65)) (t:=9) (d:=some 4) (v:=?_) rfl (by decide +kernel) (by decide +kernel) (by decide +kernel) (fun _ _ _ h=>h) ?_ ?_
       case refine_2=>(intro _;unfold Zd;go_simp;try with_reducible rfl)
       try simp only[lay]
       refine Zc (i:=14) (op:=Op.assign (Operand.const (Value.int IntKind.i64 0))) (t:=30) (d:=some 5) (v:=?_) rfl (by decide +kernel) (by decide +kernel) (by decide +kernel) (fun _ _ _ h=>h) ?_ ?_
       case refine_2=>(intro _;unfold Zd;go_simp;try with_reducible rfl)
       try simp only[lay]
       refine wpAny_done (by kernel_rfl) ?_ _;go_simp;go_wp2_with (fail);go_ret2;exact⟨by rw[hlt.out.trans LT.out];simp,X8.out⟩
      ·have kw:Hid (Xh 3=[108,101,97,102]):=Hd rfl
       rw[kw.out] at LT;go_wp2_with (fail);rw[e0.out];refine wp_region_any (by kernel_rfl) ?_
       change wpAny _ _ _ _ _ _ _ (World.drew _)
       refine Zc (i:=0) (op:=Op.move (Operand.tmp 8)) (t:=9) (d:=some 53) (v:=?_) rfl (by decide +kernel) (by decide +kernel) (by decide +kernel) (fun _ _ _ h=>h) ?_ ?_
       case refine_2=>(intro _;unfold Zd;go_simp;try with_reducible rfl)
       try simp only[lay]
       refine Zc (i:=3) (op:=Op.fieldAddr 41 (Operand.tmp 3) 0) (t:=0) (d:=some 56) (v:=?_) rfl (by decide +kernel) (by decide +kernel) (by decide +kernel) (fun _ _ _ h=>h) ?_ ?_
       case refine_2=>(intro _;unfold Zd;go_simp;try with_reducible rfl)
       try simp only[lay]
       refine Zc (i:=10) (op:=Op.move (Operand.tmp 6)) (t:=3) (d:=some 63) (v:=?_) rfl (by decide +kernel) (by decide +kernel) (by decide +kernel) (fun _ _ _ h=>h) ?_ ?_
       case refine_2=>(intro _;unfold Zd;go_simp;try with_reducible rfl)
       try simp only[lay]
       refine Zv (n:=2) [(1,some 54),(2,some 55),(4,some 57),(5,some 58),(6,some 59),(7,some 60),(8,some 61),(9,some 62),(11,some 64),(12,some 65)] (Ext w7) (VF (fun | 1=>some (.string ⟨(PX++[32]).toArray⟩) | 4=>some (.int .i64 3) | 5=>some (.int .i64 2) | 7=>some (.string ⟨([108,101,97,102]).toArray⟩) | 8=>some (.string ⟨((PX++[32])++[108,101,97,102]).toArray⟩) | 9=>some (.string ⟨(((PX++[32])++[108,101,97,102])++[32,97,116,32]).toArray⟩) | 11=>some (.string ⟨(Lib.itoa b).toArray⟩) | 12=>some (.string ⟨((((PX++[32])++[108,101,97,102])++[32,97,116,32])++Lib.itoa b).toArray⟩) | _=>none) (fun i v W=>(i=2->∃ z,v=.slice (some ⟨z,0,none⟩) 3 3/\Blk W z 9 #[.string ⟨#[112,114,117,110,101,100]⟩,.string ⟨#[98,114,97,110,99,104]⟩,.string ⟨#[108,101,97,102]⟩])/\(i=6->∃ z,v=.pointer (some ⟨z,2,none⟩)/\Blk W z 9 #[.string ⟨#[112,114,117,110,101,100]⟩,.string ⟨#[98,114,97,110,99,104]⟩,.string ⟨#[108,101,97,102]⟩]))) Ext #[true,true,true,true,true,true,true,true,true,true,true,true,true,false,false] (by decide +kernel) (VF.stab ?_) ?_ ?_ (by first | exact(Ext.rf _).drew | exact Ext.rf _)
       ·intro j v W W' _ gz hx
        obtain⟨g0,g1⟩:=gz;exact⟨fun h=>(g0 h).imp fun z hz=>⟨hz.1,hz.2.ext hx⟩,fun h=>(g1 h).imp fun z hz=>⟨hz.1,hz.2.ext hx⟩⟩
       ·intro pS hpm uS wS hRW hD K hK
        simp only[List.mem_cons,List.not_mem_nil,or_false] at hpm;rcases hpm with rfl | rfl | rfl | rfl | rfl | rfl | rfl | rfl | rfl | rfl
        ·( exact ZO (t:=9) (d:=some 54) rfl (PX) ([32]) (by kernel_rfl) (by kernel_rfl) (by simp only[List.length_append,List.length_cons,List.length_nil];omega) (hK _ _ (VF.mk rfl) hRW (Ext.rf _)))
        ·( exact Zz (op:=Op.buildSlice 91 3 #[(0,Operand.const (Value.string { data:=#[112,114,117,110,101,100] })),(1,Operand.const (Value.string { data:=#[98,114,97,110,99,104] })),(2,Operand.const (Value.string { data:=#[108,101,97,102] }))]) (t:=91) (d:=some 55) rfl _ (by unfold Zd;go_simp;try rfl) (hK _ _ (VF.mg rfl ⟨(fun _=>⟨_,rfl,.new rfl⟩),(fun h=>absurd h (by decide))⟩) (hRW.alloc _) ((Ext.rf _).alloc _)))
        ·( have rX:=Ze hRW zC f0;exact Zr (T:=3) (x:=Operand.tmp 56) (t:=3) (d:=some 57) rfl (.pointer (some ⟨w.heap.size+1,0,none⟩)) (by kernel_rfl) (.int .i64 3) (by go_simp) (hK _ _ (VF.mk rfl) hRW (Ext.rf _)))
        ·(have e4:uS 4=.int .i64 3:=(hD 4 (Zf (by kernel_rfl))).k rfl;exact Zz (op:=Op.binOp BinOp.sub 3 (Operand.tmp 57) (Operand.const (Value.int IntKind.i64 1)) 3) (t:=3) (d:=some 58) rfl (.int .i64 2) (by simp only[Zj,Act.put,List.setIfInBounds_toArray,List.set_cons_zero,List.set_cons_succ];unfold Zd;(try go_simp);(try simp only[e4]);(try go_simp);(try rfl);(try (exact IntWalk.i64_in _ (by omega)))) (hK _ _ (VF.mk rfl) hRW (Ext.rf _)))
        ·(have e5:uS 5=.int .i64 2:=(hD 5 (Zf (by kernel_rfl))).k rfl;obtain⟨z,ez,bz⟩:=((hD 2 (Zf (by kernel_rfl))).g rfl).1 rfl;exact Yt (T:=91) (x:=Operand.tmp 55) (y:=Operand.tmp 58) (t:=0) (d:=some 59) rfl (.slice (some ⟨z,0,none⟩) 3 3) (.int .i64 2) (Eq.trans (b:=uS 2) (by kernel_rfl) ez) (Eq.trans (b:=uS 5) (by kernel_rfl) e5) (.pointer (some ⟨z,2,none⟩)) (by go_simp) (hK _ _ (VF.mg rfl ⟨(fun h=>absurd h (by decide)),(fun _=>⟨z,rfl,bz⟩)⟩) hRW (Ext.rf _)))
        ·(obtain⟨z,ez,bz⟩:=((hD 6 (Zf (by kernel_rfl))).g rfl).2 rfl;have rX:wS.cell? ⟨z,2,none⟩=some (.string ⟨([108,101,97,102]).toArray⟩):=bz.cell 2;exact Zr (T:=9) (x:=Operand.tmp 59) (t:=9) (d:=some 60) rfl (.pointer (some ⟨z,2,none⟩)) (Eq.trans (b:=uS 6) (by kernel_rfl) ez) (.string ⟨([108,101,97,102]).toArray⟩) (by go_simp) (hK _ _ (VF.mk rfl) hRW (Ext.rf _)))
        ·(have e1:uS 1=.string ⟨(PX++[32]).toArray⟩:=(hD 1 (Zf (by kernel_rfl))).k rfl;have e7:uS 7=.string ⟨([108,101,97,102]).toArray⟩:=(hD 7 (Zf (by kernel_rfl))).k rfl;exact ZO (t:=9) (d:=some 61) rfl ((PX++[32])) ([108,101,97,102]) (Eq.trans (b:=uS 1) (by kernel_rfl) e1) (Eq.trans (b:=uS 7) (by kernel_rfl) e7) (by simp only[List.length_append,List.length_cons,List.length_nil];omega) (hK _ _ (VF.mk rfl) hRW (Ext.rf _)))
        ·(have e8:uS 8=.string ⟨((PX++[32])++[108,101,97,102]).toArray⟩:=(hD 8 (Zf (by kernel_rfl))).k rfl;exact ZO (t:=9) (d:=some 62) rfl (((PX++[32])++[108,101,97,102])) ([32,97,116,32]) (Eq.trans (b:=uS 8) (by kernel_rfl) e8) (by kernel_rfl) (by simp only[List.length_append,List.length_cons,List.length_nil];omega) (hK _ _ (VF.mk rfl) hRW (Ext.rf _)))
        ·( exact ZJ (f:=52) (xs:=#[Operand.tmp 63]) (ts:=#[3]) (t:=9) (d:=some 64) rfl #[.int .i64 b] (by go_simp) (by kernel_rfl) _ (Yp b rg.1 rg.2 _) (by rintro e w9 ⟨rfl,xx⟩;exact⟨_,rfl,hK _ _ (VF.mk rfl) (hRW.tr xx) xx⟩))
        ·(have e9:uS 9=.string ⟨(((PX++[32])++[108,101,97,102])++[32,97,116,32]).toArray⟩:=(hD 9 (Zf (by kernel_rfl))).k rfl;have e11:uS 11=.string ⟨(Lib.itoa b).toArray⟩:=(hD 11 (Zf (by kernel_rfl))).k rfl;exact ZO (t:=9) (d:=some 65) rfl ((((PX++[32])++[108,101,97,102])++[32,97,116,32])) (Lib.itoa b) (Eq.trans (b:=uS 9) (by kernel_rfl) e9) (Eq.trans (b:=uS 11) (by kernel_rfl) e11) (by simp only[List.length_append,List.length_cons,List.length_nil];omega) (hK _ _ (VF.mk rfl) hRW (Ext.rf _)))
       intro u w8 hR8 hV;have h1:=(hV (1,some 54) (by simp)).k rfl;have h4:=(hV (4,some 57) (by simp)).k rfl;have h5:=(hV (5,some 58) (by simp)).k rfl;have h7:=(hV (7,some 60) (by simp)).k rfl;have h8:=(hV (8,some 61) (by simp)).k rfl;have h9:=(hV (9,some 62) (by simp)).k rfl;have h11:=(hV (11,some 64) (by simp)).k rfl;have h12:=(hV (12,some 65) (by simp)).k rfl;simp only[Zj,h1,h4,h5,h7,h8,h9,h11,h12];clear hV h1 h4 h5 h7 h8 h9 h11 h12
       try simp only[lay]
       have X8:=Hd (X7.out.tr hR8);clear hR8
       try simp only[lay]
       refine Zc (i:=13) (op:=Op.assign (Operand.tmp 65)) (t:=9) (d:=some 4) (v:=?_) rfl (by decide +kernel) (by decide +kernel) (by decide +kernel) (fun _ _ _ h=>h) ?_ ?_
       case refine_2=>(intro _;unfold Zd;go_simp;try with_reducible rfl)
       try simp only[lay]
       refine Zc (i:=14) (op:=Op.assign (Operand.const (Value.int IntKind.i64 0))) (t:=30) (d:=some 5) (v:=?_) rfl (by decide +kernel) (by decide +kernel) (by decide +kernel) (fun _ _ _ h=>h) ?_ ?_
       case refine_2=>(intro _;unfold Zd;go_simp;try with_reducible rfl)
       try simp only[lay]
       refine wpAny_done (by kernel_rfl) ?_ _;go_simp;go_wp2_with (fail);go_ret2;exact⟨by rw[hlt.out.trans LT.out];simp,X8.out⟩
 ·rw[LN.out h]
  have e1:(er != 0)=true:=by simpa using h
  replace BO:=Hd BO;clear h LK LY LN rg hP ip B1;go_enter Tryz.func20,Tryz.ntmps20;go_wp2_with (fail);refine(BO.out _ (by(repeat (first | assumption | exact Ext.rf _ | apply Ext.drew | apply Ext.drewN | apply Ext.alloc)))).mono ?_;rintro e w1 ⟨rfl,x1⟩;have X1:=Hd (Ext.tr (a:=w) (by(repeat (first | assumption | exact Ext.rf _ | apply Ext.drew | apply Ext.drewN | apply Ext.alloc))) x1);clear x1;go_wp2_with (fail);go_ret2;exact⟨rfl,X1.out.tr (by(repeat (first | assumption | exact Ext.rf _ | apply Ext.drew | apply Ext.drewN | apply Ext.alloc)))⟩
structure RecP where
 kind:Int
 path:List Int
def ZcV (w:World)(vs:List Value)(r:RecP) : Prop:=∃ (A:Option Addr) (a:Nat),vs=[.int .i64 r.kind,.slice A r.path.length a]/\RdI w A r.path/\Ints r.path/\r.path.length<=a/\a<=maxLen
def Zdz (r:RecP) : Prop:=-9223372036854775808<=r.kind/\r.kind<=9223372036854775807
section
variable {H:Type} {enc:TypeId×Value->H} {W:World}
theorem Za1 : Tryz.prog.cellsOf 41=2:=by kernel_rfl
theorem ZbX {base:Nat}{v:Value}{d:DataW H}{p:List MemPlace}(hd:DataW.Trod enc Tryz.prog W 0 (fun _=>true) true 41 v d p)(hv:Value.okWide Tryz.prog W .any base 41 v) :
  ∃ vs r,v=.agg (List.toArray vs)/\ZcV W vs r/\Zdz r:=by
 obtain⟨cs,rfl,hsz⟩:=okWide_struct Tryz.underlying41 hv;rw[Za1] at hsz;obtain⟨l⟩:=cs
 match l,hsz with
 | [c0,c1],_ =>
  obtain⟨fuel,h⟩:=hd;obtain⟨n0,y0,h0⟩:=Y8 Tryz.underlying41 h 0 3 0 1 rfl XL;obtain⟨n1,y1,h1⟩:=Y8 Tryz.underlying41 h 1 22 1 1 rfl Vt;obtain⟨x0,e0,b0⟩:=XM _ _ _ h0;obtain⟨l1,A1,a1,e1,r1⟩:=Wj _ _ _ h1
  injection e0 with e0
  injection e1 with e1
  subst e0 e1;exact⟨[.int .i64 x0,.slice A1 l1.length a1],⟨x0,l1⟩,rfl,⟨A1,a1,rfl,r1⟩,b0⟩
end
end Go.Proofs.YtmojhhlcocjoaaaGreatDoor
namespace Go.Proofs.YtmojhhlcocjoaaaGreatDoor
open Go.RowKit Go.ChangeShapes Go.WideShapes Go.ChangeAt
def ZbY : List (String×DataW Unit):=[("math/bits.deBruijn32tab",Rows.laid_math_bits_deBruijn32tab),("math/bits.deBruijn64tab",Rows.laid_math_bits_deBruijn64tab),("internal/strconv.uint64pow10",Rows.laid_internal_strconv_uint64pow10)]
theorem ZcW : (Rows.laid_math_bits_deBruijn64tab:DataW Unit)=Lib.tabData .u8 (Lib.deBruijn64tab.map fun n:Nat=>(n:Int)):=by kernel_rfl
theorem Zdw : (Rows.laid_internal_strconv_uint64pow10:DataW Unit)=Lib.tabData .u64 Lib.pow10Tab:=by kernel_rfl
theorem Je {W:World}(h:Lib.TabIs Tryz.prog W "math/bits.deBruijn64tab" .u8 (Lib.deBruijn64tab.map fun n:Nat=>(n:Int))) : Tab W:=by
 have hlen:Lib.deBruijn64tab.length=64:=by kernel_rfl
 intro r hr;rw[hlen] at hr;have:=h.cell (g:=0) (by kernel_rfl) r (by rw[List.length_map];omega);rw[this]
 congr 2
 simp[List.getD,hlen,hr]
theorem Jf {W:World}(h:laidMetH Tryz.prog ZbY W) : Tab W/\Ten W:=by
 rw[MakeChecks.laidMetH_plain _ _ _ (by kernel_rfl)] at h;unfold ZbY at h;have h1:=laidMet.tail h;have h2:=laidMet.tail h1;rw[ZcW] at h1;rw[Zdw] at h2;refine⟨Je ?_,?_⟩
 ·exact Lib.tabIs_of_head (g:=0) (t:=241) (e:=5) (n:=64) (by kernel_rfl) (by kernel_rfl) Tryz.underlying241 Tryz.underlying5 (by kernel_rfl) (by kernel_rfl) h1
 ·exact Lib.tabIs_of_head (g:=2) (t:=255) (e:=53) (n:=20) (by kernel_rfl) (by kernel_rfl) Tryz.underlying255 Tryz.underlying53 (by kernel_rfl) (by kernel_rfl) h2
end Go.Proofs.YtmojhhlcocjoaaaGreatDoor
