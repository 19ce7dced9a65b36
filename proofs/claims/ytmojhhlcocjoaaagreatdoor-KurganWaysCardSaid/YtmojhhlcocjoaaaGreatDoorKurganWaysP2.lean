/- packed and squeezed by programs (see wip/) -/
import Derived.Test.YtmojhhlcocjoaaaGreatDoorKurganWaysP1
import Derived.Laws.Bits64b
import Derived.Lib.TrailingZeros
import Derived.Lib.Hide
import Derived.Deep.DeepCutAuto
import Derived.Shelf.Spec.TrailingZeros
import Derived.RangeFuncNested
import Derived.RangeFuncBound
import Derived.RangeFuncCalls
import Derived.RangeFuncLeaves
import Derived.RangeFuncBox
import Derived.Maps.AppendAt
import Derived.Shelf.Abstract
import Derived.Shelf.RegionOpen
import Derived.OwnWalkIn
import Derived.TacticsInMore
import Derived.LoopNIn
import Derived.LoopIn
set_option maxRecDepth 100000
set_option maxHeartbeats 16000000
set_option linter.unusedVariables false
set_option linter.unusedSimpArgs false
namespace Go.Proofs.YtmojhhlcocjoaaaGreatDoor
open Go.RowKit Go.ChangeShapes Go.WideShapes Go.ChangeAt Go.Deep
section
variable (w:World)
theorem ZaR {ops:Array Oper}{rest:List Oper}{o:Oper}{a:Act}{Q:Exit->Act->World->Prop}(hgd:o.guard=none)(l c:Operand)(hop:o.op=Op.makeSlice 22 l c)
  (base:Nat) (C:Int) (n:Nat) (hl:a.eval l=.int .i64 0) (hc:a.eval c=.int .i64 C) (hC:C=(n:Int)) (hn:n<=2^44) (hbase:base<=w.heap.size)
  (hK:∀ w',OwI w' base (some ⟨w.heap.size,0,none⟩) n []->w.grownBy w' none->wpList Tryz.prog ops Q rest (a.put o.dst (.slice (some ⟨w.heap.size,0,none⟩) 0 n)) w') :
  wpList Tryz.prog ops Q (o::rest) a w:=by
 obtain⟨i0,hi,hz0,hz1,hz2⟩:=info_parts YQ;refine wpList_make_own w hgd l c _ hop base 3 i0 _ 1 Tryz.underlying22 hi hz0 hz1 .i64 .i64 C n hl hc hC (by rw[hz2];omega) (by simp only[maxLen];omega) hbase (fun w' h2 h3=>hK w' ?_ h3);exact h2
end
theorem RdI.dropA {w:World}{A:Option Addr}{xs:List Int}(h:RdI w A xs)(k:Nat) : RdI w (A.map (·.add k)) (xs.drop k):=by
 rcases h with rfl | ⟨b,off,rfl,hb,hc⟩
 ·exact .inl (by simp)
 ·refine .inr ⟨b,off+k,by simp[add_plain],hb,fun j v hj=>?_⟩
  rw[List.getElem?_drop] at hj;rw[Nat.add_assoc];exact hc _ v hj
def AheadOf (g:Nat)(lb:Array Value)(lt:Nat->Nat->Bool)(n:Nat)(w:World) : Prop :=
 ∀ (W:World) (a b:Nat),a<n->b<n->Ext w W->Calls Tryz.prog g (#[.int .i64 a,.int .i64 b]++lb) W fun e w'=>e=.returned (.bool (lt a b))/\Ext W w'
theorem AheadOf.ext {g:Nat}{lb:Array Value}{lt:Nat->Nat->Bool}{n:Nat}{w w':World}(h:AheadOf g lb lt n w)(x:Ext w w') : AheadOf g lb lt n w':=fun W a b ha hb y=>h W a b ha hb (x.tr y)
def Zc8 (A0:Option Addr)(l:List Nat)(w:World)(e:Ending)(w':World) : Prop:=∃ A c,e=.returned (.slice A l.length c)/\RdI w' A (nl l)/\l.length<=c/\c<=9223372036854775807/\Ext w w'/\∀ k,bl A=some k->bl A0=some k\/w.heap.size<=k
theorem Zc9 (g:Nat)(lb:Array Value)(lt:Nat->Nat->Bool)(n:Nat)(eg:∀ args w,(callFunc g args).run Tryz.prog w=.ok (.enter g args) w) :
  ∀ (f:Nat) (p:List Nat) (m:Nat) (A:Option Addr) (c:Nat) (w:World),m=p.length->p.length<=f+1->(∀ x∈p,x<n)->RdI w A (nl p)->p.length<=c->c<=9223372036854775807->p.length<=1000000->AheadOf g lb lt n w ->
  Calls Tryz.prog 125 #[.slice A m c,.func (.func g) #[] lb] w (Zc8 A (ZE lt f p) w):=by
 intro f
 induction f with
 | zero =>
  intro p m A c w hm hf hp hA lc mc ls hlt;subst hm;have h2:p.length<2:=by omega
  clear hf hlt;go_enter Tryz.func125,Tryz.ntmps125;go_wp2;go_ret;exact⟨A,c,rfl,hA,lc,mc,Ext.rf _,fun _ hk=>.inl hk⟩
 | succ f ih =>
  intro p m A c w hm hf hp hA lc mc ls hlt
  by_cases h2:p.length<2
  ·subst hm
   have HM:Hid (ZE lt (f+1) p=p):=Hd (by unfold ZE;rw[if_pos h2]);clear hf hlt ih;go_enter Tryz.func125,Tryz.ntmps125;go_wp2;go_ret;exact⟨A,c,by rw[HM.out];rfl,by rw[HM.out];exact hA,by rw[HM.out];exact lc,mc,Ext.rf _,fun _ hk=>.inl hk⟩
  ·have HM:Hid (ZE lt (f+1) p=List.merge (ZE lt f (p.take (p.length / 2))) (ZE lt f (p.drop (p.length / 2))) (fun x y => !lt y x)):=by
    have h:ZE lt (f+1) p=List.merge (ZE lt f (p.take (p.length / 2))) (ZE lt f (p.drop (p.length / 2))) (fun x y => !lt y x):=by
     conv=>lhs;unfold ZE
     rw[if_neg h2]
    exact h
   obtain⟨hv,hh⟩:∃ hv,hv=p.length / 2:=⟨_,rfl⟩;rw[<-hh] at HM;have eh:(p.length:Int) / 2=(hv:Int):=by omega
   have h1:1<=hv:=by omega
   have h3:hv<p.length:=by omega
   have hc:hv<c:=by omega
   have lp:=QD lt f (p.take hv);have lq:=QD lt f (p.drop hv);have pp:=ZP lt f (p.take hv);have pq:=ZP lt f (p.drop hv);have i1:=fun(w':World) (x:Ext w w')=>ih (p.take hv) hv A c w' (by simp;omega) (by simp;omega) (fun x hx=>hp x (List.mem_of_mem_take hx)) (by have:=(hA.ext x).take hv;simpa [nl,List.map_take] using this) (by simp;omega) mc (by simp;omega) (hlt.ext x)
   obtain⟨b,off,x0,rfl,_,_,_,_⟩:=hA.at (k:=0) (by rw[ZL];omega);have i2:=fun(w':World) (x:Ext w w')=>ih (p.drop hv) (p.length-hv) (some ⟨b,off+hv,none⟩) (c-hv) w' (by simp) (by simp;omega) (fun x hx=>hp x (List.mem_of_mem_drop hx)) (by have:=(hA.ext x).dropA hv;simpa [nl,List.map_drop,add_plain] using this) (by simp;omega) (by omega) (by simp;omega) (hlt.ext x)
   subst hm;replace i1:=Hd i1;replace i2:=Hd i2;replace hA:=Hd hA;replace hlt:=Hd hlt;replace lp:=Hd lp;replace lq:=Hd lq;replace pp:=Hd pp;replace pq:=Hd pq;replace hp:=Hd hp;replace hh:=Hd hh;clear ih hf;go_enter Tryz.func125,Tryz.ntmps125;go_wp2_with (fail);have b1:(0:Int)<=(hv:Int):=by omega
   have b2:(hv:Int)<=(c:Int):=by omega
   have b3:(hv:Int)<=(p.length:Int):=by omega
   go_region_held3 (fun _=>True) (trivial)
    (first
     | (go_at_call_of 125 (Value.slice (some ⟨b,off,none⟩) hv c);refine(i1.out _ (by(repeat (first | assumption | exact Ext.rf _ | apply Ext.drew | apply Ext.drewN | apply Ext.alloc)))).mono ?_;rintro e w1 ⟨A1,c1,rfl,r1,l1,m1,x1,_⟩;have y1:=Ext.tr (a:=w) (by(repeat (first | assumption | exact Ext.rf _ | apply Ext.drew | apply Ext.drewN | apply Ext.alloc))) x1)
     | (go_at_call_of 125 (Value.slice (some ⟨b,off+hv,none⟩) (p.length-hv) (c-hv));refine(i2.out _ (by(repeat (first | assumption | exact Ext.rf _ | apply Ext.drew | apply Ext.drewN | apply Ext.alloc)))).mono ?_;rintro e w2 ⟨A2,c2,rfl,r2,l2,m2,x2,_⟩;have y2:=Ext.tr (a:=w) y1 x2))
   have LL:=lp.out;have LR:=lq.out;have ML:∀ x∈ZE lt f (p.take hv),x<n:=fun x hx=>hp.out x (List.mem_of_mem_take (pp.out.mem_iff.1 hx))
   have MR:∀ x∈ZE lt f (p.drop hv),x<n:=fun x hx=>hp.out x (List.mem_of_mem_drop (pq.out.mem_iff.1 hx))
   rw[List.length_take] at LL;rw[List.length_drop] at LR;clear lp lq pp pq i1 i2 eh;generalize ZE lt f (p.take hv)=L0 at *;generalize ZE lt f (p.drop hv)=R0 at *;have lsum:L0.length+R0.length<=1000000:=by omega
   have lsum2:Hid (L0.length+R0.length=p.length):=by
    have h9:L0.length+R0.length=p.length:=by omega
    exact h9
   clear LL LR;have r1':=Hd (r1.ext x2);replace r2:=Hd r2;replace ML:=Hd ML;replace MR:=Hd MR;clear r1 x1 x2 y1;go_wp2_with (at_make;refine ZaR _ rfl _ _ rfl w2.heap.size _ p.length rfl rfl rfl (by omega) (Nat.le_refl _) ?_;rintro w3 o3 g3);have X3:=(Ext.rf w2).grownNone g3;have O3:=Hd o3;clear o3 g3 hA b1 b2 b3;obtain⟨M,hM⟩:∃ M,Hid (M=List.merge L0 R0 (fun x y => !lt y x)):=⟨_,rfl⟩;go_loopw [6,7,8] (fun l r o wr=>∃ (B1 B2 B3:Option Addr) (d1 d2 d3:Nat) (L R O:List Nat),l=.slice B1 L.length d1/\r=.slice B2 R.length d2/\o=.slice B3 O.length d3 /\
     Hid (RdI w2 B1 (nl L)/\RdI w2 B2 (nl R)/\OwI wr w2.heap.size B3 d3 (nl O)/\O++List.merge L R (fun x y => !lt y x)=M/\(∀ x∈L,x<n)/\(∀ x∈R,x<n))/\L.length<=d1/\d1<=9223372036854775807/\R.length<=d2/\d2<=9223372036854775807/\O.length+L.length+R.length<=1000000/\Ext w2 wr)
    (fun l r _ _=>match l,r with | .slice _ n _,.slice _ m _=>n+m | _,_=>0)
   case atStart=>exact⟨A1,A2,_,c1,c2,p.length,L0,R0,[],rfl,rfl,rfl,⟨r1'.out,r2.out,O3.out,by rw[hM.out];rfl,ML.out,MR.out⟩,l1,m1,l2,m2,by simp;omega,X3⟩
   case round =>
    obtain⟨wo,rfl⟩:∃ wo:World,wo=wr:=⟨_,rfl⟩;obtain⟨B1,B2,B3,d1,d2,d3,L,R,O,rfl,rfl,rfl,HH,e1,e2,e3,e4,e5,Y⟩:=hrel;obtain⟨r1w,r2w,ho,hsum,mL,mR⟩:=HH.out;have r1x:=r1w.ext Y;have r2x:=r2w.ext Y
    by_cases hL:L=[]
    ·subst hL
     have HE:Hid (O++[]++R=M):=by
      have h9:O++[]++R=M:=by rw[<-hsum,List.nil_merge,List.append_nil]
      exact h9
     clear hsum;simp only[List.length_nil] at *;have tok1:True:=trivial;go_wp2_with (first
      | (at_builtin;have _t:=tok1;refine Z7 _ rfl _ _ rfl w2.heap.size B3 O.length d3 (nl O) (nl []) B1 d1 rfl rfl (by simp[ZL]) ?_ ?_ ?_ ?_ ?_;(exact ho);(exact r1x);(simp[ZL];omega);(exact Y.size);rintro A5 c5 w5 o5 g5 _;have X5:=Y.grow g5 (fun k hk=>(ho.lt k hk).1);clear tok1)
      | (at_builtin;refine Z7 _ rfl _ _ rfl w2.heap.size A5 _ c5 (nl O++nl []) (nl R) B2 d2 rfl (by rw[ZL R];rfl) (by simp[ZL]) ?_ ?_ ?_ ?_ ?_;(exact o5);(exact r2w.ext X5);(simp[ZL];omega);(exact X5.size);rintro A6 c6 w6 o6 g6 _;have X6:=X5.grow g6 (fun k hk=>(o5.lt k hk).1)))
     have le6:=o6.le;have eL:(nl O++nl []++nl R)=nl (ZE lt (f+1) p):=by rw[HM.out,<-hM.out,<-HE.out,Zai,Zai]
     rw[eL] at o6 le6;refine bodyPost_ret (v:=.slice A6 (ZE lt (f+1) p).length c6) ?_ rfl ⟨A6,c6,rfl,o6.read,by rw[ZL] at le6;exact le6.1,le6.2,Ext.tr y2 X6,fun kk hkk=>.inr (Nat.le_trans y2.size (o6.lt kk hkk).1)⟩;have eN:(ZE lt (f+1) p).length=(nl O++nl []++nl R).length:=by rw[eL,ZL]
     rw[eN];simp[results,Tryz.results125,go_sem]
    ·have hL':0<L.length:=List.length_pos_iff.2 hL
     by_cases hR:R=[]
     ·subst hR
      have HE:Hid (O++L++[]=M):=by
       have h9:O++L++[]=M:=by rw[<-hsum,List.merge_right,List.append_nil]
       exact h9
      clear hsum hL;simp only[List.length_nil] at *;have tok1:True:=trivial;go_wp2_with (first
       | (at_builtin;have _t:=tok1;refine Z7 _ rfl _ _ rfl w2.heap.size B3 O.length d3 (nl O) (nl L) B1 d1 rfl (by rw[ZL L];rfl) (by simp[ZL]) ?_ ?_ ?_ ?_ ?_;(exact ho);(exact r1x);(simp[ZL];omega);(exact Y.size);rintro A5 c5 w5 o5 g5 _;have X5:=Y.grow g5 (fun k hk=>(ho.lt k hk).1);clear tok1)
       | (at_builtin;refine Z7 _ rfl _ _ rfl w2.heap.size A5 _ c5 (nl O++nl L) (nl []) B2 d2 rfl rfl (by simp[ZL]) ?_ ?_ ?_ ?_ ?_;(exact o5);(exact r2w.ext X5);(simp[ZL];omega);(exact X5.size);rintro A6 c6 w6 o6 g6 _;have X6:=X5.grow g6 (fun k hk=>(o5.lt k hk).1)))
      have le6:=o6.le;have eL:(nl O++nl L++nl [])=nl (ZE lt (f+1) p):=by rw[HM.out,<-hM.out,<-HE.out,Zai,Zai]
      rw[eL] at o6 le6;refine bodyPost_ret (v:=.slice A6 (ZE lt (f+1) p).length c6) ?_ rfl ⟨A6,c6,rfl,o6.read,by rw[ZL] at le6;exact le6.1,le6.2,Ext.tr y2 X6,fun kk hkk=>.inr (Nat.le_trans y2.size (o6.lt kk hkk).1)⟩;have eN:(ZE lt (f+1) p).length=(nl O++nl L++nl []).length:=by rw[eL,ZL]
      rw[eN];simp[results,Tryz.results125,go_sem]
     ·obtain⟨a,L,rfl⟩:=List.exists_cons_of_ne_nil hL
      obtain⟨d,R,rfl⟩:=List.exists_cons_of_ne_nil hR;have hL9:0<(a::L).length:=by simp
      have hR9:0<(d::R).length:=by simp
      obtain⟨bb1,oo1,x1,rfl,zb1,ka,ea,_⟩:=r1w.at (k:=0) (by simp[nl]);obtain⟨bb2,oo2,x2',rfl,zb2,kd,ed,_⟩:=r2w.at (k:=0) (by simp[nl]);obtain rfl:x1=(a:Int):=by have h9:=ea.out;simp[nl] at h9;exact h9.symm
      obtain rfl:x2'=(d:Int):=by have h9:=ed.out;simp[nl] at h9;exact h9.symm
      rw[Nat.add_zero] at ka kd;have ka':=Zh Y zb1 ka;have kd':=Zh Y zb2 kd;have hcall:=fun(W:World) (x:Ext wo W)=>hlt.out W d a (mR d (by simp)) (mL a (by simp)) ((y2.tr Y).tr x)
      clear ea ed hL hR r1x r2x hL'
      cases hq:lt d a with
      | true =>
       simp only[hq] at hcall;have hsum2:Hid (O++(d::List.merge (a::L) R (fun x y => !lt y x))=M):=by
        have h9:O++(d::List.merge (a::L) R (fun x y => !lt y x))=M:=by
         rw[<-hsum,List.cons_merge_cons,if_neg (by simp[hq])]
        exact h9
       clear hq hsum;replace hcall:=Hd hcall;replace ho:=Hd ho;replace r1w:=Hd r1w;replace r2w:=Hd r2w;go_wp2_with (fail);go_region_held3 (fun w'=>w'.cell? ⟨bb1,oo1,none⟩=some (.int .i64 (a:Nat))/\w'.cell? ⟨bb2,oo2,none⟩=some (.int .i64 (d:Nat))) (go_keep)
        (first | (go_at_fn g;refine(hcall.out _ (by(repeat (first | assumption | exact Ext.rf _ | apply Ext.drew | apply Ext.drewN | apply Ext.alloc)))).mono ?_;rintro e w4 ⟨rfl,x4⟩;have Y4:=Ext.tr (a:=w2) (by(repeat (first | assumption | exact Ext.rf _ | apply Ext.drew | apply Ext.drewN | apply Ext.alloc))) x4;have s1:=Zh Y4 zb1 ka;have s2:=Zh Y4 zb2 kd;have ho4:=Hd (ho.out.ext (Ext.tr (a:=wo) (by(repeat (first | assumption | exact Ext.rf _ | apply Ext.drew | apply Ext.drewN | apply Ext.alloc))) x4))))
       by_cases hcap:d2=1
       ·subst hcap
        have t0:R.length=0:=by simp only[List.length_cons] at *;omega
        obtain rfl:R=[]:=List.eq_nil_of_length_eq_zero t0;clear t0;go_wp2_with (fail);go_region_held3 (fun w'=>w'.cell? ⟨bb2,oo2,none⟩=some (.int .i64 (d:Nat))) (go_keep)
         (first | (refine Ww _ (by rfl) _ _ (by rfl) w2.heap.size B3 O.length d3 (nl O) [((d:Nat):Int)] (some ⟨w4.heap.size,0,none⟩) 1 (by rfl) (by rfl) (by rw[ZL O]) ?_ ?_ ?_ ?_ ?_;(refine OwI.ext ho4.out ?_;(repeat (first | assumption | exact Ext.rf _ | apply Ext.drew | apply Ext.drewN | apply Ext.alloc)));(exact .blk (by(first | exact .new (by simp) | exact .drew (.new (by simp)) | exact .alloc (.new (by simp)) _ | exact .drew (.alloc (.new (by simp)) _) | exact .alloc (.alloc (.new (by simp)) _) _ | exact .drew (.alloc (.alloc (.new (by simp)) _) _) | (repeat (first | assumption | (refine Blk.new ?_;(focus (simp;done))) | apply Blk.drew | apply Blk.drewN | apply Blk.alloc)))) rfl);(rw[ZL O];simp;omega);(have:=Y4.size;simp;omega);rintro A7 c7 w7 o7 g7 _;have Y7:Ext w2 w7:=Ext.grow (a:=w2) (by(repeat (first | assumption | exact Ext.rf _ | apply Ext.drew | apply Ext.drewN | apply Ext.alloc))) g7 (fun kk hkk=>(ho.out.lt kk hkk).1);have s1:=Zh Y7 zb2 kd))
        go_wp2;have O7:Hid (OwI w7 w2.heap.size A7 c7 (nl (O++[d]))):=by
         have h9:=o7;rw[show nl O++[((d:Nat):Int)]=nl (O++[d]) from by simp[nl]] at h9;exact h9
        have eO:(nl O).length+1=(O++[d]).length:=by simp[nl]
        clear o7 g7;go_roundw
        case rel=>exact⟨some ⟨bb1,oo1,none⟩,some ⟨bb2,oo2,none⟩,A7,d1,0,c7,a::L,[],O++[d],by first | rfl | (simp;done) | (simp[nl];done) | (rw[if_neg (by omega)];done) | (rw[<-eO];done),by first | rfl | (simp;done) | (simp[nl];done) | (rw[if_neg (by omega)];done) | (rw[<-eO];done),by first | rfl | (simp;done) | (simp[nl];done) | (rw[if_neg (by omega)];done) | (rw[<-eO];done),⟨r1w.out,.inl rfl,O7.out,by rw[<-hsum2.out,List.append_assoc];rfl,mL,fun x hx=>mR x (by simp[hx])⟩,by simp only[List.length_cons] at *;omega,by omega,by simp only[List.length_cons,List.length_nil] at *;omega,by omega,by simp only[List.length_append,List.length_cons,List.length_nil] at *;omega,Y7⟩
        case measure=>simp
       ·have hcap2:1<d2:=by simp only[List.length_cons] at *;omega
        have q1:(1:Int)<=(d2:Int):=by omega
        have q2:(1:Int)<=(R.length:Int)+1:=by omega
        clear hcap;go_wp2_with (fail);go_region_held3 (fun w'=>w'.cell? ⟨bb2,oo2,none⟩=some (.int .i64 (d:Nat))) (go_keep)
         (first | (refine Ww _ (by rfl) _ _ (by rfl) w2.heap.size B3 O.length d3 (nl O) [((d:Nat):Int)] (some ⟨w4.heap.size,0,none⟩) 1 (by rfl) (by rfl) (by rw[ZL O]) ?_ ?_ ?_ ?_ ?_;(refine OwI.ext ho4.out ?_;(repeat (first | assumption | exact Ext.rf _ | apply Ext.drew | apply Ext.drewN | apply Ext.alloc)));(exact .blk (by(first | exact .new (by simp) | exact .drew (.new (by simp)) | exact .alloc (.new (by simp)) _ | exact .drew (.alloc (.new (by simp)) _) | exact .alloc (.alloc (.new (by simp)) _) _ | exact .drew (.alloc (.alloc (.new (by simp)) _) _) | (repeat (first | assumption | (refine Blk.new ?_;(focus (simp;done))) | apply Blk.drew | apply Blk.drewN | apply Blk.alloc)))) rfl);(rw[ZL O];simp;omega);(have:=Y4.size;simp;omega);rintro A7 c7 w7 o7 g7 _;have Y7:Ext w2 w7:=Ext.grow (a:=w2) (by(repeat (first | assumption | exact Ext.rf _ | apply Ext.drew | apply Ext.drewN | apply Ext.alloc))) g7 (fun kk hkk=>(ho.out.lt kk hkk).1);have s1:=Zh Y7 zb2 kd))
        go_wp2;have O7:Hid (OwI w7 w2.heap.size A7 c7 (nl (O++[d]))):=by
         have h9:=o7;rw[show nl O++[((d:Nat):Int)]=nl (O++[d]) from by simp[nl]] at h9;exact h9
        have eO:(nl O).length+1=(O++[d]).length:=by simp[nl]
        clear o7 g7;go_roundw
        case rel=>exact⟨some ⟨bb1,oo1,none⟩,some ⟨bb2,oo2+1,none⟩,A7,d1,d2-1,c7,a::L,R,O++[d],by first | rfl | (simp;done) | (simp[nl];done) | (rw[if_neg (by omega)];done) | (rw[<-eO];done),by first | rfl | (simp;done) | (simp[nl];done) | (rw[if_neg (by omega)];done) | (rw[<-eO];done),by first | rfl | (simp;done) | (simp[nl];done) | (rw[if_neg (by omega)];done) | (rw[<-eO];done),⟨r1w.out,by have h9:=r2w.out.dropA 1;simpa [nl,add_plain] using h9,O7.out,by rw[<-hsum2.out,List.append_assoc];rfl,mL,fun x hx=>mR x (by simp[hx])⟩,by simp only[List.length_cons] at *;omega,by omega,by simp only[List.length_cons,List.length_nil] at *;omega,by omega,by simp only[List.length_append,List.length_cons,List.length_nil] at *;omega,Y7⟩
        case measure=>simp
      | false =>
       simp only[hq] at hcall;have hsum2:Hid (O++(a::List.merge L (d::R) (fun x y => !lt y x))=M):=by
        have h9:O++(a::List.merge L (d::R) (fun x y => !lt y x))=M:=by
         rw[<-hsum,List.cons_merge_cons,if_pos (by simp[hq])]
        exact h9
       clear hq hsum;replace hcall:=Hd hcall;replace ho:=Hd ho;replace r1w:=Hd r1w;replace r2w:=Hd r2w;go_wp2_with (fail);go_region_held3 (fun w'=>w'.cell? ⟨bb1,oo1,none⟩=some (.int .i64 (a:Nat))/\w'.cell? ⟨bb2,oo2,none⟩=some (.int .i64 (d:Nat))) (go_keep)
        (first | (go_at_fn g;refine(hcall.out _ (by(repeat (first | assumption | exact Ext.rf _ | apply Ext.drew | apply Ext.drewN | apply Ext.alloc)))).mono ?_;rintro e w4 ⟨rfl,x4⟩;have Y4:=Ext.tr (a:=w2) (by(repeat (first | assumption | exact Ext.rf _ | apply Ext.drew | apply Ext.drewN | apply Ext.alloc))) x4;have s1:=Zh Y4 zb1 ka;have s2:=Zh Y4 zb2 kd;have ho4:=Hd (ho.out.ext (Ext.tr (a:=wo) (by(repeat (first | assumption | exact Ext.rf _ | apply Ext.drew | apply Ext.drewN | apply Ext.alloc))) x4))))
       by_cases hcap:d1=1
       ·subst hcap
        have t0:L.length=0:=by simp only[List.length_cons] at *;omega
        obtain rfl:L=[]:=List.eq_nil_of_length_eq_zero t0;clear t0;go_wp2_with (fail);go_region_held3 (fun w'=>w'.cell? ⟨bb1,oo1,none⟩=some (.int .i64 (a:Nat))) (go_keep)
         (first | (refine Ww _ (by rfl) _ _ (by rfl) w2.heap.size B3 O.length d3 (nl O) [((a:Nat):Int)] (some ⟨w4.heap.size,0,none⟩) 1 (by rfl) (by rfl) (by rw[ZL O]) ?_ ?_ ?_ ?_ ?_;(refine OwI.ext ho4.out ?_;(repeat (first | assumption | exact Ext.rf _ | apply Ext.drew | apply Ext.drewN | apply Ext.alloc)));(exact .blk (by(first | exact .new (by simp) | exact .drew (.new (by simp)) | exact .alloc (.new (by simp)) _ | exact .drew (.alloc (.new (by simp)) _) | exact .alloc (.alloc (.new (by simp)) _) _ | exact .drew (.alloc (.alloc (.new (by simp)) _) _) | (repeat (first | assumption | (refine Blk.new ?_;(focus (simp;done))) | apply Blk.drew | apply Blk.drewN | apply Blk.alloc)))) rfl);(rw[ZL O];simp;omega);(have:=Y4.size;simp;omega);rintro A7 c7 w7 o7 g7 _;have Y7:Ext w2 w7:=Ext.grow (a:=w2) (by(repeat (first | assumption | exact Ext.rf _ | apply Ext.drew | apply Ext.drewN | apply Ext.alloc))) g7 (fun kk hkk=>(ho.out.lt kk hkk).1);have s1:=Zh Y7 zb1 ka))
        go_wp2;have O7:Hid (OwI w7 w2.heap.size A7 c7 (nl (O++[a]))):=by
         have h9:=o7;rw[show nl O++[((a:Nat):Int)]=nl (O++[a]) from by simp[nl]] at h9;exact h9
        have eO:(nl O).length+1=(O++[a]).length:=by simp[nl]
        clear o7 g7;go_roundw
        case rel=>exact⟨some ⟨bb1,oo1,none⟩,some ⟨bb2,oo2,none⟩,A7,0,d2,c7,[],d::R,O++[a],by first | rfl | (simp;done) | (simp[nl];done) | (rw[if_neg (by omega)];done) | (rw[<-eO];done),by first | rfl | (simp;done) | (simp[nl];done) | (rw[if_neg (by omega)];done) | (rw[<-eO];done),by first | rfl | (simp;done) | (simp[nl];done) | (rw[if_neg (by omega)];done) | (rw[<-eO];done),⟨.inl rfl,r2w.out,O7.out,by rw[<-hsum2.out,List.append_assoc];rfl,fun x hx=>mL x (by simp[hx]),mR⟩,by simp only[List.length_cons,List.length_nil] at *;omega,by omega,by simp only[List.length_cons] at *;omega,by omega,by simp only[List.length_append,List.length_cons,List.length_nil] at *;omega,Y7⟩
        case measure=>simp
       ·have hcap2:1<d1:=by simp only[List.length_cons] at *;omega
        have q1:(1:Int)<=(d1:Int):=by omega
        have q2:(1:Int)<=(L.length:Int)+1:=by omega
        clear hcap;go_wp2_with (fail);go_region_held3 (fun w'=>w'.cell? ⟨bb1,oo1,none⟩=some (.int .i64 (a:Nat))) (go_keep)
         (first | (refine Ww _ (by rfl) _ _ (by rfl) w2.heap.size B3 O.length d3 (nl O) [((a:Nat):Int)] (some ⟨w4.heap.size,0,none⟩) 1 (by rfl) (by rfl) (by rw[ZL O]) ?_ ?_ ?_ ?_ ?_;(refine OwI.ext ho4.out ?_;(repeat (first | assumption | exact Ext.rf _ | apply Ext.drew | apply Ext.drewN | apply Ext.alloc)));(exact .blk (by(first | exact .new (by simp) | exact .drew (.new (by simp)) | exact .alloc (.new (by simp)) _ | exact .drew (.alloc (.new (by simp)) _) | exact .alloc (.alloc (.new (by simp)) _) _ | exact .drew (.alloc (.alloc (.new (by simp)) _) _) | (repeat (first | assumption | (refine Blk.new ?_;(focus (simp;done))) | apply Blk.drew | apply Blk.drewN | apply Blk.alloc)))) rfl);(rw[ZL O];simp;omega);(have:=Y4.size;simp;omega);rintro A7 c7 w7 o7 g7 _;have Y7:Ext w2 w7:=Ext.grow (a:=w2) (by(repeat (first | assumption | exact Ext.rf _ | apply Ext.drew | apply Ext.drewN | apply Ext.alloc))) g7 (fun kk hkk=>(ho.out.lt kk hkk).1);have s1:=Zh Y7 zb1 ka))
        go_wp2;have O7:Hid (OwI w7 w2.heap.size A7 c7 (nl (O++[a]))):=by
         have h9:=o7;rw[show nl O++[((a:Nat):Int)]=nl (O++[a]) from by simp[nl]] at h9;exact h9
        have eO:(nl O).length+1=(O++[a]).length:=by simp[nl]
        clear o7 g7;go_roundw
        case rel=>exact⟨some ⟨bb1,oo1+1,none⟩,some ⟨bb2,oo2,none⟩,A7,d1-1,d2,c7,L,d::R,O++[a],by first | rfl | (simp;done) | (simp[nl];done) | (rw[if_neg (by omega)];done) | (rw[<-eO];done),by first | rfl | (simp;done) | (simp[nl];done) | (rw[if_neg (by omega)];done) | (rw[<-eO];done),by first | rfl | (simp;done) | (simp[nl];done) | (rw[if_neg (by omega)];done) | (rw[<-eO];done),⟨by have h9:=r1w.out.dropA 1;simpa [nl,add_plain] using h9,r2w.out,O7.out,by rw[<-hsum2.out,List.append_assoc];rfl,fun x hx=>mL x (by simp[hx]),mR⟩,by simp only[List.length_cons,List.length_nil] at *;omega,by omega,by simp only[List.length_cons] at *;omega,by omega,by simp only[List.length_append,List.length_cons,List.length_nil] at *;omega,Y7⟩
        case measure=>simp
end Go.Proofs.YtmojhhlcocjoaaaGreatDoor
namespace Go.Proofs.YtmojhhlcocjoaaaGreatDoor
open Go.RowKit Go.ChangeShapes Go.WideShapes Go.ChangeAt Go.Deep
theorem ZaS {xs:List Int}(h:Small31 xs) : (xs.any fun n=>decide (n<0))=false:=by
 rw[List.any_eq_false];intro x hx;have:=h x hx;simp;omega
def Ju (l:List Nat)(w:World)(e:Ending)(w':World) : Prop:=∃ A c,e=.returned (.tuple #[.slice A l.length c,.int .i64 0])/\RdI w' A (nl l)/\l.length<=c/\c<=9223372036854775807/\Ext w w'/\∀ k,bl A=some k->w.heap.size<=k
theorem Jv (A B:Option Addr)(a b:Nat)(vs ws:List Int)(w:World)(hA:RdI w A vs)(hB:RdI w B ws)(hl:vs.length=ws.length)(h64:vs.length<=64)(sv:Small31 vs)(sw:Small31 ws) :
  Calls Tryz.prog 73 #[.slice A vs.length a,.slice B ws.length b] w (Ju (ZU vs ws) w):=by
 have hn1:=ZaS sv;have hn2:=ZaS sw;have hne:((vs.length:Int) != (ws.length:Int))=false:=by simp[hl]
 have h64':(vs.length:Int)<=64:=by omega
 have X0:Ext w ((w.alloc (.cells #[.slice A vs.length a] 22)).alloc (.cells #[.slice B ws.length b] 22)):=((Ext.rf _).alloc _).alloc _;have bv:BoxI ((w.alloc (.cells #[.slice A vs.length a] 22)).alloc (.cells #[.slice B ws.length b] 22)) w.heap.size vs:=⟨A,a,.alloc (.new rfl) _,hA.ext X0,by omega⟩;have bw:BoxI ((w.alloc (.cells #[.slice A vs.length a] 22)).alloc (.cells #[.slice B ws.length b] 22)) (w.heap.size+1) ws:=⟨B,b,.new (by simp),hB.ext X0,by omega⟩;have Bv:Hid (Blk ((w.alloc (.cells #[.slice A vs.length a] 22)).alloc (.cells #[.slice B ws.length b] 22)) w.heap.size 22 #[.slice A vs.length a]):=.alloc (.new rfl) _;have Bw:Hid (Blk ((w.alloc (.cells #[.slice A vs.length a] 22)).alloc (.cells #[.slice B ws.length b] 22)) (w.heap.size+1) 22 #[.slice B ws.length b]):=.new (by simp);have N1:=fun(W:World) (x:Ext w W)=>ZaH A a vs W (hA.ext x) (by simp only[maxLen];omega)
 have N2:=fun(W:World) (x:Ext w W)=>ZaH B b ws W (hB.ext x) (by simp only[maxLen];omega)
 simp only[hn1] at N1;simp only[hn2] at N2;have AH:AheadOf 127 #[.pointer (some ⟨w.heap.size+1,0,none⟩),.pointer (some ⟨w.heap.size,0,none⟩)] (Yk vs ws) vs.length ((w.alloc (.cells #[.slice A vs.length a] 22)).alloc (.cells #[.slice B ws.length b] 22)) :=
  fun W i j hi hj x=>Zc6 vs ws w.heap.size (w.heap.size+1) i j W (bv.ext x) (bw.ext x) sv sw hi hj (by omega) (by omega)
 have MG:=fun(A':Option Addr) (c':Nat) (W:World) (hr:RdI W A' (nl (List.range vs.length))) (hc:vs.length<=c') (hm:c'<=9223372036854775807) (x:Ext ((w.alloc (.cells #[.slice A vs.length a] 22)).alloc (.cells #[.slice B ws.length b] 22)) W) =>
  Zc9 127 #[.pointer (some ⟨w.heap.size+1,0,none⟩),.pointer (some ⟨w.heap.size,0,none⟩)] (Yk vs ws) vs.length Zah vs.length (List.range vs.length) vs.length A' c' W (by simp) (by simp) (fun x hx=>List.mem_range.1 hx) hr (by simpa using hc) hm (by simp;omega) (AH.ext x)
 have HR:Hid (ZE (Yk vs ws) vs.length (List.range vs.length)=ZU vs ws):=rfl;have PL:=fun W:World=>Zc7 vs.length W (by omega)
 replace hl:=Hd hl;replace X0:=Hd X0;replace bv:=Hd bv;replace bw:=Hd bw;replace N1:=Hd N1;replace N2:=Hd N2;replace MG:=Hd MG;replace PL:=Hd PL;replace hA:=Hd hA;replace hB:=Hd hB;clear hn1 hn2 sv sw AH;have hmf:∀ (fn:Fn) (first cap:Array Value) (w:World),(Instr.makeFunc fn first cap).run Tryz.prog w=.ok (.func fn first cap) w:=fun _ _ _ _=>rfl
 go_enter Tryz.func73,Tryz.ntmps73;go_wp2_with (fail);refine(N1.out _ X0.out).mono ?_;rintro e w1 ⟨rfl,x1⟩;have X1:=Hd (X0.out.tr x1);have c1:w1.cell? ⟨w.heap.size,0,none⟩=some (.slice A vs.length a):=(Bv.out.ext x1).cell 0;have c2:w1.cell? ⟨w.heap.size+1,0,none⟩=some (.slice B ws.length b):=(Bw.out.ext x1).cell 0;go_wp2_with (fail);refine(N2.out _ X1.out).mono ?_;rintro e w2 ⟨rfl,x2⟩;have X2:=Hd (X1.out.tr x2);have x12:=Hd (Ext.tr x1 x2);have d1:w2.cell? ⟨w.heap.size,0,none⟩=some (.slice A vs.length a):=(Bv.out.ext x12.out).cell 0;clear c1 c2 x2;go_wp2_with (fail);refine(PL.out _).mono ?_;rintro e w3 ⟨A3,c3,rfl,o3,x3⟩;have le3:=o3.le;have l3:vs.length<=c3:=by have h:=le3.1;rw[ZL,List.length_range] at h;exact h
 have m3:c3<=9223372036854775807:=by have h:=le3.2;unfold maxLen at h;exact h
 have e3:(nl (List.range vs.length)).length=vs.length:=by rw[ZL,List.length_range]
 have x13:=Hd (Ext.tr x12.out x3);have X3:=Hd (X2.out.tr x3);replace o3:=Hd o3;clear d1 x3 le3;go_wp2_with (fail);refine(MG.out A3 c3 _ o3.out.read l3 m3 x13.out).mono ?_;rintro e w4 ⟨A4,c4,rfl,r4,l4,m4,x4,b4⟩;have HB:Hid (∀ k,bl A4=some k->w.heap.size<=k):=fun k hk=>by
  rcases b4 k hk with h | h
  ·exact Nat.le_trans X2.out.size (o3.out.lt k h).1
  ·exact Nat.le_trans X3.out.size h
 clear b4;rw[HR.out] at r4 l4 ⊢;have X4:=Hd (X3.out.tr x4);replace r4:=Hd r4;clear x4 e3;go_wp2;go_ret2;exact⟨A4,c4,rfl,r4.out,l4,m4,X4.out,HB.out⟩
section
variable {ops:Array Oper} {i:Nat} {t:TypeId} {d:Option Tmp} {a:Act} {w:World} {K:Act->World->Prop} {Q:Exit->Act->World->Prop}
theorem Zda {x y:Operand}(hi:WX ops i=some (none,.makeSlice 22 x y,t,d))(base n:Nat)(L:Int)(hx:a.eval x=.int .i64 L)(hy:a.eval y=.int .i64 L)(hL:L=(n:Int))(hn:n<=2^44)(hb:base<=w.heap.size)
  (hK:∀ w',OwI w' base (some ⟨w.heap.size,0,none⟩) n (List.replicate n 0)->w.grownBy w' none->K (a.put d (.slice (some ⟨w.heap.size,0,none⟩) n n)) w'):wpOp Tryz.prog ops Q i K a w:=by
 obtain⟨i0,hi0,hz0,hz1,hz2⟩:=info_parts YQ;subst hL;obtain⟨w',hrun,h2,h3⟩:=run_make_full (P:=Tryz.prog) w base 22 3 i0 _ 1 Tryz.underlying22 hi0 hz0 hz1 .i64 .i64 n (by rw[hz2];omega) (by simp only[maxLen];omega) hb;refine ZM hi _ (by simp[Zd,execOp,hx,hy,hrun]) (hK w' ?_ h3);have e:(madeCells (Value.int .i64 0).cells (n*1)).toList=(List.replicate n (0:Int)).map (Value.int .i64):=by
  simp[madeCells,Value.cells,List.map_const',Nat.mod_one]
 rw[e] at h2
 simpa [OwI] using h2
end
def KernB (w:World)(base g:Nat)(cap:Int)(l:List Nat)(ws vs bs:List Int) : Prop :=
 ∃ (PA:Option Addr) (pc:Nat) (WA:Option Addr) (wc:Nat) (VA:Option Addr) (vc:Nat) (HA:Option Addr) (hc:Nat),
  Blk w g 119 #[.int .i64 cap,.slice PA l.length pc,.slice WA ws.length wc,.slice VA vs.length vc,.slice HA bs.length hc]/\base<=g /\
  (RdI w PA (nl l)/\∀ k,bl PA=some k->base<=k)/\(RdI w WA ws/\∀ k,bl WA=some k->base<=k)/\(RdI w VA vs/\∀ k,bl VA=some k->base<=k)/\(RdI w HA bs/\∀ k,bl HA=some k->base<=k)
theorem KernB.ext {w w':World}{base g:Nat}{cap:Int}{l:List Nat}{ws vs bs:List Int}(h:KernB w base g cap l ws vs bs)(x:Ext w w') : KernB w' base g cap l ws vs bs:=by
 obtain⟨PA,pc,WA,wc,VA,vc,HA,hc,h1,h2,h3,h4,h5,h6⟩:=h;exact⟨PA,pc,WA,wc,VA,vc,HA,hc,h1.ext x,h2,⟨h3.1.ext x,h3.2⟩,⟨h4.1.ext x,h4.2⟩,⟨h5.1.ext x,h5.2⟩,⟨h6.1.ext x,h6.2⟩⟩
theorem RdI.mod {S:Nat->Prop}{w w':World}{A:Option Addr}{xs:List Int}(h:RdI w A xs)(k:Mod S w w')(hb:∀ b,bl A=some b->¬S b) : RdI w' A xs:=by
 rcases h with rfl | ⟨b,off,rfl,hlt,hc⟩
 ·exact .inl rfl
 ·refine .inr ⟨b,off,rfl,Nat.lt_of_lt_of_le hlt k.size,fun j x hj=>?_⟩
  rw[<-hc j x hj];exact World.cell?_of_block (k.block b hlt (hb b rfl))
theorem KernB.mod {S:Nat->Prop}{w w':World}{base g:Nat}{cap:Int}{l:List Nat}{ws vs bs:List Int}(h:KernB w base g cap l ws vs bs)(x:Mod S w w')(hS:∀ k,base<=k->¬S k) : KernB w' base g cap l ws vs bs:=by
 obtain⟨PA,pc,WA,wc,VA,vc,HA,hc,h1,h2,h3,h4,h5,h6⟩:=h;exact⟨PA,pc,WA,wc,VA,vc,HA,hc,h1.mod x (hS _ h2),h2,⟨h3.1.mod x fun b hb=>hS _ (h3.2 b hb),h3.2⟩,⟨h4.1.mod x fun b hb=>hS _ (h4.2 b hb),h4.2⟩,⟨h5.1.mod x fun b hb=>hS _ (h5.2 b hb),h5.2⟩,⟨h6.1.mod x fun b hb=>hS _ (h6.2 b hb),h6.2⟩⟩
def Dis (A B:Option Addr) : Prop:=∀ k,bl A=some k->bl B≠some k
theorem Dis.symm {A B:Option Addr}(h:Dis A B) : Dis B A:=fun k hk hA=>h k hA hk
theorem Dis.none (B:Option Addr) : Dis none B:=fun k hk=>by simp[bl] at hk
def Fill (w:World)(base g:Nat)(cap:Int)(PA:Option Addr)(pn pc:Nat)(ws vs bs:List Int) : Prop :=
 ∃ (WA:Option Addr) (wc:Nat) (VA:Option Addr) (vc:Nat) (HA:Option Addr) (hc:Nat),
  Blk w g 119 #[.int .i64 cap,.slice PA pn pc,.slice WA ws.length wc,.slice VA vs.length vc,.slice HA bs.length hc]/\base<=g /\
  OwI w base WA wc ws/\OwI w base VA vc vs/\OwI w base HA hc bs/\Dis WA VA/\Dis WA HA/\Dis VA HA
theorem QH {w w':World}{base:Nat}{A:Option Addr}{c:Nat}{xs:List Int}(h:OwI w base A c xs)(hg:w.grownBy w' (bl A)) : Mod (fun k=>bl A=some k) w w':=Mod.grown hg fun g hA=>hA
theorem Dis.after {w:World}{base:Nat}{A A' B:Option Addr}{c:Nat}{ys:List Int}(h:Dis A B)(hB:OwI w base B c ys)(hA:bl A'=bl A\/∃ g,bl A'=some g/\w.heap.size<=g) : Dis A' B:=by
 intro k hk hb;rcases hA with hA | ⟨g,hg,hlt⟩
 ·exact h k (hA ▸ hk) hb
 ·rw[hk] at hg
  obtain rfl:=Option.some.inj hg;have:=(hB.lt k hb).2;omega
theorem Fill.ext {w w':World}{base g:Nat}{cap:Int}{PA:Option Addr}{pn pc:Nat}{ws vs bs:List Int}(h:Fill w base g cap PA pn pc ws vs bs)(x:Ext w w') : Fill w' base g cap PA pn pc ws vs bs:=by
 obtain⟨WA,wc,VA,vc,HA,hc,h1,h2,h3,h4,h5,h6⟩:=h;exact⟨WA,wc,VA,vc,HA,hc,h1.ext x,h2,h3.ext x,h4.ext x,h5.ext x,h6⟩
end Go.Proofs.YtmojhhlcocjoaaaGreatDoor
namespace Go.Proofs.YtmojhhlcocjoaaaGreatDoor
open Go.RowKit Go.ChangeShapes Go.WideShapes Go.ChangeAt Go.Deep
section
variable {w w2:World} {base g pn pc wc vc hc c':Nat} {cap x:Int} {PA WA VA HA A':Option Addr} {ws vs bs:List Int}
theorem ZfW (hB:Blk w g 119 #[.int .i64 cap,.slice PA pn pc,.slice WA ws.length wc,.slice VA vs.length vc,.slice HA bs.length hc])(hg:base<=g)
  (hW:OwI w base WA wc ws) (hV:OwI w base VA vc vs) (hH:OwI w base HA hc bs) (d1:Dis WA VA) (d2:Dis WA HA) (d3:Dis VA HA)
  (hgr:w.grownBy w2 (bl WA)) (o2:OwI w2 base A' c' (ws++[x])) (alt:bl A'=bl WA\/∃ g,bl A'=some g/\w.heap.size<=g) :
  Blk w2 g 119 #[.int .i64 cap,.slice PA pn pc,.slice WA ws.length wc,.slice VA vs.length vc,.slice HA bs.length hc] /\
  Fill (w2.setCell ⟨g,2,none⟩ (.slice A' (ws.length+1) c')) base g cap PA pn pc (ws++[x]) vs bs:=by
 have M:Mod (fun k=>bl WA=some k) w w2:=QH hW hgr;have hB2:=hB.mod M fun h=>hW.ne hB (by decide) g h rfl
 have hV2:=hV.mod M fun k hk h=>d1 k h hk
 have hH2:=hH.mod M fun k hk h=>d2 k h hk
 refine⟨hB2,A',c',VA,vc,HA,hc,?_,hg,o2.far hB2 (by decide) 2 _,hV2.far hB2 (by decide) 2 _,hH2.far hB2 (by decide) 2 _,d1.after hV alt,d2.after hH alt,d3⟩;rw[List.length_append];exact hB2.set 2 _
theorem ZfX (hB:Blk w g 119 #[.int .i64 cap,.slice PA pn pc,.slice WA ws.length wc,.slice VA vs.length vc,.slice HA bs.length hc])(hg:base<=g)
  (hW:OwI w base WA wc ws) (hV:OwI w base VA vc vs) (hH:OwI w base HA hc bs) (d1:Dis WA VA) (d2:Dis WA HA) (d3:Dis VA HA)
  (hgr:w.grownBy w2 (bl VA)) (o2:OwI w2 base A' c' (vs++[x])) (alt:bl A'=bl VA\/∃ g,bl A'=some g/\w.heap.size<=g) :
  Blk w2 g 119 #[.int .i64 cap,.slice PA pn pc,.slice WA ws.length wc,.slice VA vs.length vc,.slice HA bs.length hc] /\
  Fill (w2.setCell ⟨g,3,none⟩ (.slice A' (vs.length+1) c')) base g cap PA pn pc ws (vs++[x]) bs:=by
 have M:Mod (fun k=>bl VA=some k) w w2:=QH hV hgr;have hB2:=hB.mod M fun h=>hV.ne hB (by decide) g h rfl
 have hW2:=hW.mod M fun k hk h=>d1.symm k h hk
 have hH2:=hH.mod M fun k hk h=>d3 k h hk
 refine⟨hB2,WA,wc,A',c',HA,hc,?_,hg,hW2.far hB2 (by decide) 3 _,o2.far hB2 (by decide) 3 _,hH2.far hB2 (by decide) 3 _,(d1.symm.after hW alt).symm,d2,d3.after hH alt⟩;rw[List.length_append];exact hB2.set 3 _
end
theorem ZfY {w:World}{base g pn pc wc vc hc hb k:Nat}{cap y:Int}{PA WA VA:Option Addr}{ws vs bs:List Int}(hB:Blk w g 119 #[.int .i64 cap,.slice PA pn pc,.slice WA ws.length wc,.slice VA vs.length vc,.slice (some ⟨hb,0,none⟩) bs.length hc])(hg:base<=g)
  (hW:OwI w base WA wc ws) (hV:OwI w base VA vc vs) (hH:OwI w base (some ⟨hb,0,none⟩) hc bs) (d1:Dis WA VA) (d2:Dis WA (some ⟨hb,0,none⟩)) (d3:Dis VA (some ⟨hb,0,none⟩))
  (hs:OwI (w.setCell ⟨hb,k,none⟩ (.int .i64 y)) base (some ⟨hb,0,none⟩) hc (bs.set k y)) :
  Fill (w.setCell ⟨hb,k,none⟩ (.int .i64 y)) base g cap PA pn pc ws vs (bs.set k y):=by
 have M:Mod (fun q=>q=hb) w (w.setCell ⟨hb,k,none⟩ (.int .i64 y)):=Mod.set (S:=fun q=>q=hb) (p:=⟨hb,k,none⟩) (Mod.rf w) (.inl rfl) _;have hne:¬g=hb:=fun h=>hH.ne hB (by decide) hb rfl h.symm
 refine⟨WA,wc,VA,vc,_,hc,?_,hg,hW.mod M fun q hq h=>d2 q hq (by subst h;rfl),hV.mod M fun q hq h=>d3 q hq (by subst h;rfl),hs,d1,d2,d3⟩;rw[List.length_set];exact hB.mod M hne
def YE (vs:List Int)(k:Nat) : List Int:=(List.range (vs.length+1)).map fun i=>if i<k then 0 else Zj (vs.drop i)
theorem Wq (vs:List Int)(k:Nat) : (YE vs k).length=vs.length+1:=by simp[YE]
theorem ZbM (vs:List Int) : YE vs vs.length=List.replicate (vs.length+1) 0:=by
 refine List.ext_getElem (by simp[YE]) fun i h1 h2=>?_
 simp only[YE,List.getElem_map,List.getElem_range,List.getElem_replicate];split
 ·rfl
 ·rw[List.drop_of_length_le (by omega)];rfl
theorem Jw {vs:List Int}{k i:Nat}(hi:i<=vs.length)(hk:k<=i) : (YE vs k)[i]?=some (Zj (vs.drop i)):=by
 unfold YE;rw[List.getElem?_map,List.getElem?_range (by omega)];simp[show ¬i<k by omega]
theorem Zdb {vs:List Int}{k:Nat}{v:Int}(hv:vs[k]?=some v) : (YE vs (k+1)).set k (Zj (vs.drop (k+1))+v)=YE vs k:=by
 obtain⟨hk,hv⟩:=List.getElem?_eq_some_iff.1 hv;refine List.ext_getElem (by simp[YE]) fun i h1 h2=>?_
 rw[List.getElem_set];simp only[YE,List.getElem_map,List.getElem_range]
 by_cases h:k=i
 ·subst h
  rw[if_pos rfl,if_neg (by omega),List.drop_eq_getElem_cons hk,hv];simp only[Zj];omega
 ·rw[if_neg h]
  by_cases h3:i<k
  ·rw[if_pos (by omega),if_pos h3]
  ·rw[if_neg (by omega),if_neg h3]
theorem ZcC {vs:List Int}(h:Small31 vs)(k:Nat) : 0<=Zj (vs.drop k)/\Zj (vs.drop k)<=2147483647*vs.length:=by
 have key:∀ l:List Int,(∀ x∈l,0<=x/\x<=2147483647)->0<=Zj l/\Zj l<=2147483647*l.length:=by
  intro l
  induction l with
  | nil=>intro _;simp[Zj]
  | cons x l ih =>
   intro hl;have h1:=hl x (by simp);have h2:=ih fun y hy=>hl y (by simp[hy])
   simp only[Zj,List.length_cons,Int.natCast_add,Int.natCast_one];omega
 have h1:=key (vs.drop k) fun x hx=>h x (List.mem_of_mem_drop hx)
 have h2:(vs.drop k).length<=vs.length:=by simp
 omega
theorem Z4 (l:List Nat)(v:List Int) : (Zl l v).length=l.length:=by simp[Zl]
theorem Uj {l:List Nat}{k n:Nat}{v:List Int}{x:Int}(h:l[k]?=some n)(hx:v[n]?=some x) : Zl (l.take (k+1)) v=Zl (l.take k) v++[x]:=by
 obtain⟨hk,h⟩:=List.getElem?_eq_some_iff.1 h;unfold Zl;rw[List.take_succ_eq_append_getElem hk,List.map_append,h];simp[List.getD,hx]
end Go.Proofs.YtmojhhlcocjoaaaGreatDoor
namespace Go.Proofs.YtmojhhlcocjoaaaGreatDoor
open Go.RowKit Go.ChangeShapes Go.WideShapes Go.ChangeAt Go.Deep
def ZcD (i:InstP)(w:World)(e:Ending)(w':World) : Prop :=
 ∃ g,e=.returned (.tuple #[.pointer (some ⟨g,0,none⟩),.int .i64 0])/\KernB w' w.heap.size g i.cap (ZU i.value i.weight) (Zl (ZU i.value i.weight) i.weight) (Zl (ZU i.value i.weight) i.value) (YE (Zl (ZU i.value i.weight) i.value) 0)/\Ext w w'
theorem Zfj (i:InstP)(vs:List Value)(w:World)(H:RInst w vs i)(hc:Zf i=0)(hk:i.kind=1) :
  Calls Tryz.prog 36 #[.agg (List.toArray vs)] w (ZcD i w):=by
 have ok:=ZD hc hk;have C:=fun(W:World) (x:Ext w W)=>ZC i vs W (H.ext x) (by have:=ok.w;have:=ok.n2;omega) (by have:=ok.v;have:=ok.n2;omega)
 simp only[hc] at C;obtain⟨kind,nn,cap,xw,xv,co⟩:=i;obtain⟨n1,n2,okw,okv,okc,sw,sv,oke⟩:=ok;simp only at *;obtain⟨A,a,B,b,D,d,rfl,⟨rA,iA,lA,mA⟩,⟨rB,iB,lB,mB⟩,-⟩:=H;simp only at *;subst hk oke;obtain⟨n,rfl⟩:∃ n:Nat,nn=(n:Int):=⟨nn.toNat,by omega⟩;have lw:Hid (xw.length=n):=by(have h:xw.length=n:=by omega);exact h
 have lv:Hid (xv.length=n):=by(have h:xv.length=n:=by omega);exact h
 clear okw okv hc;obtain⟨bd1,bd2⟩:1<=n/\n<=64:=by omega
 have R:=fun(W:World) (x:Ext w W)=>Jv B A b a xv xw W (rB.ext x) (rA.ext x) (by rw[lv.out,lw.out]) (by rw[lv.out];omega) sv sw
 have RL:Hid ((ZU xv xw).length=n):=Hd (by rw[QE,lv.out]);have RM:Hid (∀ k q,(ZU xv xw)[k]?=some q->q<n):=fun k q h=>by have:=Zc3 h;rw[lv.out] at this;exact this
 have HI:Hid (∃ l,l=ZU xv xw):=⟨_,rfl⟩;obtain⟨l,hl⟩:=HI.out;rw[<-hl] at RL RM;simp only[<-hl] at R;replace hl:=Hd hl;replace C:=Hd C;replace R:=Hd R;replace rA:=Hd rA;replace rB:=Hd rB;replace iA:=Hd iA;replace iB:=Hd iB;replace mA:=Hd mA;replace mB:=Hd mB;replace sw:=Hd sw;replace sv:=Hd sv;have B1:Hid (Blk (w.alloc (.cells #[.int .i64 1,.int .i64 n,.int .i64 cap,.slice A xw.length a,.slice B xv.length b,.slice D 0 d] 25)) w.heap.size 25 #[.int .i64 1,.int .i64 n,.int .i64 cap,.slice A xw.length a,.slice B xv.length b,.slice D 0 d]):=.new rfl;clear HI;go_enter Tryz.func36,Tryz.ntmps36;go_wp2_with (fail);refine(C.out _ (by(repeat (first | assumption | exact Ext.rf _ | apply Ext.drew | apply Ext.drewN | apply Ext.alloc)))).mono ?_;rintro e w2 ⟨rfl,x2⟩;have X2:=Hd (Ext.tr (a:=w) (by(repeat (first | assumption | exact Ext.rf _ | apply Ext.drew | apply Ext.drewN | apply Ext.alloc))) x2);have B2:=Hd (B1.out.ext x2);have c0:=B2.out.c0;have c3:=B2.out.c3;have c4:=B2.out.c4;clear x2;go_wp2_with (fail);refine(R.out _ X2.out).mono ?_;rintro e w3 ⟨PA,pc,rfl,rP,lP,mP,x3,bP⟩;have X3:=Hd (X2.out.tr x3);have B3:=Hd (B2.out.ext x3);replace rP:=Hd rP;have bP':Hid (∀ k,bl PA=some k->w.heap.size<=k):=fun k hk=>Nat.le_trans X2.out.size (bP k hk)
 clear c0 c3 c4 x3 bP;go_wp2_with (fail);have k1:=B3.out.c1;have k2:=B3.out.c2;have zb:=B3.out.lt;refine wp_region_any (by kernel_rfl) ?_
 change wpAny _ _ _ _ _ _ _ (World.drew _)
 refine Za (i:=0) (op:=Op.fieldAddr 25 (Operand.tmp 1) 2) (t:=0) (d:=some 30) (v:=?_) rfl (by decide +kernel) (by decide +kernel) (by decide +kernel) (fun _ _ _ h=>h) ?_ ?_
 case refine_2=>(intro _;unfold Zd;go_simp;try with_reducible rfl)
 try simp only[lay]
 refine Za (i:=2) (op:=Op.move (Operand.tmp 5)) (t:=22) (d:=some 32) (v:=?_) rfl (by decide +kernel) (by decide +kernel) (by decide +kernel) (fun _ _ _ h=>h) ?_ ?_
 case refine_2=>(intro _;unfold Zd;go_simp;try with_reducible rfl)
 try simp only[lay]
 refine Za (i:=3) (op:=Op.fieldAddr 25 (Operand.tmp 1) 1) (t:=0) (d:=some 33) (v:=?_) rfl (by decide +kernel) (by decide +kernel) (by decide +kernel) (fun _ _ _ h=>h) ?_ ?_
 case refine_2=>(intro _;unfold Zd;go_simp;try with_reducible rfl)
 try simp only[lay]
 refine Z3 (n:=3) [(1,some 31),(4,some 34),(5,some 35),(6,some 36)] (Ext w3)
  (VF (fun | 1=>some (.int .i64 cap) | 4=>some (.int .i64 n) | 5=>some (.int .i64 ((n:Int)+1)) | _=>none)
   (fun j v W=>j=6->∃ h,v=.slice (some ⟨h,0,none⟩) (n+1) (n+1)/\OwI W w3.heap.size (some ⟨h,0,none⟩) (n+1) (List.replicate (n+1) 0)))
  Ext #[true,true,true,true,true,true,true,false,false,false] (by kernel_rfl) (VF.stab ?_) ?_ ?_ ((Ext.rf _).drew)
 ·intro j v W W' _ g6 hx h
  obtain⟨h,q1,q2⟩:=g6 h;exact⟨h,q1,q2.ext hx⟩
 ·intro pq hpm u W hRW hD K hK
  have r1:=Zh hRW zb k1;have r2:=Zh hRW zb k2;have z2:=hRW.size;simp only[List.mem_cons,List.not_mem_nil,or_false] at hpm;rcases hpm with rfl | rfl | rfl | rfl
  ·exact Zp (T:=3) rfl (.pointer (some ⟨w.heap.size,2,none⟩)) (by kernel_rfl) (.int .i64 cap) (by go_simp) (hK _ _ (VF.mk rfl) hRW (Ext.rf _))
  ·exact Zp (T:=3) rfl (.pointer (some ⟨w.heap.size,1,none⟩)) (by kernel_rfl) (.int .i64 n) (by go_simp) (hK _ _ (VF.mk rfl) hRW (Ext.rf _))
  ·have h4:=(hD 4 (Zn (by kernel_rfl))).k rfl
   exact ZM rfl (.int .i64 ((n:Int)+1)) (by simp only[Zk,h4];unfold Zd;go_simp;exact IntWalk.i64_in _ (by omega)) (hK _ _ (VF.mk rfl) hRW (Ext.rf _))
  ·have h5:=(hD 5 (Zn (by kernel_rfl))).k rfl
   refine Zda rfl w3.heap.size (n+1) ((n:Int)+1) (Eq.trans (b:=u 5) (by kernel_rfl) h5) (Eq.trans (b:=u 5) (by kernel_rfl) h5) (by omega) (by omega) z2 (fun w' o6 g6=>hK _ _ (VF.mg rfl fun _=>⟨_,rfl,o6⟩) (hRW.grownNone g6) ((Ext.rf _).grownNone g6))
 ·intro u w4 hRW hV
  have h1:=(hV (1,some 31) (by simp)).k rfl;have h4:=(hV (4,some 34) (by simp)).k rfl;have h5:=(hV (5,some 35) (by simp)).k rfl;obtain⟨hb,h6,o6⟩:=(hV (6,some 36) (by simp)).g rfl rfl;simp only[Zk,h1,h4,h5,h6];clear hV h1 h4 h5 h6 k1 k2
  try simp only[lay]
  refine Za (i:=7) (op:=Op.build 119 #[(0,Operand.tmp 31),(1,Operand.tmp 32),(4,Operand.tmp 36)]) (t:=119) (d:=some 37) (v:=?_) rfl (by decide +kernel) (by decide +kernel) (by decide +kernel) (fun _ _ _ h=>h) ?_ ?_
  case refine_2=>(intro _;unfold Zd;go_simp;try with_reducible rfl)
  try simp only[lay]
  refine Zi 8 (by kernel_rfl) (ZM (op:=.box 119 (.tmp 37)) rfl (.pointer (some ⟨w4.heap.size,0,none⟩)) (w':=w4.alloc (.cells #[.int .i64 cap,.slice PA l.length pc,.slice none 0 0,.slice none 0 0,.slice (some ⟨hb,0,none⟩) (n+1) (n+1)] 119)) (by unfold Zd;go_simp) ?_)
  try simp only[lay]
  refine Za (i:=9) (op:=Op.assign (Operand.tmp 38)) (t:=69) (d:=some 7) (v:=?_) rfl (by decide +kernel) (by decide +kernel) (by decide +kernel) (fun _ _ _ h=>h) ?_ ?_
  case refine_2=>(intro _;unfold Zd;go_simp;try with_reducible rfl)
  try simp only[lay]
  refine wpAny_done (by kernel_rfl) ?_ _;have X4:=Hd ((Ext.tr X3.out hRW).alloc (.cells #[.int .i64 cap,.slice PA l.length pc,.slice none 0 0,.slice none 0 0,.slice (some ⟨hb,0,none⟩) (n+1) (n+1)] 119));have Y4:=Hd (hRW.alloc (.cells #[.int .i64 cap,.slice PA l.length pc,.slice none 0 0,.slice none 0 0,.slice (some ⟨hb,0,none⟩) (n+1) (n+1)] 119));have F4:Hid (Fill (w4.alloc (.cells #[.int .i64 cap,.slice PA l.length pc,.slice none 0 0,.slice none 0 0,.slice (some ⟨hb,0,none⟩) (n+1) (n+1)] 119)) w3.heap.size w4.heap.size cap PA l.length pc [] [] (List.replicate (n+1) 0)):=by
   refine⟨none,0,none,0,some ⟨hb,0,none⟩,n+1,?_,hRW.size,OwI.nil _ _,OwI.nil _ _,o6.ext ((Ext.rf _).alloc _),Dis.none _,Dis.none _,Dis.none _⟩;simp only[List.length_replicate,List.length_nil];exact .new rfl
  clear o6;generalize hw4:w4.alloc (.cells #[.int .i64 cap,.slice PA l.length pc,.slice none 0 0,.slice none 0 0,.slice (some ⟨hb,0,none⟩) (n+1) (n+1)] 119)=w5 at *;clear hw4 hRW;generalize w4.heap.size=g at *;clear w4;go_simp;go_wp2_with (fail);have lP9:=rP.out;have hbs:Hid (∀ (u:World) (z:Int),(Instr.buildSlice 22 1 #[(0,.int .i64 z)]).run Tryz.prog u=.ok (.slice (some ⟨u.heap.size,0,none⟩) 1 1) (u.alloc (.cells #[.int .i64 z] 3))):=fun u z=>by go_simp
  have F4':Hid (Fill w5 w3.heap.size g cap PA l.length pc (Zl (l.take 0) xw) (Zl (l.take 0) xv) (List.replicate (n+1) 0)):=F4.out;clear F4 lP9;go_loopw [41] (fun i wr=>∃ j:Nat,i=.int .i64 j/\j<=n/\Hid (Fill wr w3.heap.size g cap PA l.length pc (Zl (l.take j) xw) (Zl (l.take j) xv) (List.replicate (n+1) 0))/\Ext w3 wr) (fun i _=>n-(intOf i).toNat)
  case atStart=>exact⟨0,rfl,by omega,F4',Y4.out⟩
  case round =>
   obtain⟨wo,rfl⟩:∃ wo:World,wo=wr:=⟨_,rfl⟩;obtain⟨j,rfl,hj,HF,Y⟩:=hrel;have Bi:=Hd (B3.out.ext Y)
   by_cases hlt:j<n
   ·obtain⟨pb,po,qi,rfl,_,cq,eq1,_⟩:=(rP.out.ext Y).at (k:=j) (by rw[ZL,RL.out];exact hlt)
    have hj':j<l.length:=by rw[RL.out];exact hlt
    obtain⟨q,hq0⟩:∃ q,Hid (l[j]?=some q):=⟨l[j],List.getElem?_eq_getElem hj'⟩;obtain rfl:qi=(q:Int):=by
     have h1:=ZfV hq0.out;rw[eq1.out] at h1;exact Option.some.inj h1
    have hqn:q<n:=RM.out j q hq0.out;have hqw:q<xw.length:=by rw[lw.out];exact hqn
    have hqv:q<xv.length:=by rw[lv.out];exact hqn
    obtain⟨ab,ao,x,rfl,zs2',cs2',ex,_⟩:=(rA.out.ext X3.out).at hqw;obtain⟨bb,bo,y,rfl,zs3',cs3',ey,_⟩:=(rB.out.ext X3.out).at hqv;have EW:Hid (Zl (l.take (j+1)) xw=Zl (l.take j) xw++[x]):=Uj hq0.out ex.out;have EV:Hid (Zl (l.take (j+1)) xv=Zl (l.take j) xv++[y]):=Uj hq0.out ey.out;have lW:(Zl (l.take j) xw).length<=64:=by rw[Z4];simp;omega
    have lV:(Zl (l.take j) xv).length<=64:=by rw[Z4];simp;omega
    generalize Zl (l.take j) xw=WL at *;generalize Zl (l.take j) xv=VL at *;have zi:=Bi.out.lt;go_wp2_with (fail);obtain⟨WA,wc,VA,vc,HA,hc,Bg,hgb,OW,OV,OH,dd1,dd2,dd3⟩:=HF.out;have zg:=Bg.lt;have zs2:=Nat.lt_of_lt_of_le zs2' Y.size;have cs2:=Zh Y zs2' cs2';replace Bg:=Hd Bg;replace OW:=Hd OW;replace OV:=Hd OV;replace OH:=Hd OH;refine wp_region_any (by kernel_rfl) ?_
    change wpAny _ _ _ _ _ _ _ (World.drew _)
    refine Za (i:=0) (op:=Op.move (Operand.tmp 7)) (t:=69) (d:=some 45) (v:=?_) rfl (by decide +kernel) (by decide +kernel) (by decide +kernel) (fun _ _ _ h=>h) ?_ ?_
    case refine_2=>(intro _;unfold Zd;go_simp;try with_reducible rfl)
    try simp only[lay]
    refine Za (i:=1) (op:=Op.move (Operand.tmp 7)) (t:=69) (d:=some 46) (v:=?_) rfl (by decide +kernel) (by decide +kernel) (by decide +kernel) (fun _ _ _ h=>h) ?_ ?_
    case refine_2=>(intro _;unfold Zd;go_simp;try with_reducible rfl)
    try simp only[lay]
    refine Za (i:=2) (op:=Op.nilCheck (Operand.tmp 46)) (t:=0) (d:=some 47) (v:=?_) rfl (by decide +kernel) (by decide +kernel) (by decide +kernel) (fun _ _ _ h=>h) ?_ ?_
    case refine_2=>(intro _;unfold Zd;go_simp;try with_reducible rfl)
    try simp only[lay]
    refine Za (i:=3) (op:=Op.fieldAddr 119 (Operand.tmp 47) 2) (t:=0) (d:=some 48) (v:=?_) rfl (by decide +kernel) (by decide +kernel) (by decide +kernel) (fun _ _ _ h=>h) ?_ ?_
    case refine_2=>(intro _;unfold Zd;go_simp;try with_reducible rfl)
    try simp only[lay]
    refine Za (i:=5) (op:=Op.fieldAddr 25 (Operand.tmp 1) 3) (t:=0) (d:=some 50) (v:=?_) rfl (by decide +kernel) (by decide +kernel) (by decide +kernel) (fun _ _ _ h=>h) ?_ ?_
    case refine_2=>(intro _;unfold Zd;go_simp;try with_reducible rfl)
    try simp only[lay]
    refine Za (i:=7) (op:=Op.move (Operand.tmp 9)) (t:=3) (d:=some 52) (v:=?_) rfl (by decide +kernel) (by decide +kernel) (by decide +kernel) (fun _ _ _ h=>h) ?_ ?_
    case refine_2=>(intro _;unfold Zd;go_simp;try with_reducible rfl)
    try simp only[lay]
    refine Z3 (n:=4) [(4,some 49),(6,some 51),(8,some 53),(9,some 54),(10,some 55)] (Ext wo)
     (VF (fun | 4=>some (.slice WA WL.length wc) | 6=>some (.slice (some ⟨ab,ao,none⟩) xw.length a) | 8=>some (.pointer (some ⟨ab,ao+q,none⟩)) | 9=>some (.int .i64 x) | _=>none)
      (fun j v W=>j=10->∃ h,v=.slice (some ⟨h,0,none⟩) 1 1/\Blk W h 3 #[.int .i64 x]))
     Ext #[true,true,true,true,true,true,true,true,true,true,true,false,false,false,false] (by kernel_rfl) (VF.stab ?_) ?_ ?_ ((Ext.rf _).drew)
    ·intro j v W W' _ g6 hx h
     obtain⟨h,q1,q2⟩:=g6 h;exact⟨h,q1,q2.ext hx⟩
    ·intro pq hpm u W hRW hD K hK
     have r1:=Zh hRW zg (Bg.out.cell 2);have r2:=Zh hRW zi (Bi.out.cell 3);have r3:=Zh hRW zs2 cs2;simp only[List.mem_cons,List.not_mem_nil,or_false] at hpm;rcases hpm with rfl | rfl | rfl | rfl | rfl
     ·exact Zp (T:=22) rfl (.pointer (some ⟨g,2,none⟩)) (by kernel_rfl) (.slice WA WL.length wc) (by go_simp) (hK _ _ (VF.mk rfl) hRW (Ext.rf _))
     ·exact Zp (T:=22) rfl (.pointer (some ⟨w.heap.size,3,none⟩)) (by kernel_rfl) (.slice (some ⟨ab,ao,none⟩) xw.length a) (by go_simp) (hK _ _ (VF.mk rfl) hRW (Ext.rf _))
     ·have h6:=(hD 6 (Zn (by kernel_rfl))).k rfl
      exact Z2 (T:=22) rfl (.slice (some ⟨ab,ao,none⟩) xw.length a) (.int .i64 q) (Eq.trans (b:=u 6) (by kernel_rfl) h6) (by kernel_rfl) (.pointer (some ⟨ab,ao+q,none⟩)) (by go_simp) (hK _ _ (VF.mk rfl) hRW (Ext.rf _))
     ·have h8:=(hD 8 (Zn (by kernel_rfl))).k rfl
      exact Zp (T:=3) rfl (.pointer (some ⟨ab,ao+q,none⟩)) (Eq.trans (b:=u 8) (by kernel_rfl) h8) (.int .i64 x) (by go_simp) (hK _ _ (VF.mk rfl) hRW (Ext.rf _))
     ·have h9:=(hD 9 (Zn (by kernel_rfl))).k rfl
      exact ZbG rfl _ (Eq.trans (b:=u 9) (by kernel_rfl) h9) _ (hbs.out _ _) (hK _ _ (VF.mg rfl fun _=>⟨_,rfl,.new rfl⟩) (hRW.alloc _) ((Ext.rf _).alloc _))
    ·intro u w6 hRW hV
     have h4:=(hV (4,some 49) (by simp)).k rfl;have h6:=(hV (6,some 51) (by simp)).k rfl;have h8:=(hV (8,some 53) (by simp)).k rfl;have h9:=(hV (9,some 54) (by simp)).k rfl;obtain⟨hq,h10,b10⟩:=(hV (10,some 55) (by simp)).g rfl rfl;simp only[Zk,h4,h6,h8,h9,h10];obtain⟨A7,c7,w7,hrun,o7,g7,alt7⟩:=Vr w6 w3.heap.size 22 WA WL.length wc WL [x] (some ⟨hq,0,none⟩) 1 rfl (OW.out.ext hRW) (.blk b10 rfl) (by simp;omega) (Nat.le_trans Y.size hRW.size);obtain⟨b7,F7⟩:=ZfW (Bg.out.ext hRW) hgb (OW.out.ext hRW) (OV.out.ext hRW) (OH.out.ext hRW) dd1 dd2 dd3 g7 o7 alt7;have x7:Ext w3 w7:=(Y.tr hRW).grow g7 (fun k hk=>(OW.out.lt k hk).1);have cg7:=b7.c2;have fg7:=b7.free 2;have Y7:Ext w3 (w7.setCell ⟨g,2,none⟩ (.slice A7 (WL.length+1) c7)):=x7.setNew (p:=⟨g,2,none⟩) hgb _;replace F7:=Hd F7;rw[show (WL++[x]).length=WL.length+1 from by simp] at hrun;clear h4 h6 h8 h9 h10 hV b10 o7 g7 alt7 b7;refine Zi 11 (by kernel_rfl) (Zac rfl (.slice WA WL.length wc) (.slice (some ⟨hq,0,none⟩) 1 1) (by kernel_rfl) (by kernel_rfl) _ hrun ?_)
     try simp only[lay]
     refine Za (i:=12) (op:=Op.nilCheck (Operand.tmp 45)) (t:=0) (d:=some 57) (v:=?_) rfl (by decide +kernel) (by decide +kernel) (by decide +kernel) (fun _ _ _ h=>h) ?_ ?_
     case refine_2=>(intro _;unfold Zd;go_simp;try with_reducible rfl)
     try simp only[lay]
     refine Za (i:=13) (op:=Op.fieldAddr 119 (Operand.tmp 57) 2) (t:=0) (d:=some 58) (v:=?_) rfl (by decide +kernel) (by decide +kernel) (by decide +kernel) (fun _ _ _ h=>h) ?_ ?_
     case refine_2=>(intro _;unfold Zd;go_simp;try with_reducible rfl)
     try simp only[lay]
     refine Zi 14 (by kernel_rfl) (Yl rfl (.pointer (some ⟨g,2,none⟩)) (.slice A7 (WL.length+1) c7) (by kernel_rfl) (by kernel_rfl) (by go_simp;rfl) ?_);refine wpAny_done (by kernel_rfl) ?_ _;clear hrun hRW cg7 fg7 x7;generalize w7.setCell ⟨g,2,none⟩ (.slice A7 (WL.length+1) c7)=w8 at *;clear w7;go_simp;clear Bg OW OV OH dd1 dd2 dd3 HF zg cs2 zs2 Bi zi;have Bi:=Hd (B3.out.ext Y7);have zi:=Bi.out.lt;go_wp2_with (fail);obtain⟨WA2,wc2,VA2,vc2,HA2,hc2,Bg,hgb,OW,OV,OH,dd1,dd2,dd3⟩:=F7.out;have zg:=Bg.lt;have zs3:=Nat.lt_of_lt_of_le zs3' Y7.size;have cs3:=Zh Y7 zs3' cs3';replace Bg:=Hd Bg;replace OW:=Hd OW;replace OV:=Hd OV;replace OH:=Hd OH;clear F7;refine wp_region_any (by kernel_rfl) ?_
     change wpAny _ _ _ _ _ _ _ (World.drew _)
     refine Za (i:=0) (op:=Op.move (Operand.tmp 7)) (t:=69) (d:=some 59) (v:=?_) rfl (by decide +kernel) (by decide +kernel) (by decide +kernel) (fun _ _ _ h=>h) ?_ ?_
     case refine_2=>(intro _;unfold Zd;go_simp;try with_reducible rfl)
     try simp only[lay]
     refine Za (i:=1) (op:=Op.move (Operand.tmp 7)) (t:=69) (d:=some 60) (v:=?_) rfl (by decide +kernel) (by decide +kernel) (by decide +kernel) (fun _ _ _ h=>h) ?_ ?_
     case refine_2=>(intro _;unfold Zd;go_simp;try with_reducible rfl)
     try simp only[lay]
     refine Za (i:=2) (op:=Op.nilCheck (Operand.tmp 60)) (t:=0) (d:=some 61) (v:=?_) rfl (by decide +kernel) (by decide +kernel) (by decide +kernel) (fun _ _ _ h=>h) ?_ ?_
     case refine_2=>(intro _;unfold Zd;go_simp;try with_reducible rfl)
     try simp only[lay]
     refine Za (i:=3) (op:=Op.fieldAddr 119 (Operand.tmp 61) 3) (t:=0) (d:=some 62) (v:=?_) rfl (by decide +kernel) (by decide +kernel) (by decide +kernel) (fun _ _ _ h=>h) ?_ ?_
     case refine_2=>(intro _;unfold Zd;go_simp;try with_reducible rfl)
     try simp only[lay]
     refine Za (i:=5) (op:=Op.fieldAddr 25 (Operand.tmp 1) 4) (t:=0) (d:=some 64) (v:=?_) rfl (by decide +kernel) (by decide +kernel) (by decide +kernel) (fun _ _ _ h=>h) ?_ ?_
     case refine_2=>(intro _;unfold Zd;go_simp;try with_reducible rfl)
     try simp only[lay]
     refine Za (i:=7) (op:=Op.move (Operand.tmp 9)) (t:=3) (d:=some 66) (v:=?_) rfl (by decide +kernel) (by decide +kernel) (by decide +kernel) (fun _ _ _ h=>h) ?_ ?_
     case refine_2=>(intro _;unfold Zd;go_simp;try with_reducible rfl)
     try simp only[lay]
     refine Z3 (n:=4) [(4,some 63),(6,some 65),(8,some 67),(9,some 68),(10,some 69)] (Ext w8)
      (VF (fun | 4=>some (.slice VA2 VL.length vc2) | 6=>some (.slice (some ⟨bb,bo,none⟩) xv.length b) | 8=>some (.pointer (some ⟨bb,bo+q,none⟩)) | 9=>some (.int .i64 y) | _=>none)
       (fun j v W=>j=10->∃ h,v=.slice (some ⟨h,0,none⟩) 1 1/\Blk W h 3 #[.int .i64 y]))
      Ext #[true,true,true,true,true,true,true,true,true,true,true,false,false,false,false] (by kernel_rfl) (VF.stab ?_) ?_ ?_ ((Ext.rf _).drew)
     ·intro j v W W' _ g6 hx h
      obtain⟨h,q1,q2⟩:=g6 h;exact⟨h,q1,q2.ext hx⟩
     ·intro pq hpm u W hRW hD K hK
      have r1:=Zh hRW zg (Bg.out.cell 3);have r2:=Zh hRW zi (Bi.out.cell 4);have r3:=Zh hRW zs3 cs3;simp only[List.mem_cons,List.not_mem_nil,or_false] at hpm;rcases hpm with rfl | rfl | rfl | rfl | rfl
      ·exact Zp (T:=22) rfl (.pointer (some ⟨g,3,none⟩)) (by kernel_rfl) (.slice VA2 VL.length vc2) (by go_simp) (hK _ _ (VF.mk rfl) hRW (Ext.rf _))
      ·exact Zp (T:=22) rfl (.pointer (some ⟨w.heap.size,4,none⟩)) (by kernel_rfl) (.slice (some ⟨bb,bo,none⟩) xv.length b) (by go_simp) (hK _ _ (VF.mk rfl) hRW (Ext.rf _))
      ·have h6:=(hD 6 (Zn (by kernel_rfl))).k rfl
       exact Z2 (T:=22) rfl (.slice (some ⟨bb,bo,none⟩) xv.length b) (.int .i64 q) (Eq.trans (b:=u 6) (by kernel_rfl) h6) (by kernel_rfl) (.pointer (some ⟨bb,bo+q,none⟩)) (by go_simp) (hK _ _ (VF.mk rfl) hRW (Ext.rf _))
      ·have h8:=(hD 8 (Zn (by kernel_rfl))).k rfl
       exact Zp (T:=3) rfl (.pointer (some ⟨bb,bo+q,none⟩)) (Eq.trans (b:=u 8) (by kernel_rfl) h8) (.int .i64 y) (by go_simp) (hK _ _ (VF.mk rfl) hRW (Ext.rf _))
      ·have h9:=(hD 9 (Zn (by kernel_rfl))).k rfl
       exact ZbG rfl _ (Eq.trans (b:=u 9) (by kernel_rfl) h9) _ (hbs.out _ _) (hK _ _ (VF.mg rfl fun _=>⟨_,rfl,.new rfl⟩) (hRW.alloc _) ((Ext.rf _).alloc _))
     ·intro u w6 hRW hV
      have h4:=(hV (4,some 63) (by simp)).k rfl;have h6:=(hV (6,some 65) (by simp)).k rfl;have h8:=(hV (8,some 67) (by simp)).k rfl;have h9:=(hV (9,some 68) (by simp)).k rfl;obtain⟨hq,h10,b10⟩:=(hV (10,some 69) (by simp)).g rfl rfl;simp only[Zk,h4,h6,h8,h9,h10];obtain⟨A7,c7,w7,hrun,o7,g7,alt7⟩:=Vr w6 w3.heap.size 22 VA2 VL.length vc2 VL [y] (some ⟨hq,0,none⟩) 1 rfl (OV.out.ext hRW) (.blk b10 rfl) (by simp;omega) (Nat.le_trans Y7.size hRW.size);obtain⟨b7,F7⟩:=ZfX (Bg.out.ext hRW) hgb (OW.out.ext hRW) (OV.out.ext hRW) (OH.out.ext hRW) dd1 dd2 dd3 g7 o7 alt7;have x7:Ext w3 w7:=(Y7.tr hRW).grow g7 (fun k hk=>(OV.out.lt k hk).1);have cg7:=b7.c3;have fg7:=b7.free 3;have Y9:Ext w3 (w7.setCell ⟨g,3,none⟩ (.slice A7 (VL.length+1) c7)):=x7.setNew (p:=⟨g,3,none⟩) hgb _;have F9:=Hd F7;rw[show (VL++[y]).length=VL.length+1 from by simp] at hrun;clear F7 h4 h6 h8 h9 h10 hV b10 o7 g7 alt7 b7;refine Zi 11 (by kernel_rfl) (Zac rfl (.slice VA2 VL.length vc2) (.slice (some ⟨hq,0,none⟩) 1 1) (by kernel_rfl) (by kernel_rfl) _ hrun ?_)
      try simp only[lay]
      refine Za (i:=12) (op:=Op.nilCheck (Operand.tmp 59)) (t:=0) (d:=some 71) (v:=?_) rfl (by decide +kernel) (by decide +kernel) (by decide +kernel) (fun _ _ _ h=>h) ?_ ?_
      case refine_2=>(intro _;unfold Zd;go_simp;try with_reducible rfl)
      try simp only[lay]
      refine Za (i:=13) (op:=Op.fieldAddr 119 (Operand.tmp 71) 3) (t:=0) (d:=some 72) (v:=?_) rfl (by decide +kernel) (by decide +kernel) (by decide +kernel) (fun _ _ _ h=>h) ?_ ?_
      case refine_2=>(intro _;unfold Zd;go_simp;try with_reducible rfl)
      try simp only[lay]
      refine Zi 14 (by kernel_rfl) (Yl rfl (.pointer (some ⟨g,3,none⟩)) (.slice A7 (VL.length+1) c7) (by kernel_rfl) (by kernel_rfl) (by go_simp;rfl) ?_);refine wpAny_done (by kernel_rfl) ?_ _;clear hrun hRW cg7 fg7 x7;generalize w7.setCell ⟨g,3,none⟩ (.slice A7 (VL.length+1) c7)=w9 at *;clear w7;go_simp;go_wp2_with (fail);go_roundw
      case rel=>exact⟨j+1,by go_num,by omega,by rw[EW.out,EV.out];exact F9.out,Y9⟩
      case measure=>simp[intOf];omega
   ·obtain rfl:j=n:=by omega
    have eF:Hid (l.take j=l):=List.take_of_length_le (by rw[RL.out];exact Nat.le_refl _);have HF':Hid (Fill wo w3.heap.size g cap PA l.length pc (Zl l xw) (Zl l xv) (List.replicate (j+1) 0)):=by
     have h:=HF.out;rw[eF.out] at h;exact h
    have lV:(Zl l xv).length=j:=by rw[Z4];exact RL.out
    have bV:Small31 (Zl l xv):=by
     intro z hz;obtain⟨q,hq,rfl⟩:=List.mem_map.1 hz;obtain⟨k,hk⟩:=List.mem_iff_getElem?.1 hq;have hqn:=RM.out k q hk;have:xv[q]?=some (xv[q]'(by rw[lv.out];exact hqn)):=List.getElem?_eq_getElem _;rw[getD_some this];exact sv.out _ (List.getElem_mem _)
    have HF2:Hid (Fill wo w3.heap.size g cap PA l.length pc (Zl l xw) (Zl l xv) (YE (Zl l xv) j)):=by
     have h:=HF'.out;have e9:=ZbM (Zl l xv);rw[lV] at e9;rw[<-e9] at h;exact h
    have hWe:Hid (Zl l xw=Zl (ZU xv xw) xw):=by rw[hl.out];exact rfl
    have hVe:Hid (Zl l xv=Zl (ZU xv xw) xv):=by rw[hl.out];exact rfl
    generalize Zl l xw=XW at *;generalize Zl l xv=XV at *;have k1:=Bi.out.c1;clear HF HF' eF;replace lV:=Hd lV;replace bV:=Hd bV;have hge:l.length<=j:=by rw[RL.out];exact Nat.le_refl _
    have hgeb:decide (j<l.length)=false:=by simpa using hge
    go_wp2_with (fail);go_loopw [10] (fun i wr=>∃ (k:Nat) (z:Int),i=.int .i64 z/\z+1=(k:Int)/\k<=j/\Hid (Fill wr w3.heap.size g cap PA l.length pc XW XV (YE XV k))/\Ext w3 wr) (fun i _=>(intOf i+1).toNat)
    case atStart=>exact⟨j,_,rfl,by omega,by omega,HF2,Y⟩
    case round =>
     obtain⟨wq,rfl⟩:∃ wq:World,wq=wr:=⟨_,rfl⟩;obtain⟨k,z,rfl,hz,hk,HG,Z⟩:=hrel
     by_cases h0:1<=k
     ·obtain⟨m,rfl⟩:∃ m,k=m+1:=⟨k-1,by omega⟩
      obtain rfl:z=(m:Int):=by omega
      obtain⟨WA,wc,VA,vc,HA,hc,Bg,hgb,OW,OV,OH,dd1,dd2,dd3⟩:=HG.out;obtain⟨hb,x0,rfl,hbb,zh,_,_,_,hset⟩:=OH.at (k:=m) (by rw[Wq,lV.out];omega);obtain⟨hb',x1,e1,_,_,ch1,_,ex1,_⟩:=OH.at (k:=m+1) (by rw[Wq,lV.out];omega);obtain rfl:hb=hb':=by injection e1 with e1;injection e1
      obtain rfl:x1=Zj (XV.drop (m+1)):=by
       have h1:=Jw (vs:=XV) (k:=m+1) (i:=m+1) (by rw[lV.out];omega) (Nat.le_refl _);rw[ex1.out] at h1;exact Option.some.inj h1
      obtain⟨vb,y,rfl,_,zv,cv,_,ey,_⟩:=OV.at (k:=m) (by rw[lV.out];omega);have bd1:=ZcC bV.out (m+1);rw[lV.out] at bd1;have bd2:=bV.out.get ey.out;have cB:=Bg.cell 4;have cV:=Bg.cell 3;have zg:=Bg.lt;have lB:(YE XV (m+1)).length=j+1:=by rw[Wq,lV.out]
      simp only[lB,lV.out] at cB cV;obtain⟨S,hS⟩:∃ S,Hid (S=Zj (XV.drop (m+1))):=⟨_,rfl⟩;rw[<-hS.out] at bd1 ch1;replace Bg:=Hd Bg;replace OW:=Hd OW;replace OV:=Hd OV;replace OH:=Hd OH;clear hset HG lB ex1 e1 hz h0;replace cB:wq.cell? ⟨g,4,none⟩=some (.slice (some ⟨hb,0,none⟩) (j+1) hc):=cB;replace cV:wq.cell? ⟨g,3,none⟩=some (.slice (some ⟨vb,0,none⟩) j vc):=cV;have hmj:m<j:=by omega
      have q1:(0:Int)<=(m:Int)+1:=by omega
      have q2:(m:Int)<(j:Int)+1:=by omega
      have q3:(m:Int)+1<(j:Int)+1:=by omega
      have q4:¬((m:Int)+1<0):=by omega
      clear HF2;go_wp2_with (fail);refine wp_region_any (by kernel_rfl) ?_
      change wpAny _ _ _ _ _ _ _ (World.drew _)
      refine Za (i:=0) (op:=Op.move (Operand.tmp 7)) (t:=69) (d:=some 81) (v:=?_) rfl (by decide +kernel) (by decide +kernel) (by decide +kernel) (fun _ _ _ h=>h) ?_ ?_
      case refine_2=>(intro _;unfold Zd;go_simp;try with_reducible rfl)
      try simp only[lay]
      refine Za (i:=1) (op:=Op.nilCheck (Operand.tmp 81)) (t:=0) (d:=some 82) (v:=?_) rfl (by decide +kernel) (by decide +kernel) (by decide +kernel) (fun _ _ _ h=>h) ?_ ?_
      case refine_2=>(intro _;unfold Zd;go_simp;try with_reducible rfl)
      try simp only[lay]
      refine Za (i:=2) (op:=Op.fieldAddr 119 (Operand.tmp 82) 4) (t:=0) (d:=some 83) (v:=?_) rfl (by decide +kernel) (by decide +kernel) (by decide +kernel) (fun _ _ _ h=>h) ?_ ?_
      case refine_2=>(intro _;unfold Zd;go_simp;try with_reducible rfl)
      try simp only[lay]
      refine Za (i:=4) (op:=Op.move (Operand.tmp 10)) (t:=3) (d:=some 85) (v:=?_) rfl (by decide +kernel) (by decide +kernel) (by decide +kernel) (fun _ _ _ h=>h) ?_ ?_
      case refine_2=>(intro _;unfold Zd;go_simp;try with_reducible rfl)
      try simp only[lay]
      refine Za (i:=5) (op:=Op.move (Operand.tmp 7)) (t:=69) (d:=some 86) (v:=?_) rfl (by decide +kernel) (by decide +kernel) (by decide +kernel) (fun _ _ _ h=>h) ?_ ?_
      case refine_2=>(intro _;unfold Zd;go_simp;try with_reducible rfl)
      try simp only[lay]
      refine Za (i:=6) (op:=Op.nilCheck (Operand.tmp 86)) (t:=0) (d:=some 87) (v:=?_) rfl (by decide +kernel) (by decide +kernel) (by decide +kernel) (fun _ _ _ h=>h) ?_ ?_
      case refine_2=>(intro _;unfold Zd;go_simp;try with_reducible rfl)
      try simp only[lay]
      refine Za (i:=7) (op:=Op.fieldAddr 119 (Operand.tmp 87) 4) (t:=0) (d:=some 88) (v:=?_) rfl (by decide +kernel) (by decide +kernel) (by decide +kernel) (fun _ _ _ h=>h) ?_ ?_
      case refine_2=>(intro _;unfold Zd;go_simp;try with_reducible rfl)
      try simp only[lay]
      refine Za (i:=9) (op:=Op.move (Operand.tmp 10)) (t:=3) (d:=some 90) (v:=?_) rfl (by decide +kernel) (by decide +kernel) (by decide +kernel) (fun _ _ _ h=>h) ?_ ?_
      case refine_2=>(intro _;unfold Zd;go_simp;try with_reducible rfl)
      try simp only[lay]
      refine Za (i:=13) (op:=Op.move (Operand.tmp 7)) (t:=69) (d:=some 94) (v:=?_) rfl (by decide +kernel) (by decide +kernel) (by decide +kernel) (fun _ _ _ h=>h) ?_ ?_
      case refine_2=>(intro _;unfold Zd;go_simp;try with_reducible rfl)
      try simp only[lay]
      refine Za (i:=14) (op:=Op.nilCheck (Operand.tmp 94)) (t:=0) (d:=some 95) (v:=?_) rfl (by decide +kernel) (by decide +kernel) (by decide +kernel) (fun _ _ _ h=>h) ?_ ?_
      case refine_2=>(intro _;unfold Zd;go_simp;try with_reducible rfl)
      try simp only[lay]
      refine Za (i:=15) (op:=Op.fieldAddr 119 (Operand.tmp 95) 3) (t:=0) (d:=some 96) (v:=?_) rfl (by decide +kernel) (by decide +kernel) (by decide +kernel) (fun _ _ _ h=>h) ?_ ?_
      case refine_2=>(intro _;unfold Zd;go_simp;try with_reducible rfl)
      try simp only[lay]
      refine Za (i:=17) (op:=Op.move (Operand.tmp 10)) (t:=3) (d:=some 98) (v:=?_) rfl (by decide +kernel) (by decide +kernel) (by decide +kernel) (fun _ _ _ h=>h) ?_ ?_
      case refine_2=>(intro _;unfold Zd;go_simp;try with_reducible rfl)
      try simp only[lay]
      refine Z3 (n:=2) [(3,some 84),(8,some 89),(10,some 91),(11,some 92),(12,some 93),(16,some 97),(18,some 99),(19,some 100),(20,some 101)] (Ext wq)
       (VF (fun | 3=>some (.slice (some ⟨hb,0,none⟩) (j+1) hc) | 8=>some (.slice (some ⟨hb,0,none⟩) (j+1) hc) | 10=>some (.int .i64 ((m:Int)+1)) | 11=>some (.pointer (some ⟨hb,m+1,none⟩)) | 12=>some (.int .i64 S) | 16=>some (.slice (some ⟨vb,0,none⟩) j vc) | 18=>some (.pointer (some ⟨vb,m,none⟩)) | 19=>some (.int .i64 y) | 20=>some (.int .i64 (S+y)) | _=>none) (fun _ _ _=>True))
       Ext #[true,true,true,true,true,true,true,true,true,true,true,true,true,true,true,true,true,true,true,true,true,false,false] (by kernel_rfl) (VF.stab ?_) ?_ ?_ ((Ext.rf _).drew)
      ·intro j v W W' _ h _
       exact h
      ·intro pq hpm u W hRW hD K hK
       have r1:=Zh hRW zg cB;have r2:=Zh hRW zg cV;have r3:=Zh hRW zh ch1;have r4:=Zh hRW zv cv;simp only[List.mem_cons,List.not_mem_nil,or_false] at hpm;rcases hpm with rfl | rfl | rfl | rfl | rfl | rfl | rfl | rfl | rfl
       ·exact Zp (T:=22) rfl (.pointer (some ⟨g,4,none⟩)) (by kernel_rfl) (.slice (some ⟨hb,0,none⟩) (j+1) hc) (by go_simp) (hK _ _ (VF.mk rfl) hRW (Ext.rf _))
       ·exact Zp (T:=22) rfl (.pointer (some ⟨g,4,none⟩)) (by kernel_rfl) (.slice (some ⟨hb,0,none⟩) (j+1) hc) (by go_simp) (hK _ _ (VF.mk rfl) hRW (Ext.rf _))
       ·exact ZM rfl (.int .i64 ((m:Int)+1)) (by simp only[Zk];unfold Zd;go_simp;exact IntWalk.i64_in _ (by omega)) (hK _ _ (VF.mk rfl) hRW (Ext.rf _))
       ·have h8:=(hD 8 (Zn (by kernel_rfl))).k rfl
        have h10:=(hD 10 (Zn (by kernel_rfl))).k rfl;exact Z2 (T:=22) rfl (.slice (some ⟨hb,0,none⟩) (j+1) hc) (.int .i64 ((m:Int)+1)) (Eq.trans (b:=u 8) (by kernel_rfl) h8) (Eq.trans (b:=u 10) (by kernel_rfl) h10) (.pointer (some ⟨hb,m+1,none⟩)) (by go_simp) (hK _ _ (VF.mk rfl) hRW (Ext.rf _))
       ·have h11:=(hD 11 (Zn (by kernel_rfl))).k rfl
        exact Zp (T:=3) rfl (.pointer (some ⟨hb,m+1,none⟩)) (Eq.trans (b:=u 11) (by kernel_rfl) h11) (.int .i64 S) (by go_simp) (hK _ _ (VF.mk rfl) hRW (Ext.rf _))
       ·exact Zp (T:=22) rfl (.pointer (some ⟨g,3,none⟩)) (by kernel_rfl) (.slice (some ⟨vb,0,none⟩) j vc) (by go_simp) (hK _ _ (VF.mk rfl) hRW (Ext.rf _))
       ·have h16:=(hD 16 (Zn (by kernel_rfl))).k rfl
        exact Z2 (T:=22) rfl (.slice (some ⟨vb,0,none⟩) j vc) (.int .i64 m) (Eq.trans (b:=u 16) (by kernel_rfl) h16) (by kernel_rfl) (.pointer (some ⟨vb,m,none⟩)) (by go_simp) (hK _ _ (VF.mk rfl) hRW (Ext.rf _))
       ·have h18:=(hD 18 (Zn (by kernel_rfl))).k rfl
        exact Zp (T:=3) rfl (.pointer (some ⟨vb,m,none⟩)) (Eq.trans (b:=u 18) (by kernel_rfl) h18) (.int .i64 y) (by go_simp) (hK _ _ (VF.mk rfl) hRW (Ext.rf _))
       ·have h12:=(hD 12 (Zn (by kernel_rfl))).k rfl
        have h19:=(hD 19 (Zn (by kernel_rfl))).k rfl;exact ZM rfl (.int .i64 (S+y)) (by simp only[Zk,h12,h19];unfold Zd;go_simp;exact IntWalk.i64_in _ (by omega)) (hK _ _ (VF.mk rfl) hRW (Ext.rf _))
      ·intro u w6 hRW hV
       have h3:=(hV (3,some 84) (by simp)).k rfl;have h8:=(hV (8,some 89) (by simp)).k rfl;have h10:=(hV (10,some 91) (by simp)).k rfl;have h11:=(hV (11,some 92) (by simp)).k rfl;have h12:=(hV (12,some 93) (by simp)).k rfl;have h16:=(hV (16,some 97) (by simp)).k rfl;have h18:=(hV (18,some 99) (by simp)).k rfl;have h19:=(hV (19,some 100) (by simp)).k rfl;have h20:=(hV (20,some 101) (by simp)).k rfl;simp only[Zk,h3,h8,h10,h11,h12,h16,h18,h19,h20];clear hV h3 h8 h10 h11 h12 h16 h18 h19 h20;have Z6:=Z.tr hRW;obtain⟨x2,ch2,fh2,_,_,hset⟩:=(OH.out.ext hRW).cell (k:=m) (by rw[Wq,lV.out];omega);have HN:Hid (Fill (w6.setCell ⟨hb,m,none⟩ (.int .i64 (S+y))) w3.heap.size g cap PA l.length pc XW XV (YE XV m)):=by
        have h:=ZfY (Bg.out.ext hRW) hgb (OW.out.ext hRW) (OV.out.ext hRW) (OH.out.ext hRW) dd1 dd2 dd3 (k:=m) (y:=S+y) (hset.out _);rw[hS.out,Zdb ey.out] at h;rw[hS.out];exact h
       have ZN:=Hd (Z6.setNew (p:=⟨hb,m,none⟩) hbb (.int .i64 (S+y)));clear hset
       try simp only[lay]
       refine Za (i:=21) (op:=Op.indexAddr 22 (Operand.tmp 84) (Operand.tmp 85)) (t:=0) (d:=some 102) (v:=?_) rfl (by decide +kernel) (by decide +kernel) (by decide +kernel) (fun _ _ _ h=>h) ?_ ?_
       case refine_2=>(intro _;unfold Zd;go_simp;try with_reducible rfl)
       try simp only[lay]
       refine Zi 22 (by kernel_rfl) (Yl rfl (.pointer (some ⟨hb,m,none⟩)) (.int .i64 (S+y)) (by kernel_rfl) (by kernel_rfl) (by go_simp;rfl) ?_);refine wpAny_done (by kernel_rfl) ?_ _;clear ch2 fh2 hRW Z6;generalize w6.setCell ⟨hb,m,none⟩ (.int .i64 (S+y))=w8 at *;clear w6;go_simp;go_wp2_with (fail);go_roundw
       case rel=>exact⟨m,_,rfl,by omega,by omega,HN,ZN.out⟩
       case measure=>simp[intOf]
     ·obtain rfl:k=0:=by omega
      obtain rfl:z=-1:=by omega
      go_wp2_with (fail);go_ret2;obtain⟨WA,wc,VA,vc,HA,hc,Bg,hgb,OW,OV,OH,-,-,-⟩:=HG.out;have bw3:=X3.out.size;refine⟨g,rfl,⟨PA,pc,WA,wc,VA,vc,HA,hc,?_,Nat.le_trans bw3 hgb,⟨?_,bP'.out⟩,⟨?_,fun k hk=>Nat.le_trans bw3 (OW.lt k hk).1⟩,⟨?_,fun k hk=>Nat.le_trans bw3 (OV.lt k hk).1⟩,⟨?_,fun k hk=>Nat.le_trans bw3 (OH.lt k hk).1⟩⟩,X3.out.tr Z⟩
      ·rw[<-hWe.out,<-hVe.out,<-hl.out]
       exact Bg
      ·rw[<-hl.out]
       exact rP.out.ext Z
      ·rw[<-hWe.out]
       exact OW.read
      ·rw[<-hVe.out]
       exact OV.read
      ·rw[<-hVe.out]
       exact OH.read
structure KOk (cap:Int)(l:List Nat)(ws vs bs:List Int) : Prop where
 cap:0<=cap/\cap<=2147483647
 l64:l.length<=64
 lw:ws.length=l.length
 lv:vs.length=l.length
 lb:bs.length=l.length+1
 sw:Small31 ws
 sv:Small31 vs
theorem Jy {base g:Nat}{cap:Int}{l:List Nat}{ws vs bs:List Int}(w:World)(H:KernB w base g cap l ws vs bs) :
  Calls Tryz.prog 251 #[.pointer (some ⟨g,0,none⟩)] w fun e w'=>e=.returned (.int .i64 l.length)/\Ext w w':=by
 obtain⟨PA,pc,WA,wc,VA,vc,HA,hc,hB,-⟩:=H;have c1:=hB.c1;replace hB:=Hd hB;go_enter Tryz.func251,Tryz.ntmps251;go_wp2;go_ret;exact⟨rfl,Ext.rf _⟩
def QI : Option (Int×Int)->Value
 | some (r,o)=>.tuple #[.int .i64 r,.int .i64 o,.bool true]
 | none=>.tuple #[.int .i64 0,.int .i64 0,.bool false]
theorem Jz {base g:Nat}{cap:Int}{l:List Nat}{ws vs bs:List Int}(P:Option Addr)(c:Nat)(p:List Int)(w:World)(H:KernB w base g cap l ws vs bs)(ok:KOk cap l ws vs bs)(hP:RdI w P p)(lp:p.length<=1000000000) :
  Calls Tryz.prog 253 #[.pointer (some ⟨g,0,none⟩),.slice P p.length c] w fun e w'=>e=.returned (QI (stP cap 0 ws vs p))/\Ext w w':=by
 obtain⟨PA,pc,WA,wc,VA,vc,HA,hc,hB,-,-,⟨rW,-⟩,⟨rV,-⟩,-⟩:=H;obtain⟨okc,l64,lw,lv,lb,sw,sv⟩:=ok;have c0:=hB.c0;have c1:=hB.c1;have c2:=hB.c2;have c3:=hB.c3;have zg:=hB.lt;replace hB:=Hd hB;replace lw:=Hd lw;replace lv:=Hd lv;replace lb:=Hd lb
 by_cases hlen:l.length<p.length
 ·have HN:Hid (stP cap 0 ws vs p=none):=Uf (by rw[lw.out];exact hlen)
  have hgt:decide (l.length<p.length)=true:=by simpa using hlen
  go_enter Tryz.func253,Tryz.ntmps253;go_wp2;go_ret3;exact⟨by rw[HN.out];rfl,Ext.rf _⟩
 ·have hgt:decide (l.length<p.length)=false:=by simpa using hlen
  go_enter Tryz.func253,Tryz.ntmps253;go_wp2_with (fail);go_loopw [4,5,27] (fun r o i wr=>∃ (k:Nat) (room out:Int),i=.int .i64 k/\r=.int .i64 room/\o=.int .i64 out/\k<=p.length/\0<=room/\room<=2147483647/\0<=out/\out<=2147483647*(k:Int)/\Hid (stP cap 0 ws vs p=stP room out (ws.drop k) (vs.drop k) (p.drop k))/\Ext w wr) (fun _ _ i _=>p.length-(intOf i).toNat)
  case atStart=>exact⟨0,cap,0,rfl,rfl,rfl,by omega,okc.1,okc.2,by omega,by omega,by exact rfl,Ext.rf _⟩
  case round =>
   obtain⟨k,room,out,rfl,rfl,rfl,hk,b1,b2,b3,b4,HS,Y⟩:=hrel
   by_cases hlt:k<p.length
   ·obtain⟨pb,po,x,rfl,_,cx,ex,dx⟩:=(hP.ext Y).at hlt
    have hkw:k<ws.length:=by rw[lw.out];omega
    have hkv:k<vs.length:=by rw[lv.out];omega
    obtain⟨wb,wo,u,rfl,_,cu,eu,du⟩:=(rW.ext Y).at hkw;obtain⟨vb,vo,v,rfl,_,cv,ev,dv⟩:=(rV.ext Y).at hkv;have bu:=sw.get eu.out;have bv:=sv.get ev.out;have k0:=Zh Y zg c0;have k2:=Zh Y zg c2;have k3:=Zh Y zg c3;have HT:Hid (stP cap 0 ws vs p=if x=1 then(if room-u<0 then none else stP (room-u) out (ws.drop (k+1)) (vs.drop (k+1)) (p.drop (k+1))) else if x=0 then(if room<0 then none else stP room (out+v) (ws.drop (k+1)) (vs.drop (k+1)) (p.drop (k+1))) else none):=by
     have h:=HS.out;rw[dx.out,du.out,dv.out] at h;exact h
    clear HS ex eu ev dx du dv sw sv
    by_cases x1:x=1
    ·subst x1
     by_cases hneg:room-u<0
     ·have HN:Hid (stP cap 0 ws vs p=none):=by
       have h:=HT.out;rw[if_pos rfl,if_pos hneg] at h;exact h
      go_wp2;go_ret3;exact⟨by rw[HN.out];rfl,Y⟩
     ·have HN:Hid (stP cap 0 ws vs p=stP (room-u) out (ws.drop (k+1)) (vs.drop (k+1)) (p.drop (k+1))):=by
       have h:=HT.out;rw[if_pos rfl,if_neg hneg] at h;exact h
      go_wp2;go_roundw
      case rel=>exact⟨k+1,room-u,out,by go_num,rfl,rfl,by omega,by omega,by omega,by omega,by omega,HN,Y⟩
      case measure=>simp[intOf];omega
    ·have x1':(x==1)=false:=by simpa using x1
     by_cases x0:x=0
     ·subst x0
      have HN:Hid (stP cap 0 ws vs p=stP room (out+v) (ws.drop (k+1)) (vs.drop (k+1)) (p.drop (k+1))):=by
       have h:=HT.out;rw[if_neg x1,if_pos rfl,if_neg (by omega)] at h;exact h
      clear x1;go_wp2;go_roundw
      case rel=>exact⟨k+1,room,out+v,by go_num,rfl,rfl,by omega,by omega,by omega,by omega,by omega,HN,Y⟩
      case measure=>simp[intOf];omega
     ·have x0':(x==0)=false:=by simpa using x0
      have HN:Hid (stP cap 0 ws vs p=none):=by
       have h:=HT.out;rw[if_neg x1,if_neg x0] at h;exact h
      clear x1 x0;go_wp2;go_ret3;exact⟨by rw[HN.out];rfl,Y⟩
   ·have HN:Hid (stP cap 0 ws vs p=some (room,out)):=by
     have h:=HS.out;rw[List.drop_of_length_le (l:=p) (by omega)] at h;rw[h]
     cases ws.drop k<;>cases vs.drop k<;>rfl
    clear HS sw sv;go_wp2;go_ret3;exact⟨by rw[HN.out];rfl,Y⟩
theorem Zdc (x y:Int)(w:World)(hx:0<=x)(hx':x<=4611686014132420609)(hy:1<=y)(hy':y<=2147483647) :
  Calls Tryz.prog 256 #[.int .u64 0,.int .u64 x,.int .u64 y] w fun e w'=>e=.returned (.tuple #[.int .u64 (x / y),.int .u64 (x%y)])/\Ext w w':=by
 have y0:(y==0)=false:=by rw[beq_eq_false_iff_ne];omega
 have y1:decide (y<=0)=false:=by simp;omega
 go_enter Tryz.func256,Tryz.ntmps256;go_wp2_with (go_quiet (fail));go_ret2;exact⟨rfl,by(repeat (first | assumption | exact Ext.rf _ | apply Ext.drew | apply Ext.drewN | apply Ext.alloc))⟩
theorem Zep (a b c:Int)(w:World)(ha:0<=a/\a<=2147483647)(hb:0<=b/\b<=2147483647)(hc:1<=c/\c<=2147483647) :
  Calls Tryz.prog 255 #[.int .i64 a,.int .i64 b,.int .i64 c] w fun e w'=>e=.returned (.tuple #[.int .i64 (a*b / c),.bool true])/\Ext w w':=by
 obtain⟨ha,ha'⟩:=ha;obtain⟨hb,hb'⟩:=hb;obtain⟨hc,hc'⟩:=hc;have hm:=QB ha ha' hb hb';have wa:IntKind.u64.wrap a=a:=wraps_u64 _ ha (by omega);have wb:IntKind.u64.wrap b=b:=wraps_u64 _ hb (by omega);have wc:IntKind.u64.wrap c=c:=wraps_u64 _ (by omega) (by omega);have M:=Jr a b;have D:=Zdc (a*b) c;have hq:0<=a*b / c/\a*b / c<=4611686014132420609:=by
  refine⟨Int.ediv_nonneg hm.1 (by omega),?_⟩;have:=Int.ediv_le_self c hm.1;omega
 have na:decide (a<0)=false:=by simpa using ha
 have nb:decide (b<0)=false:=by simpa using hb
 have nc:decide (c<=0)=false:=by simp;omega
 generalize a*b=p at *;generalize p / c=q at *;generalize p%c=r at *;obtain⟨hm1,hm2⟩:=hm;obtain⟨hq1,hq2⟩:=hq;have wq:IntKind.i64.wrap q=q:=IntWalk.i64_in _ (by omega);have hcc:decide (c<=0)=false:=nc;have ng:¬(9223372036854775807<q):=by omega
 replace M:=Hd M;replace D:=Hd D;go_enter Tryz.func255,Tryz.ntmps255;go_wp2_with (fail);refine(M.out _ ha ha' hb hb').mono ?_;rintro e w1 ⟨rfl,x1⟩;go_wp2_with (fail);refine(D.out _ hm1 hm2 hc hc').mono ?_;rintro e w2 ⟨rfl,x2⟩;go_wp2;go_ret2;exact⟨rfl,Ext.tr x1 x2⟩
def ZaT (i:InstP) : Prop:=Ints i.weight/\Ints i.value/\∀ r∈i.cost,Ints r
theorem RInst.ints {w:World}{vs:List Value}{i:InstP}(h:RInst w vs i) : ZaT i:=by
 obtain⟨A,a,B,b,C,c,rfl,⟨_,h2,_⟩,⟨_,h4,_⟩,⟨h5,_⟩⟩:=h;refine⟨h2,h4,fun r hr=>?_⟩;obtain⟨k,hk,rfl⟩:=List.mem_iff_getElem.1 hr;obtain⟨_,_,_,row,_,_,_,_,he,_,_,hi,_⟩:=h5.ints hk;have h:=he.out;rw[List.getElem?_eq_getElem hk] at h;rw[Option.some.inj h];exact hi
theorem InstO.rinst {w:World}{base:Nat}{vs:List Value}{i:InstP}(h:InstO w base vs i)(hi:ZaT i) : RInst w vs i:=by
 obtain⟨A,a,B,b,C,c,us,rfl,h1,h2,h3,h4⟩:=h;refine⟨A,a,B,b,C,c,rfl,⟨h1.read,hi.1,h1.le.1,h1.le.2⟩,⟨h2.read,hi.2.1,h2.le.1,h2.le.2⟩,?_,h3.le.1,h3.le.2⟩;rcases h3.read with h0 | ⟨b',off,cur,hA,hb,hc⟩
 ·left
  have:=h4.1;rw[h0] at this;exact List.eq_nil_of_length_eq_zero this.symm
 ·refine .inr ⟨b',off,hA,(Array.getElem?_eq_some_iff.1 hb).1,fun k r hr=>?_⟩
  obtain⟨A',c',hu,ho⟩:=h4.2 k r hr;refine⟨[.slice A' r.length c'],⟨A',c',rfl,ho.read,hi.2.2 r (List.mem_of_getElem? hr),ho.le.1,ho.le.2⟩,rfl,fun j v hj=>?_⟩
  cases j with
  | zero =>
   simp at hj;subst hj;rw[cell_of_row w b' _ cur _ (0,0) hb]
   simpa using hc k _ hu
  | succ j=>simp at hj
theorem InstO.ext {w w':World}{base:Nat}{vs:List Value}{i:InstP}(h:InstO w base vs i)(x:Ext w w') : InstO w' base vs i:=by
 obtain⟨A,a,B,b,C,c,us,rfl,h1,h2,h3,h4⟩:=h;exact⟨A,a,B,b,C,c,us,rfl,h1.ext x,h2.ext x,h3.ext x,h4.ext x⟩
theorem InstO.modT {w w':World}{base base':Nat}{ts:List TypeId}{vs:List Value}{i:InstP}(h:InstO w base vs i)(k:ModT base' ts w w')(h1:3∉ts)(h2:22∉ts) : InstO w' base vs i:=by
 obtain⟨A,a,B,b,C,c,us,rfl,g1,g2,g3,g4⟩:=h;exact⟨A,a,B,b,C,c,us,rfl,g1.modT k h1,g2.modT k h1,g3.modT k h2,g4.modT k h1⟩
theorem Zeq {w w2:World}{a0 a1 a2 a3 a4 a5 u0 u1 u2 u3 u4 u5:Value}{j:InstP}{base:Nat}
  (hB:Blk w2 w.heap.size 25 #[a0,a1,a2,a3,a4,a5]) (x:Ext w w2) (hO:InstO w2 base [u0,u1,u2,u3,u4,u5] j) :
  Ext w ((((((w2.setCell ⟨w.heap.size,0,none⟩ u0).setCell ⟨w.heap.size,1,none⟩ u1).setCell ⟨w.heap.size,2,none⟩ u2).setCell ⟨w.heap.size,3,none⟩ u3).setCell ⟨w.heap.size,4,none⟩ u4).setCell ⟨w.heap.size,5,none⟩ u5) /\
  Blk ((((((w2.setCell ⟨w.heap.size,0,none⟩ u0).setCell ⟨w.heap.size,1,none⟩ u1).setCell ⟨w.heap.size,2,none⟩ u2).setCell ⟨w.heap.size,3,none⟩ u3).setCell ⟨w.heap.size,4,none⟩ u4).setCell ⟨w.heap.size,5,none⟩ u5) w.heap.size 25 #[u0,u1,u2,u3,u4,u5] /\
  InstO ((((((w2.setCell ⟨w.heap.size,0,none⟩ u0).setCell ⟨w.heap.size,1,none⟩ u1).setCell ⟨w.heap.size,2,none⟩ u2).setCell ⟨w.heap.size,3,none⟩ u3).setCell ⟨w.heap.size,4,none⟩ u4).setCell ⟨w.heap.size,5,none⟩ u5) base [u0,u1,u2,u3,u4,u5] j:=by
 obtain⟨h1,h2⟩:=ZfU hB (base:=w.heap.size) (Nat.le_refl _) u0 u1 u2 u3 u4 u5;exact⟨x.modT h2 (Nat.le_refl _),h1,hO.modT h2 (by decide) (by decide)⟩
def Ze (l:List Nat) : List Int:=l.map fun n:Nat=>(n:Int)
theorem Zm (l:List Nat) : (Ze l).length=l.length:=by simp[Ze]
def Zs : List (List Int)->List Int->Int
 | row::rows,c::p=>row.getD c.toNat 0+Zs rows p
 | _,_=>0
theorem QJ {F:Nat->Int} : ∀ {rows:List (List Int)} {off:List Int} {q:List Nat},rows.length=q.length->off.length=q.length->(∀ (k c:Nat) (x:List Int) (o:Int),rows[k]?=some x->off[k]?=some o->q[k]?=some c->o+F c<=x.getD c 0)->Zj off+Zj (q.map F)<=Zs rows (Ze q)
 | [],off,q,h1,h2,_=>by
  have:q=[]:=List.eq_nil_of_length_eq_zero (by simpa using h1.symm);subst this;have:off=[]:=List.eq_nil_of_length_eq_zero (by simpa using h2);subst this;simp[Zj,Zs,Ze]
 | r::rows,[],q,h1,h2,_=>by
  exfalso
  simp at h1 h2;omega
 | r::rows,o::off,[],h1,_,_=>by simp at h1
 | r::rows,o::off,c::q,h1,h2,h=>by
  have h3:=h 0 c r o rfl rfl rfl;have ih:=QJ (F:=F) (rows:=rows) (off:=off) (q:=q) (by simpa using h1) (by simpa using h2) fun k c x o a b d=>h (k+1) c x o a b d
  simp only[Ze,List.map_cons,Zj,Zs] at ih ⊢;rw[Int.toNat_natCast];omega
def Zb (rows:List (List Int))(a b:Nat) : Int:=(rows.getD a []).getD b 0
structure RowsOk (rows:List (List Int)) : Prop where
 n1:1<=rows.length
 n2:rows.length<=24
 row:∀ row∈rows,row.length=rows.length
 num:∀ row∈rows,∀ x∈row,0<=x/\x<=2147483647
theorem RowsOk.get {rows:List (List Int)}(h:RowsOk rows){row:List Int}(hr:row∈rows){c:Nat}(hc:c<rows.length) : 0<=row.getD c 0/\row.getD c 0<=2147483647:=by
 have h1:c<row.length:=by rw[h.row row hr];exact hc
 have h2:row.getD c 0=row[c]:=by simp[List.getD,List.getElem?_eq_getElem h1]
 rw[h2];exact h.num row hr _ (List.getElem_mem _)
theorem Yp : ∀ {rows:List (List Int)} {q:List Nat},rows.length=q.length->Zs rows (Ze q)=Zj ((List.range q.length).map fun k=>Zb rows k (q.getD k 0))
 | [],[],_=>rfl
 | [],_::_,h=>by simp at h
 | _::_,[],h=>by simp at h
 | r::rows,c::q,h=>by
  have ih:=Yp (rows:=rows) (q:=q) (by simpa using h);have e:(List.range (c::q).length).map (fun k=>Zb (r::rows) k ((c::q).getD k 0))=Zb (r::rows) 0 c::(List.range q.length).map fun k=>Zb rows k (q.getD k 0):=by
   rw[List.length_cons,List.range_succ_eq_map,List.map_cons,List.map_map]
   rfl
  rw[e];simp only[Ze,List.map_cons,Zj,Zs] at ih ⊢;rw[Int.toNat_natCast,ih]
  rfl
theorem Wh (a b:List Int) : Zj (a++b)=Zj a+Zj b:=by
 induction a with
 | nil=>simp[Zj]
 | cons x a ih=>simp only[List.cons_append,Zj,ih];omega
end Go.Proofs.YtmojhhlcocjoaaaGreatDoor
namespace Go.Proofs.YtmojhhlcocjoaaaGreatDoor
open Go
def ZR (a b:Nat) : Nat:=(BitVec.ofNat 64 a &&& ~~~ BitVec.ofNat 64 b).toNat
theorem VS (a b:Nat) : ZR a b<18446744073709551616:=(BitVec.ofNat 64 a &&& ~~~ BitVec.ofNat 64 b).isLt
theorem WU (a b:Nat)(ha:a<18446744073709551616)(hb:b<18446744073709551616) : bits .andNot .u64 (a:Int) (b:Int)=((ZR a b:Nat):Int):=by
 have h1:BitVec.ofInt 64 (a:Int)=BitVec.ofNat 64 a:=BitVec.ofInt_natCast ..;have h2:BitVec.ofInt 64 (b:Int)=BitVec.ofNat 64 b:=BitVec.ofInt_natCast ..;show IntKind.u64.wrap ((BitVec.ofInt 64 (a:Int) &&& ~~~ BitVec.ofInt 64 (b:Int)).toNat:Int)=_;rw[h1,h2,IntKind.wrap_u64];have:=VS a b;unfold ZR at this ⊢;omega
theorem W5 {a b j:Nat}(ha:a<18446744073709551616) : (ZR a b).testBit j=(a.testBit j && !b.testBit j):=by
 unfold ZR;rw[BitVec.testBit_toNat,BitVec.getLsbD_and,BitVec.getLsbD_not,BitVec.getLsbD_ofNat,BitVec.getLsbD_ofNat]
 by_cases hj:j<64
 ·simp[hj]
 ·have:a.testBit j=false:=Nat.testBit_lt_two_pow (Nat.lt_of_lt_of_le ha (by
   have:2^64<=2^j:=Nat.pow_le_pow_right (by omega) (by omega);omega))
  simp[hj,this]
def Zc (m:Nat) : List Nat:=(List.range 64).filter fun j=>m.testBit j
theorem Z1 {m j:Nat} : j∈Zc m↔j<64/\m.testBit j=true:=by simp[Zc]
theorem Zu (m:Nat) : (Zc m).Pairwise (· < ·):=List.Pairwise.filter _ List.pairwise_lt_range
theorem VT : Zc 0=[]:=by simp[Zc]
theorem Xq (m:Nat) : (Zc m).length<=64:=by
 have:=List.length_filter_le (fun j=>m.testBit j) (List.range 64)
 simpa [Zc] using this
theorem QK {m:Nat}(h0:m≠0)(h:m<18446744073709551616) : (Zc m).head?=some (Lib.ctz 64 m):=by
 have hc:Lib.ctz 64 m=Lib.ctzFrom 64 m:=by unfold Lib.ctz;rw[if_neg h0]
 obtain⟨q,h1,h2⟩:=Lib.ctzFrom_spec 64 m (by omega) (by omega);rw[hc];generalize Lib.ctzFrom 64 m=k at *;have hbit:∀ j,m.testBit j=(decide (k<=j)&&(2*q+1).testBit (j-k)):=fun j=>by rw[h1,Nat.testBit_two_pow_mul]
 have e:List.range 64=List.range k++(k::(List.range (64-k-1)).map (· + (k+1))):=by
  have:List.range 64=List.range (k+((64-k-1)+1)):=by congr 1;omega
  rw[this,List.range_add,List.range_succ_eq_map];simp only[List.map_cons,List.map_map,Nat.add_zero]
  congr 2
  apply List.map_congr_left;intro a _;simp[Function.comp_def];omega
 have e1:(List.range k).filter (fun j=>m.testBit j)=[]:=by
  rw[List.filter_eq_nil_iff];intro j hj;have:=List.mem_range.1 hj;rw[hbit,decide_eq_false (by omega)];simp
 have e2:m.testBit k=true:=by
  rw[hbit,decide_eq_true (Nat.le_refl _),Nat.sub_self,Nat.testBit_zero];simp
 unfold Zc;rw[e,List.filter_append,e1,List.filter_cons,e2]
 rfl
theorem ZbN {m x:Nat}{pre rest:List Nat}(h:m<18446744073709551616)(hx:Zc m=pre++x::rest) : Zc (ZR m (2^(x+1)-1))=rest:=by
 have hs:=Zu m;rw[hx] at hs;have h1:=List.pairwise_append.1 hs;have h2:=List.pairwise_cons.1 h1.2.1;have e:Zc (ZR m (2^(x+1)-1))=(Zc m).filter fun j=>decide (x<j):=by
  unfold Zc;rw[List.filter_filter];refine List.filter_congr fun j _=>?_
  rw[W5 h,Nat.testBit_two_pow_sub_one]
  by_cases hj:j<x+1
  ·have:¬x<j:=by omega
   simp[hj,this]
  ·have:x<j:=by omega
   simp[hj,this]
 rw[e,hx,List.filter_append,List.filter_cons,decide_eq_false (by omega),List.filter_eq_nil_iff.2 (fun j hj=>by
  have:=h1.2.2 j hj x (by simp);simp;omega),List.filter_eq_self.2 (fun j hj=>by
  have:=h2.1 j hj
  simpa using this)]
 rfl
def Zx (m i:Nat) : Nat:=ZR m (2^i)
theorem ZaU {m i j:Nat}(h:m<18446744073709551616) : (Zx m i).testBit j=(m.testBit j&&decide (i≠j)):=by
 unfold Zx;rw[W5 h,Nat.testBit_two_pow]
 by_cases hij:i=j<;>simp[hij]
theorem Xf {m i:Nat}(h:m<18446744073709551616) : Zc (Zx m i)=(Zc m).filter fun j=>decide (i≠j):=by
 unfold Zc;rw[List.filter_filter];refine List.filter_congr fun j _=>?_
 rw[ZaU h,Bool.and_comm]
theorem YI {n:Nat}(h:n<=64) : Zc (2^n-1)=List.range n:=by
 have e:List.range 64=List.range n++(List.range (64-n)).map (n + ·):=by
  rw[<-List.range_add]
  congr 1
  omega
 unfold Zc;rw[e,List.filter_append,List.filter_eq_self.2 (fun j hj=>by
  rw[Nat.testBit_two_pow_sub_one];simpa using hj),List.filter_eq_nil_iff.2 (fun j hj=>by
  obtain⟨a,_,rfl⟩:=List.mem_map.1 hj;rw[Nat.testBit_two_pow_sub_one];simp),List.append_nil]
def QL : List Nat->Int
 | []=>-1
 | x::_=>(x:Int)
theorem ZcE (m i:Nat) : (m / 2^i)%2=if m.testBit i=true then 1 else 0:=by
 rw[Nat.testBit_eq_decide_div_mod_eq];have:m / 2^i%2<2:=Nat.mod_lt _ (by omega)
 by_cases h:m / 2^i%2=1
 ·simp[h]
 ·have h0:m / 2^i%2=0:=by omega
  simp[h0]
end Go.Proofs.YtmojhhlcocjoaaaGreatDoor
namespace Go.Proofs.YtmojhhlcocjoaaaGreatDoor
open Go.RowKit Go.ChangeShapes Go.WideShapes Go.ChangeAt Go.Deep
def setV (m:Nat) : Value:=.agg #[.int .u64 m,.int .u64 0]
def Tab (w:World) : Prop:=TabAt 0 Lib.deBruijn64tab w
theorem Tab.ext {w w':World}(h:Tab w)(x:Ext w w') : Tab w':=fun j hj=>by
 have h1:=h j hj;have h2:(⟨0,j,none⟩:Addr).block<w.heap.size:=World.block_lt_of_cell? w _ h1;rw[x.cell h2];exact h1
theorem Zfk (x k idx:Nat)(w:World)(hx0:((x:Int)==0)=false)
  (key:IntKind.u64.wrap (bits BinOp.and IntKind.u64 (x:Int) (IntKind.u64.wrap (-(x:Int)))*285870213051353865) / 288230376151711744=(idx:Int))
  (hi:idx<64) (hk:k<64) (hcell:w.cell? ⟨0,idx,none⟩=some (.int .u8 k)) :
  Calls Tryz.prog 170 #[.int .u64 x] w fun e w'=>e=.returned (.int .i64 k)/\Ext w w':=by
 go_enter Tryz.func170,Tryz.ntmps170;go_wp2_with (simp only[key]);go_ret;exact⟨rfl,Ext.rf _⟩
theorem ZfZ (x:Nat)(hx:x<18446744073709551616)(hx0:x≠0)(w:World)(hT:Tab w) :
  Calls Tryz.prog 170 #[.int .u64 x] w fun e w'=>e=.returned (.int .i64 (Lib.ctz 64 x))/\Ext w w':=by
 obtain⟨hlow,hk⟩:=Lib.lowest_bit 64 x hx0 hx;obtain⟨hi,htab⟩:=Lib.deBruijn64_at _ hk;have hcell:=hT _ hi;rw[htab] at hcell;exact Zfk x _ _ w (by simp;omega) (tz64_key x _ hx hx0 hlow) hi hk hcell
theorem Yq (i:Int)(w:World) : Calls Tryz.prog 169 #[.int .i64 i] w fun e w'=>e=.returned (.bool (decide (0<=i)&&decide (i<128)))/\Ext w w':=by
 by_cases h0:0<=i
 ·have hb:decide (0<=i)=true:=decide_eq_true h0
  go_enter Tryz.func169,Tryz.ntmps169;go_wp2;go_ret;exact⟨by simp[hb],Ext.rf _⟩
 ·have hb:decide (0<=i)=false:=decide_eq_false h0
  go_enter Tryz.func169,Tryz.ntmps169;go_wp2;go_ret;exact⟨by simp[hb],Ext.rf _⟩
theorem Zdd (a b:Nat)(ha:a<18446744073709551616)(hb:b<18446744073709551616)(w:World) : Calls Tryz.prog 171 #[setV a,setV b] w fun e w'=>e=.returned (setV (ZR a b))/\Ext w w':=by
 have k:=WU a b ha hb;have k0:bits .andNot .u64 0 0=0:=by decide +kernel
 clear ha hb;unfold setV;go_enter Tryz.func171,Tryz.ntmps171;go_wp2;refine bodyPost_ret (v:=.agg #[.int .u64 (ZR a b),.int .u64 0]) (by simp[results,Tryz.results171,go_sem]) rfl ⟨rfl,?_⟩
 repeat (first | exact Ext.rf _ | apply Ext.alloc | (refine Ext.setNew ?_ (by simp<;>omega) _))
theorem ZaV (m n:Nat)(hm:m<18446744073709551616) : (bits BinOp.and IntKind.u64 ((m:Int) / 2^n) 1==1)=m.testBit n:=by
 have e:((m:Int) / 2^n)=((m / 2^n:Nat):Int):=by rw[Int.natCast_ediv,Int.natCast_pow];rfl
 have hlt:m / 2^n<18446744073709551616:=Nat.lt_of_le_of_lt (Nat.div_le_self _ _) hm;have h:=bits_and_u64_nat (m / 2^n) 1 hlt (by omega);rw[e,show ((1:Int))=((1:Nat):Int) from rfl,h,Nat.and_one_is_mod,ZcE];split<;>rename_i hb
 ·rw[hb];rfl
 ·simp at hb;rw[hb];rfl
theorem Zaj (m:Nat)(i:Int)(hm:m<18446744073709551616)(w:World) : Calls Tryz.prog 267 #[setV m,.int .i64 i] w fun e w'=>e=.returned (.bool (decide (0<=i/\i<64)&&m.testBit i.toNat))/\Ext w w':=by
 by_cases h0:0<=i/\i<64
 ·obtain⟨n,rfl⟩:∃ n:Nat,i=(n:Int):=⟨i.toNat,by omega⟩
  have hn:n<64:=by omega
  unfold setV;have B1:Blk (w.alloc (.cells #[.int .u64 m,.int .u64 0] 141)) w.heap.size 141 #[.int .u64 m,.int .u64 0]:=.new rfl;go_enter Tryz.func267,Tryz.ntmps267;go_wp2_with (fail);refine(Yq _ _).mono ?_;rintro e w1 ⟨rfl,x1⟩;have c0:w1.cell? ⟨w.heap.size,0,none⟩=some (.int .u64 m):=(B1.ext x1).cell 0;have X1:=Hd (Ext.tr (a:=w) (by(repeat (first | assumption | exact Ext.rf _ | apply Ext.drew | apply Ext.drewN | apply Ext.alloc))) x1);clear x1 B1;have e1:(decide (0<=(n:Int))&&decide ((n:Int)<128))=true:=by simp;omega
  rw[e1];have F:=ZaV m n hm;have q1:(n:Int) / 64=0:=by omega
  have q2:(n:Int)%64=(n:Int):=by omega
  go_wp2_with (fail);go_ret;exact⟨Jp (by rw[decide_eq_true (p:=0<=(n:Int)/\(n:Int)<64) (by omega)];simp),X1.out⟩
 ·unfold setV
  have eF:(decide (0<=i/\i<64)&&m.testBit i.toNat)=false:=by rw[decide_eq_false h0];rfl
  rw[eF];have B1:Blk (w.alloc (.cells #[.int .u64 m,.int .u64 0] 141)) w.heap.size 141 #[.int .u64 m,.int .u64 0]:=.new rfl
  by_cases h1:0<=i/\i<128
  ·obtain⟨n,rfl⟩:∃ n:Nat,i=(n:Int):=⟨i.toNat,by omega⟩
   have hn:64<=n:=by omega
   have hn2:n<128:=by omega
   go_enter Tryz.func267,Tryz.ntmps267;go_wp2_with (fail);refine(Yq _ _).mono ?_;rintro e w1 ⟨rfl,x1⟩;have c1:w1.cell? ⟨w.heap.size,1,none⟩=some (.int .u64 0):=(B1.ext x1).cell 1;have X1:=Hd (Ext.tr (a:=w) (by(repeat (first | assumption | exact Ext.rf _ | apply Ext.drew | apply Ext.drewN | apply Ext.alloc))) x1);clear x1 B1;have e1:(decide (0<=(n:Int))&&decide ((n:Int)<128))=true:=by simp;omega
   rw[e1];have q1:(n:Int) / 64=1:=by omega
   have F:bits BinOp.and IntKind.u64 0 1=0:=by decide +kernel
   clear h0 h1 eF;go_wp2_with (fail);go_ret;exact⟨rfl,X1.out⟩
  ·have e1:(decide (0<=i)&&decide (i<128))=false:=by
    by_cases h2:0<=i
    ·rw[decide_eq_false (p:=i<128) (by omega)];simp
    ·rw[decide_eq_false h2];rfl
   clear h0 h1 eF;go_enter Tryz.func267,Tryz.ntmps267;go_wp2_with (fail);refine(Yq _ _).mono ?_;rintro e w1 ⟨rfl,x1⟩;have X1:=Hd (Ext.tr (a:=w) (by(repeat (first | assumption | exact Ext.rf _ | apply Ext.drew | apply Ext.drewN | apply Ext.alloc))) x1);clear x1 B1;rw[e1];go_wp2_with (fail);go_ret;exact⟨rfl,X1.out⟩
theorem Uk (i:Nat)(hi:i<64) : IntKind.u64.wrap ((2:Int)^i)=((2^i:Nat):Int):=by
 have h1:2^i<2^64:=Nat.pow_lt_pow_right (by omega) hi;have e2:((2:Int)^i)=((2^i:Nat):Int):=by rw[Int.natCast_pow];rfl
 rw[IntKind.wrap_u64,e2];generalize 2^i=p at *;omega
theorem JA (m:Nat)(hm:m<18446744073709551616)(w:World)(hT:Tab w) : Calls Tryz.prog 141 #[setV m] w fun e w'=>e=.returned (.int .i64 (QL (Zc m)))/\Ext w w':=by
 unfold setV
 by_cases h0:m=0
 ·subst h0
  rw[VT];clear hT hm;have i0:∀ W,(Instr.index 141 (.agg #[.int .u64 0,.int .u64 0]) (.int .i64 0)).run Tryz.prog W=.ok (.int .u64 0) W:=fun _=>by kernel_rfl
  have i1:∀ W,(Instr.index 141 (.agg #[.int .u64 0,.int .u64 0]) (.int .i64 1)).run Tryz.prog W=.ok (.int .u64 0) W:=fun _=>by kernel_rfl
  go_enter Tryz.func141,Tryz.ntmps141;go_wp2_with (fail);go_loopw [6] (fun v wr=>(v=.int .i64 0\/v=.int .i64 1\/v=.int .i64 2)/\Ext w wr) (fun v _=>2-(intOf v).toNat)
  case atStart=>exact⟨.inl rfl,by(repeat (first | assumption | exact Ext.rf _ | apply Ext.drew | apply Ext.drewN | apply Ext.alloc))⟩
  case round =>
   obtain⟨h3,Y⟩:=hrel;rcases h3 with rfl | rfl | rfl
   ·go_wp2_with (fail)
    go_roundw
    case rel=>exact⟨.inr (.inl rfl),Y⟩
    case measure=>simp[intOf]
   ·go_wp2_with (fail)
    go_roundw
    case rel=>exact⟨.inr (.inr rfl),Y⟩
    case measure=>simp[intOf]
   ·go_wp2_with (fail)
    go_ret;exact⟨rfl,Y⟩
 ·have hh:=QK h0 hm
  have eh:QL (Zc m)=(Lib.ctz 64 m:Int):=by
   cases hl:Zc m with
   | nil=>rw[hl] at hh;cases hh
   | cons a l=>rw[hl] at hh;simp at hh;rw[<-hh];rfl
  rw[eh];have TZ:=Hd (fun(W:World) (x:Ext w W)=>ZfZ m hm h0 W (hT.ext x));have hk:=(Lib.lowest_bit 64 m h0 hm).2;have hne:((m:Int) != 0)=true:=by simp;omega
  have i0:∀ W,(Instr.index 141 (.agg #[.int .u64 m,.int .u64 0]) (.int .i64 0)).run Tryz.prog W=.ok (.int .u64 m) W:=fun _=>by kernel_rfl
  have hwp:IntKind.i64.wrap (0+(Lib.ctz 64 m:Int))=(Lib.ctz 64 m:Int):=by rw[Int.zero_add];exact IntWalk.i64_in _ (by omega)
  generalize Lib.ctz 64 m=z at *;clear hh eh h0 hT;go_enter Tryz.func141,Tryz.ntmps141;go_wp2_with (fail);go_loopw [6] (fun v wr=>v=.int .i64 0/\Ext w wr) (fun _ _=>0)
  case atStart=>exact⟨rfl,by(repeat (first | assumption | exact Ext.rf _ | apply Ext.drew | apply Ext.drewN | apply Ext.alloc))⟩
  case round =>
   obtain⟨rfl,Y⟩:=hrel;go_wp2_with (fail);refine(TZ.out _ Y).mono ?_;rintro e w2 ⟨rfl,x2⟩;go_wp2_with (fail);go_ret;exact⟨rfl,Y.tr x2⟩
theorem Zgc (n:Nat)(h:n<64) : IntKind.u64.wrap (IntKind.u64.wrap (2^n)-1)=((2^n-1:Nat):Int):=by
 have h1:2^n<2^64:=Nat.pow_lt_pow_right (by omega) h;have h2:0<2^n:=Nat.pow_pos (by omega);have e:((2:Int)^n)=((2^n:Nat):Int):=by rw[Int.natCast_pow];rfl
 rw[IntKind.wrap_u64,IntKind.wrap_u64,e];omega
theorem W6 (n:Nat)(hn:n<64)(w:World) : Calls Tryz.prog 134 #[.int .i64 n] w fun e w'=>e=.returned (setV (2^n-1))/\Ext w w':=by
 unfold setV;have FW:=Zgc n hn;have F0:n=0->2^n-1=0:=fun h=>by subst h;rfl
 generalize 2^n-1=fm at *;replace F0:=Hd F0;have B2:Blk ((w.alloc (.cells #[.int .u64 0,.int .u64 0] 141)).alloc (.cells #[.int .u64 0,.int .u64 0] 141)) (w.heap.size+1) 141 #[.int .u64 0,.int .u64 0]:=.new (by simp);have B1:Blk ((w.alloc (.cells #[.int .u64 0,.int .u64 0] 141)).alloc (.cells #[.int .u64 0,.int .u64 0] 141)) w.heap.size 141 #[.int .u64 0,.int .u64 0]:=.alloc (.new rfl) _;have X0:Ext w ((w.alloc (.cells #[.int .u64 0,.int .u64 0] 141)).alloc (.cells #[.int .u64 0,.int .u64 0] 141)):=((Ext.rf w).alloc _).alloc _;go_enter Tryz.func134,Tryz.ntmps134;go_wp2_with (fail);go_loopw [6] (fun v wr=>∃ k:Nat,v=.int .i64 k/\k<=2/\Hid (Ext w wr)/\Hid (Blk wr w.heap.size 141 #[.int .u64 0,.int .u64 0])/\Hid (Blk wr (w.heap.size+1) 141 #[.int .u64 (if k=0 then 0 else(fm:Int)),.int .u64 0])) (fun v _=>2-(intOf v).toNat)
 case atStart=>exact⟨0,rfl,by omega,X0,B1,B2⟩
 case round =>
  obtain⟨k,rfl,hk,Y,C1,C2⟩:=hrel;have h3:k=0\/k=1\/k=2:=by omega
  rcases h3 with rfl | rfl | rfl
  ·have c0:wr.cell? ⟨w.heap.size+1,0,none⟩=some (.int .u64 0):=C2.out.cell 0
   have f0:=C2.out.free 0
   by_cases hn0:n=0
   ·obtain rfl:fm=0:=F0.out hn0
    subst hn0;go_wp2_with (fail);go_roundw
    case rel=>exact⟨1,rfl,by omega,Y,C1,C2⟩
    case measure=>simp[intOf]
   ·have hn1:0<n:=by omega
    have C3:=Hd (C2.out.set 0 (.int .u64 (fm:Int)));have C4:=Hd (C1.out.far (p:=⟨w.heap.size+1,0,none⟩) (by simp) (.int .u64 (fm:Int)));have Y4:=Hd (Y.out.setNew (p:=⟨w.heap.size+1,0,none⟩) (by simp) (.int .u64 (fm:Int)));go_wp2_with (fail);go_roundw
    case rel=>exact⟨1,rfl,by omega,Y4,C4,C3⟩
    case measure=>simp[intOf]
  ·go_wp2_with (fail)
   go_roundw
   case rel=>exact⟨2,rfl,by omega,Y,C1,C2⟩
   case measure=>simp[intOf]
  ·have c0:wr.cell? ⟨w.heap.size+1,0,none⟩=some (.int .u64 (fm:Int)):=C2.out.cell 0
   have c1:=C2.out.c1;have r0:=C1.out.c0;have r1:=C1.out.c1;have f0:=C1.out.free 0;have f1:=C1.out.free 1;go_wp2_with (fail);refine bodyPost_ret (v:=.agg #[.int .u64 (fm:Int),.int .u64 0]) (by simp[results,Tryz.results134,go_sem, *]) rfl ⟨rfl,?_⟩;exact(Y.out.setNew (p:=⟨w.heap.size,0,none⟩) (by simp) _).setNew (p:=⟨w.heap.size,1,none⟩) (by simp) _
open Go.RowKit Go.ChangeShapes Go.WideShapes Go.ChangeAt Go.Deep Go.Shelf
attribute [local go_sem] Oper.semAt_some
theorem Zer (m x:Nat)(hm:m<18446744073709551616)(hx:x<63)(w:World)(hT:Tab w) :
  Calls Tryz.prog 142 #[setV m,.int .i64 x] w fun e w'=>e=.returned (.int .i64 (QL (Zc (ZR m (2^(x+1)-1)))))/\Ext w w':=by
 have FU:Hid (∀ W:World,Calls Tryz.prog 134 #[.int .i64 ((x:Int)+1)] W fun e w'=>e=.returned (setV (2^(x+1)-1))/\Ext W w'):=fun W=>by
  have h:=W6 (x+1) (by omega) W;have e:((x+1:Nat):Int)=(x:Int)+1:=by omega
  rw[e] at h;exact h
 have hf:2^(x+1)-1<18446744073709551616:=by
  have:2^(x+1)<2^64:=Nat.pow_lt_pow_right (by omega) (by omega);omega
 have MI:=Hd (fun(W:World)=>Zdd m (2^(x+1)-1) hm hf W);have FI:=Hd (fun(W:World) (y:Ext w W)=>JA (ZR m (2^(x+1)-1)) (VS _ _) W (hT.ext y));clear hT hf hm;generalize QL (Zc (ZR m (2^(x+1)-1)))=r at *;generalize ZR m (2^(x+1)-1)=z at *;generalize 2^(x+1)-1=f at *;unfold setV at *;have hq1:(if (x:Int) < -1 then(-1:Int) else(x:Int))=(x:Int):=if_neg (by omega);have hq2:IntKind.i64.wrap ((x:Int)+1)=(x:Int)+1:=IntWalk.i64_in _ (by omega);have B1:Blk (w.alloc (.cells #[.int .u64 m,.int .u64 0] 141)) w.heap.size 141 #[.int .u64 m,.int .u64 0]:=.new rfl;have X0:Ext w (w.alloc (.cells #[.int .u64 m,.int .u64 0] 141)):=(Ext.rf w).alloc _;go_enter Tryz.func142,Tryz.ntmps142;go_upto_region 3 with(fail);generalize w.alloc (.cells #[.int .u64 m,.int .u64 0] 141)=w1 at *;refine wp_region_any (by kernel_rfl) ?_
 change wpAny _ _ _ _ _ _ _ (World.drew _)
 refine Za (i:=1) (op:=Op.move (Operand.tmp 1)) (t:=3) (d:=some 8) (v:=?_) rfl (by decide +kernel) (by decide +kernel) (by decide +kernel) (fun _ _ _ h=>h) ?_ ?_
 case refine_2=>(intro _;unfold Zd;go_simp;try with_reducible rfl)
 try simp only[lay]
 refine Za (i:=2) (op:=Op.call { callee:=Callee.builtin Builtin.max,args:=#[Operand.tmp 8,Operand.const (Value.int IntKind.i64 (-1))],argTypes:=#[3,3] }) (t:=3) (d:=some 9) (v:=?_) rfl (by decide +kernel) (by decide +kernel) (by decide +kernel) (fun _ _ _ h=>h) ?_ ?_
 case refine_2=>(intro _;unfold Zd;go_simp;try with_reducible rfl)
 try simp only[lay]
 refine Za (i:=3) (op:=Op.binOp BinOp.add 3 (Operand.tmp 9) (Operand.const (Value.int IntKind.i64 1)) 3) (t:=3) (d:=some 10) (v:=?_) rfl (by decide +kernel) (by decide +kernel) (by decide +kernel) (fun _ _ _ h=>h) ?_ ?_
 case refine_2=>(intro _;unfold Zd;go_simp;try with_reducible rfl)
 try simp only[lay]
 refine Z3 (n:=3) [(0,some 7),(4,some 11)] (Ext w1)
  (VF (fun | 0=>some (.agg #[.int .u64 m,.int .u64 0]) | 4=>some (.agg #[.int .u64 f,.int .u64 0]) | _=>none) (fun _ _ _=>True))
  Ext #[true,true,true,true,true,false,false,false] (by kernel_rfl) (VF.stab ?_) ?_ ?_ ((Ext.rf _).drew)
 ·intro j v W W' _ h _
  exact h
 ·intro pq hpm u W hRW hD K hK
  have c0:W.cell? ⟨w.heap.size,0,none⟩=some (.int .u64 m):=(B1.ext hRW).cell 0;have c1:W.cell? ⟨w.heap.size,1,none⟩=some (.int .u64 0):=(B1.ext hRW).cell 1;simp only[List.mem_cons,List.not_mem_nil,or_false] at hpm;rcases hpm with rfl | rfl
  ·exact Zp (T:=141) rfl (.pointer (some ⟨w.heap.size,0,none⟩)) (by kernel_rfl) (.agg #[.int .u64 m,.int .u64 0]) (by go_simp) (hK _ _ (VF.mk rfl) hRW (Ext.rf _))
  ·refine Ym rfl #[.int .i64 ((x:Int)+1)] (by go_simp) (by kernel_rfl) _ (FU.out W) ?_
   rintro e w3 ⟨rfl,x3⟩;exact⟨_,rfl,hK _ _ (VF.mk rfl) (hRW.tr x3) x3⟩
 ·intro u W hRW hV
  have h0:=(hV (0,some 7) (by simp)).k rfl;have h4:=(hV (4,some 11) (by simp)).k rfl;simp only[Zk,h0,h4];have XW:=X0.tr hRW
  try simp only[lay]
  refine Zi 5 (by decide +kernel) (Ym (f:=171) (xs:=#[Operand.tmp 7,Operand.tmp 11]) (ts:=#[141,141]) (t:=141) (d:=some 12) rfl #[.agg #[.int .u64 m,.int .u64 0],.agg #[.int .u64 f,.int .u64 0]] (by go_simp) (by kernel_rfl) _ (MI.out W) ?_);rintro e w3 ⟨rfl,x3⟩;refine⟨_,rfl,?_⟩
  try simp only[lay]
  refine Zi 6 (by decide +kernel) (Ym (f:=141) (xs:=#[Operand.tmp 12]) (ts:=#[141]) (t:=3) (d:=some 13) rfl #[.agg #[.int .u64 z,.int .u64 0]] (by go_simp) (by kernel_rfl) _ (FI.out w3 (XW.tr x3)) ?_);rintro e w4 ⟨rfl,x4⟩;refine⟨_,rfl,?_⟩
  try simp only[lay]
  refine Za (i:=7) (op:=Op.assign (Operand.tmp 13)) (t:=3) (d:=some 4) (v:=?_) rfl (by decide +kernel) (by decide +kernel) (by decide +kernel) (fun _ _ _ h=>h) ?_ ?_
  case refine_2=>(intro _;unfold Zd;go_simp;try with_reducible rfl)
  try simp only[lay]
  refine wpAny_done (by kernel_rfl) ?_ _;have X4:=Hd ((XW.tr x3).tr x4);clear XW x3 x4 hRW hV h0 h4;go_simp;go_wp2_with (fail);go_ret;exact⟨rfl,X4.out⟩
theorem Wi (m:Nat)(w:World) : Calls Tryz.prog 88 #[setV m] w fun e w'=>e=.returned (.func (.func 140) #[] #[.pointer (some ⟨w.heap.size,0,none⟩)])/\w'=w.alloc (.cells #[.int .u64 m,.int .u64 0] 141):=by
 unfold setV;go_enter Tryz.func88,Tryz.ntmps88;go_wp2_with (fail);go_ret;exact⟨rfl,rfl⟩
abbrev In (m:Nat) : Type:={ x:Nat // x∈Zc m }
theorem In.lt {m:Nat}(x:In m) : x.1<64:=(Z1.1 x.2).1
def SetKp (n₀ Bn:Nat)(W W':World) : Prop:=Below n₀ W W'/\W'.heap[Bn]?=W.heap[Bn]?
theorem SetKp.tr {n₀ Bn:Nat}{A B C:World}(h:SetKp n₀ Bn A B)(k:SetKp n₀ Bn B C) : SetKp n₀ Bn A C:=⟨h.1.trans k.1,k.2.trans h.2⟩
theorem Ul {W W':World}(x:Ext W W') : W.grownBy W' none:=⟨x.os,x.tape,x.output,x.size,fun k hk _=>x.block k hk⟩
theorem QM (x:Nat)(l:List Nat) : QL (x::l)=(x:Int):=rfl
theorem Zfl (n:Nat)(m:Nat)(hm:m<18446744073709551616)(l Bn n₀:Nat)(J Jx:List (In m)->World->Prop)(W:World)(hJ:AbidesFrom W.heap.size J)
  (hY:∀ pre x W1,J pre W1->pre.length<(Zc m).length->YieldAt Fence.wide (n-1) Tryz.prog l #[.int .i64 ((x:In m).1:Nat)] W1 fun e W' =>
   (e=.returned (.bool true)/\J (pre++[x]) W'/\SetKp n₀ Bn W1 W')\/(e=.returned (.bool false)/\Jx (pre++[x]) W'))
  (hB:Blk W Bn 141 #[.int .u64 m,.int .u64 0]) (hT:Tab W) (hT0:∀ j,j<Lib.deBruijn64tab.length->0<n₀) (hn₀:n₀<=W.heap.size) (h0:J [] W) (h63:∀ x∈Zc m,x<63) :
  CallsIn Fence.wide n Tryz.prog 140 #[.func (.yield l) #[] #[],.pointer (some ⟨Bn,0,none⟩)] W fun e W'=>(∃ v,e=.returned v) /\
   ((∃ ys,ys=(Zc m).attach/\J ys W')\/(∃ pre,pre <+: (Zc m).attach/\Jx pre W')):=by
 have key:∀ (W1:World),Below n₀ W W1->Tab W1:=fun W1 hb j hj=>by
  rw[hb.cell (p:=⟨0,j,none⟩) (hT0 j hj)];exact hT j hj
 refine callsIn_of_wp Tryz.func140 rfl trivial ?_ rfl;simp only[Tryz.ntmps140,List.size_toArray,List.length_cons,List.length_nil,Nat.reduceAdd,Nat.reduceSub,Array.replicate_succ,Array.replicate_zero,List.push_toArray,List.append_toArray,List.nil_append,List.cons_append];have c0:=hB.c0;have c1:=hB.c1;have FI:=Hd (JA m hm W hT);unfold setV at FI
 gi_wp2
 refine⟨trivial,fun h=>(by cases h),?_⟩;refine(callsIn_wide.2 FI.out).mono ?_;rintro e w1 ⟨rfl,x1⟩;have h1:J [] w1:=hJ [] W w1 none h0 (Ul x1) (fun r h=>by cases h);have b1:=hB.ext x1;have k1:Below n₀ W w1:=x1.mono hn₀
 gi_wp2
 gi_loopw [3] (fun p wr=>∃ (pre rest:List (In m)),p=.int .i64 (QL (rest.map (·.1)))/\Hid ((Zc m).attach=pre++rest)/\Hid (J pre wr)/\Hid (Blk wr Bn 141 #[.int .u64 m,.int .u64 0])/\Hid (Below n₀ W wr)/\Hid (W.heap.size<=wr.heap.size)) (fun p _=>((65-intOf p)%66).toNat)
 case atStart=>exact⟨[],(Zc m).attach,by rw[List.attach_map_subtype_val],rfl,h1,b1,k1,x1.size⟩
 case round =>
  obtain⟨pre,rest,rfl,hx,hJ1,hB1,hk,hz⟩:=hrel;have hval:Zc m=(pre++rest).map (·.1):=by rw[<-hx.out,List.attach_map_subtype_val]
  cases rest with
  | nil =>
   gi_wp2
   go_end0;exact⟨⟨_,rfl⟩,.inl ⟨pre,by rw[hx.out,List.append_nil],hJ1.out⟩⟩
  | cons x rest =>
   have hlen:pre.length<(Zc m).length:=by rw[hval];simp
   obtain⟨fn,tmps,assign,body,hy,hR⟩:=hY pre x wr hJ1.out hlen;have hx64:=h63 x.1 x.2;have hnx:Zc m=pre.map (·.1)++x.1::rest.map (·.1):=hval.trans (by simp);have NX:=fun(V:World) (hT':Tab V)=>Zer m x.1 hm hx64 V hT'
   rw[ZbN hm hnx] at NX;have hpre:pre++[x] <+: (Zc m).attach:=⟨rest,by rw[hx.out];simp⟩;have hx2:Hid ((Zc m).attach=(pre++[x])++rest):=Hd (by rw[hx.out];simp);have hsort:=Zu m;rw[hnx] at hsort;have hlt:∀ y∈rest.map (·.1),x.1<y:=(List.pairwise_cons.1 (List.pairwise_append.1 hsort).2.1).1;obtain⟨nx,hnxt⟩:∃ nx,Hid (QL (rest.map (·.1))=nx):=⟨_,rfl⟩;have hms:nx=-1\/((x.1:Int)<nx/\nx<=63):=by
    rw[<-hnxt.out]
    cases rest with
    | nil=>left;rfl
    | cons y l=>right;have h1:=hlt y.1 (by simp);have h2:=y.lt;simp only[List.map_cons,QM];omega
   rw[hnxt.out] at NX;replace NX:=Hd NX;unfold setV at NX;simp only[List.map_cons,QM];replace hpre:=Hd hpre;clear hval hnx hsort hlt hlen;have B1':=hB1.out
   gi_wp2
   refine⟨fun h=>(by cases h),?_⟩;refine hR.mono ?_;rintro e W3 (⟨rfl,hJ3,hk3⟩ | ⟨rfl,hJx3⟩)
   ·have b3:Blk W3 Bn 141 #[.int .u64 m,.int .u64 0]:=hk3.2.trans B1'
    have kb3:=hk.out.trans hk3.1;have c0':=b3.c0;have c1':=b3.c1;have NX3:=Hd (NX.out W3 (key W3 kb3))
    gi_wp2
    refine⟨trivial,fun h=>(by cases h),?_⟩;refine(callsIn_wide.2 NX3.out).mono ?_;rintro e w4 ⟨rfl,x4⟩;have z3:=hk3.1.size;have hJ4:=hJ (pre++[x]) W3 w4 none hJ3 (Ul x4) (fun r h=>by cases h)
    gi_wp2
    go_roundw
    case rel=>exact⟨pre++[x],rest,by rw[hnxt.out],hx2,hJ4,b3.ext x4,kb3.trans (x4.mono (by have:=hz.out;omega)),by have:=hz.out;have:=x4.size;exact(by omega:W.heap.size<=w4.heap.size)⟩
    case measure =>
     simp only[intOf];have q1:=hms;have q2:=hx64;omega
   ·gi_wp2
    refine bodyPost_ret (results_none rfl _ _ _) rfl ?_;exact⟨⟨_,rfl⟩,.inr ⟨pre++[x],hpre.out,hJx3⟩⟩
theorem Vv {w:World}(h:Tab w) : 0<w.heap.size:=World.block_lt_of_cell? w _ (h 0 (by decide))
theorem YM (n:Nat)(m:Nat)(hm:m<18446744073709551616)(h63:∀ x∈Zc m,x<63)(Bn n₀:Nat)(w:World)(hB:Blk w Bn 141 #[.int .u64 m,.int .u64 0])(hT:Tab w)(hn₀:n₀<=w.heap.size)(hg:0<n₀) :
  SeqStopsK Fence.wide n Tryz.prog 140 #[.pointer (some ⟨Bn,0,none⟩)] (fun x:In m=>#[Value.int .i64 ((x.1:Nat):Int)]) (SetKp n₀ Bn) (fun ys=>ys=(Zc m).attach) (fun pre=>pre <+: (Zc m).attach) (Zc m).length w:=fun l J Jx W hW hJ _ hY h0 =>
 Zfl n m hm l Bn n₀ J Jx W hJ hY (hB.ext hW) (hT.ext hW) (fun _ _=>hg) (Nat.le_trans hn₀ hW.size) h0 h63
theorem Wj {n₀ Bn:Nat}{w:World}{cs:Array Value}(hn:n₀<=w.heap.size)(hB:Blk w Bn 141 cs)(W:World)(l:Nat)(o o':Obj)(hl:w.heap.size<=l)(h:W.heap[l]?=some o)(h1:o.isCells=false)(h2:o.isWalk=false) : SetKp n₀ Bn W (W.putObj l o') :=
 ⟨belowK_b hn W l o o' hl h h1 h2,World.putObj_heap_other (by have:=hB.lt;omega)⟩
end Go.Proofs.YtmojhhlcocjoaaaGreatDoor
namespace Go.Proofs.YtmojhhlcocjoaaaGreatDoor
open Go.RowKit Go.ChangeShapes Go.WideShapes Go.ChangeAt Go.Deep Go.Shelf
attribute [local go_sem] Oper.semAt_some
def inL {m:Nat}(pre:List (In m)) : List Nat:=pre.map (·.1)
theorem Xr {m:Nat}(pre:List (In m))(x:In m) : inL (pre++[x])=inL pre++[x.1]:=by simp[inL]
theorem Yr (m:Nat) : inL (Zc m).attach=Zc m:=List.attach_map_subtype_val _
theorem Blk.not_row {W:World}{g n₀ k size:Nat}{t e:TypeId}{cs:Array Value}{v:Value}{xs:List Value}(h:Blk W g t cs)(hne:t≠e)(hrow:W.ownsRow n₀ e size v k xs) : v.ownBlock≠some g:=by
 rcases hrow.2 with⟨rfl,_⟩ | ⟨g',cap,cur,rfl,_,hg,_⟩
 ·simp[Value.ownBlock]
 ·intro e'
  obtain rfl:g'=g:=by simpa [Value.ownBlock] using e'
  unfold Blk at h;rw[h] at hg
  injection hg with hg
  injection hg with _ ht
  exact hne ht
theorem Zfm (m:Nat)(hm:m<18446744073709551616)(h63:∀ x∈Zc m,x<63)(w:World)(hT:Tab w) :
  CallsIn Fence.wide 3 Tryz.prog 264 #[setV m] w fun e W'=>∃ v,e=.returned v/\W'.ownsRow w.heap.size 3 1 v (Zc m).length ((Ze (Zc m)).map (Value.int .i64))/\Ext w W':=by
 obtain⟨i0,hi,hz0,hz1,hz2⟩:=info_parts YQ;have hg:=Vv hT;have hml:=Xq m;unfold setV;refine callsIn_of_wp_marks Tryz.func264 rfl trivial ?_ rfl;simp only[Tryz.ntmps264,List.size_toArray,List.length_cons,List.length_nil,Nat.reduceAdd,Nat.reduceSub,Array.replicate_succ,Array.replicate_zero,List.push_toArray,List.append_toArray,List.nil_append,List.cons_append]
 gi_wp2
 refine⟨trivial,?_⟩;refine(callsIn_wide.2 (Wi m _)).mono ?_;rintro e w' ⟨rfl,rfl⟩
 gi_wp2
 have bS:=Boxed.new w 141 (.int .u64 m);have bO0:=Boxed.new (w.alloc (.cells #[.int .u64 m,.int .u64 0] 141)) 22 (.slice none 0 0);rw[World.size_alloc] at bO0;have bB:Blk (((w.alloc (.cells #[.int .u64 m,.int .u64 0] 141)).alloc (.cells #[.slice none 0 0] 22)).alloc (.cells #[.int .u64 m,.int .u64 0] 141)) (w.heap.size+1+1) 141 #[.int .u64 m,.int .u64 0]:=.new (by simp);have hB0:Ext w (((w.alloc (.cells #[.int .u64 m,.int .u64 0] 141)).alloc (.cells #[.slice none 0 0] 22)).alloc (.cells #[.int .u64 m,.int .u64 0] 141)):=(((Ext.rf w).alloc _).alloc _).alloc _;clear bS;refine wpIn_rangeFunc_ownG rfl (by omega) (gf:=140) (lb:=#[.pointer (some ⟨w.heap.size+1+1,0,none⟩)]) rfl trivial (enters_of Tryz.func140 (by kernel_rfl) rfl)
  (YM 2 m hm h63 (w.heap.size+1+1) w.heap.size _ bB (hT.ext hB0) hB0.size hg) SetKp.tr (Wj (cs:=#[.int .u64 m,.int .u64 0]) hB0.size bB) (Below.refl _ _) (fun _=>rfl)
  (fun pre W=>(∃ v,Boxed W (w.heap.size+1) 22 v/\W.ownsRow w.heap.size 3 1 v (inL pre).length ((Ze (inL pre)).map (Value.int .i64))/\True)/\(Below w.heap.size w W/\Blk W (w.heap.size+1+1) 141 #[.int .u64 m,.int .u64 0]))
  (fun _ _ _=>False)
  ?own
  (fun _ _ _ _ _ hs _ _=>hs)
  ⟨⟨_,bO0.alloc _,World.ownsRow_nil _ _ _ _,trivial⟩,hB0,bB⟩
  (fun x=>{ tmps:=#[.agg #[.int .u64 m,.int .u64 0],.pointer (some ⟨w.heap.size,0,none⟩),.slice none 0 0,.pointer (some ⟨w.heap.size+1,0,none⟩),.int .i64 ((x.1:Nat):Int),.agg #[.int .u64 m,.int .u64 0],.func (.func 140) #[] #[.pointer (some ⟨w.heap.size+1+1,0,none⟩)],.int .i64 ((x.1:Nat):Int),undef,undef,undef,undef,undef],defers:=[] }) ?assign ?body ?done ?stop
 case own=>exact OwnFrom.and (Own.from (holdsRow_own w.heap.size (w.heap.size+1) 22 3 1 (fun pre:List (In m)=>(inL pre).length) (fun pre=>(Ze (inL pre)).map (Value.int .i64)) (fun _ _=>True)) _) (OwnFrom.and (ownFrom_below (Nat.le_refl _) (by simp;omega)) (fun s A B row hs hg hr=>(hg.block (w.heap.size+1+1) hs.lt (fun e=>by obtain⟨h1,_⟩:=hr _ e.symm;simp at h1;omega)).trans hs))
 case assign =>
  intro l x W K hK
  gi_wp2
  exact hK
 case body =>
  rintro l pre x W ⟨⟨v,hv,hrow,_⟩,hB,hBn⟩ hlt;have hc:=hv.cell;have hpl:(inL pre).length<64:=by
   have h:(inL pre).length=pre.length:=by simp[inL]
   omega
  gi_wp2_with (gi_at_builtin;refine wpListIn_append_own _ rfl _ _ 22 rfl w.heap.size 3 i0 (.int .i64 0) 1 8 Tryz.underlying22 hi hz0 hz1 hz2 rfl (by decide) _ _ _ rfl (hrow.alloc _) ⟨W.heap.size,0,none⟩ 1 1 [.int .i64 ((x.1:Nat):Int)] rfl rfl (cell_one_new _ _ _) (by simp[Value.oneCell']) (by simp only[maxLen];omega) (by omega) (by have:=hB.size;simp;omega) ?_;intro v' w1 hown' hgrow _;obtain⟨g',cap',rfl⟩:=ownsRow_succ hown';obtain⟨hv1,hv2,hr2,hk2,hb2⟩:=hv.appended (by decide) hrow hB.size (Nat.le_succ _) hown' hgrow;have hc1:=hv1.cell;have hf1:=hv1.frozen)
  have hBn2:Blk (w1.setCell ⟨w.heap.size+1,0,none⟩ (.slice (some ⟨g',0,none⟩) ((inL pre).length+1) cap')) (w.heap.size+1+1) 141 #[.int .u64 m,.int .u64 0] :=
   Blk.far ((hBn.alloc _).grown hgrow (hBn.not_row (by decide) hrow)) (by simp) _
  exact⟨hk2.from _,⟨hb2,hBn2.trans hBn.symm⟩,⟨_,hv2,by rw[Xr];simpa [Ze] using hr2,trivial⟩,hB.trans hb2,hBn2⟩
 case done =>
  rintro D ys W hD rfl ⟨⟨v,hv,hrow,_⟩,hB,_⟩ hK;have hc:=hv.cell;rw[Yr] at hrow
  gi_wp2
  refine⟨by simp,.inl ⟨_,_,rfl,run_takeDeferred hK,?_⟩⟩;exact⟨_,results_tmp rfl _ _ _,v,rfl,ownsRow_putObj hrow _ hK rfl,hB.trans (belowK_b (w:=w) (Nat.le_refl _) W D _ _ (by simp at hD;omega) hK rfl rfl)⟩
 case stop =>
  rintro D c pre W _ _ h _;exact h.elim
theorem QN (m:Nat)(hm:m<18446744073709551616)(h63:∀ x∈Zc m,x<63)(w:World)(hT:Tab w) :
  Calls Tryz.prog 264 #[setV m] w fun e w'=>∃ A c,e=.returned (.slice A (Ze (Zc m)).length c)/\OwI w' w.heap.size A c (Ze (Zc m))/\Ext w w':=by
 refine(callsIn_wide.1 (Zfm m hm h63 w hT)).mono ?_;rintro e w' ⟨v,rfl,ho,hx⟩;have hv:∃ A c,v=.slice A (Ze (Zc m)).length c:=by
  rcases ho.2 with⟨rfl,h0⟩ | ⟨g,cap,cur,rfl,_⟩
  ·exact⟨none,0,by rw[Zm,h0]⟩
  ·exact⟨some ⟨g,0,none⟩,cap,by rw[Zm]⟩
 obtain⟨A,c,rfl⟩:=hv;refine⟨A,c,rfl,?_,hx⟩;have h:=ho;rw[<-Zm (Zc m)] at h;exact h
end Go.Proofs.YtmojhhlcocjoaaaGreatDoor
namespace Go.Proofs.YtmojhhlcocjoaaaGreatDoor
structure SquareOk (i:InstP) : Prop where
 n1:1<=i.n
 n2:i.n<=24
 len:(i.cost.length:Int)=i.n
 row:∀ r∈i.cost,(r.length:Int)=i.n
 num:∀ r∈i.cost,∀ x∈r,0<=x/\x<=2147483647
 w:i.weight=[]
 v:i.value=[]
theorem Zde {n:Int}(h:XL n=0) : 0<=n/\n<=2147483647:=by
 unfold XL at h;split at h
 ·cases h
 ·split at h
  ·cases h
  ·omega
theorem JB : ∀ {l:List Int} {k:Int} {r c:Nat},WE k r c l=0->∀ x∈l,0<=x/\x<=2147483647
 | [],_,_,_,_,x,hx=>by cases hx
 | n::l,k,r,c,h,x,hx=>by
  unfold WE at h;split at h
  ·rename_i hn
   split at h
   ·cases h
   ·rcases List.mem_cons.1 hx with rfl | hx
    ·exact Zde hn
    ·exact JB h x hx
  ·rename_i hn
   exact absurd h hn
theorem QO : ∀ {l:List (List Int)} {k:Int} {r:Nat},YD k r l=0->∀ q∈l,∀ x∈q,0<=x/\x<=2147483647
 | [],_,_,_,q,hq=>by cases hq
 | row::l,k,r,h,q,hq=>by
  unfold YD at h;split at h
  ·rename_i hr
   rcases List.mem_cons.1 hq with rfl | hq
   ·exact JB hr
   ·exact QO h q hq
  ·rename_i hr
   exact absurd h hr
theorem Zo {i:InstP}(h:Zf i=0)(hk:i.kind≠1) : SquareOk i:=by
 unfold Zf at h
 by_cases hs:YR i.kind i.n=0
 ·rw[if_pos hs] at h
  by_cases hsh:XO i=true
  ·rw[if_pos hsh,if_neg hk] at h
   unfold XO at hsh;rw[if_neg hk] at hsh;simp only[Bool.and_eq_true,beq_iff_eq,decide_eq_true_eq,Bool.not_eq_true',List.any_eq_false,bne_iff_ne,ne_eq,Decidable.not_not] at hsh;obtain⟨⟨⟨h1,h2⟩,h3⟩,h4⟩:=hsh;unfold YR at hs;rw[if_neg hk] at hs;have hn:1<=i.n/\i.n<=24:=by
    split at hs
    ·split at hs
     ·cases hs
     ·split at hs
      ·cases hs
      ·omega
    ·split at hs
     ·split at hs
      ·cases hs
      ·split at hs
       ·cases hs
       ·omega
     ·cases hs
   exact⟨hn.1,hn.2,h1,h4,QO h,List.eq_nil_of_length_eq_zero (by omega),List.eq_nil_of_length_eq_zero (by omega)⟩
  ·rw[if_neg hsh] at h
   cases h
 ·rw[if_neg hs] at h
  exact absurd h hs
def ZV (m:Nat) : List Int->Option Nat
 | []=>some m
 | c::p=>if 0<=c/\c<64/\m.testBit c.toNat=true then ZV (Zx m c.toNat) p else none
def ZW (n:Nat)(p:List Int) : Option Nat:=if n<p.length then none else ZV (2^n-1) p
theorem Qq (m i:Nat) : Zx m i<18446744073709551616:=VS _ _
def SubN (n m:Nat) : Prop:=m<18446744073709551616/\∀ x∈Zc m,x<n
theorem Yy {n:Nat}(h:n<=24) : SubN n (2^n-1):=by
 refine⟨?_,fun x hx=>?_⟩
 ·have:2^n<=2^24:=Nat.pow_le_pow_right (by omega) h
  omega
 ·rw[YI (by omega)] at hx
  exact List.mem_range.1 hx
theorem SubN.clr {n m:Nat}(h:SubN n m)(i:Nat) : SubN n (Zx m i):=by
 refine⟨Qq _ _,fun x hx=>h.2 x ?_⟩;rw[Xf h.1] at hx;exact(List.mem_filter.1 hx).1
theorem UO {n:Nat} : ∀ {p:List Int} {m q:Nat},SubN n m->ZV m p=some q->SubN n q
 | [],m,q,h,e=>by
  simp only[ZV,Option.some.injEq] at e;subst e;exact h
 | c::p,m,q,h,e=>by
  unfold ZV at e;split at e
  ·exact UO (h.clr _) e
  ·cases e
theorem ZF {i:InstP}(h:SquareOk i) : RowsOk i.cost:=by
 have h1:=h.n1;have h2:=h.n2;have h3:=h.len;refine⟨by omega,by omega,fun r hr=>?_,h.num⟩;have:=h.row r hr;omega
end Go.Proofs.YtmojhhlcocjoaaaGreatDoor
namespace Go.Proofs.YtmojhhlcocjoaaaGreatDoor
open Go.RowKit Go.ChangeShapes Go.WideShapes Go.ChangeAt Go.Deep
section
variable {P:Program} {ops:Array Oper} {i:Nat} {t:TypeId} {d:Option Tmp} {a:Act} {w w':World} {K:Act->World->Prop} {Q:Exit->Act->World->Prop}
theorem ZfQ {T:TypeId}{f:Nat}{x:Operand}(hi:WX ops i=some (none,.fieldAddr T x f,t,d))(p:Value)(hx:a.eval x=p)(v:Value)(hrun:(Instr.fieldAt T p f).run P w=.ok v w)(hK:K (a.put d v) w) : wpOp P ops Q i K a w :=
 ZM hi v (by simp[Zd,execOp,hx,hrun]) hK
end
def Zdf (i:InstP)(w:World)(e:Ending)(w':World) : Prop:=∃ A3 c3 B3 d3 C cc us,e=.returned (.agg #[.int .i64 i.kind,.int .i64 i.n,.int .i64 i.cap,.slice A3 i.weight.length c3,.slice B3 i.value.length d3,.slice C i.cost.length cc])/\OwV w' w.heap.size 22 1 C i.cost.length cc us/\RowsO w' w.heap.size us i.cost/\Ext w w'
theorem JC (i:InstP)(vs:List Value)(w:World)(H:RInst w vs i)(lw:i.weight.length<=1000000000)(lv:i.value.length<=1000000000)(lc:i.cost.length<=1000000)(lr:∀ r∈i.cost,r.length<=1000000000) :
  Calls Tryz.prog 10 #[.agg (List.toArray vs)] w (Zdf i w):=by
 obtain⟨A,a,B,b,C,c,rfl,⟨rA,iA,lA,mA⟩,⟨rB,iB,lB,mB⟩,⟨rC,lC,mC⟩⟩:=H;obtain⟨kind,nn,cap,xw,xv,co⟩:=i;simp only at *;obtain⟨i0,hi,hz0,hz1,hz2⟩:=info_parts Qy;replace hi:=Hd hi;replace hz0:=Hd hz0;replace hz1:=Hd hz1;replace hz2:=Hd hz2;replace lr:=Hd lr;have X:Ext w ((w.alloc (.cells #[.int .i64 kind,.int .i64 nn,.int .i64 cap,.slice A xw.length a,.slice B xv.length b,.slice C co.length c] 25)).alloc (.cells #[.int .i64 0,.int .i64 0,.int .i64 0,.slice none 0 0,.slice none 0 0,.slice none 0 0] 25)):=((Ext.rf _).alloc _).alloc _;have B1:Blk ((w.alloc (.cells #[.int .i64 kind,.int .i64 nn,.int .i64 cap,.slice A xw.length a,.slice B xv.length b,.slice C co.length c] 25)).alloc (.cells #[.int .i64 0,.int .i64 0,.int .i64 0,.slice none 0 0,.slice none 0 0,.slice none 0 0] 25)) w.heap.size 25 #[.int .i64 kind,.int .i64 nn,.int .i64 cap,.slice A xw.length a,.slice B xv.length b,.slice C co.length c]:=.alloc (.new rfl) _;have B2:Blk ((w.alloc (.cells #[.int .i64 kind,.int .i64 nn,.int .i64 cap,.slice A xw.length a,.slice B xv.length b,.slice C co.length c] 25)).alloc (.cells #[.int .i64 0,.int .i64 0,.int .i64 0,.slice none 0 0,.slice none 0 0,.slice none 0 0] 25)) (w.heap.size+1) 25 #[.int .i64 0,.int .i64 0,.int .i64 0,.slice none 0 0,.slice none 0 0,.slice none 0 0]:=.new (by simp);replace X:=Hd X;replace B1:=Hd B1;replace B2:=Hd B2;replace rA:=Hd rA;replace rB:=Hd rB;replace rC:=Hd rC;replace iA:=Hd iA;replace iB:=Hd iB;replace mA:=Hd mA;replace mB:=Hd mB;replace mC:=Hd mC;go_enter Tryz.func10,Tryz.ntmps10;go_wp2_with (fail);generalize (w.alloc (.cells #[.int .i64 kind,.int .i64 nn,.int .i64 cap,.slice A xw.length a,.slice B xv.length b,.slice C co.length c] 25)).alloc (.cells #[.int .i64 0,.int .i64 0,.int .i64 0,.slice none 0 0,.slice none 0 0,.slice none 0 0] 25)=wr at *;have z1:=B1.out.lt;have zw:=X.out.size;refine wp_region_any (by kernel_rfl) ?_
 change wpAny _ _ _ _ _ _ _ (World.drew _)
 refine Za (i:=0) (op:=Op.fieldAddr 25 (Operand.tmp 1) 3) (t:=0) (d:=some 6) (v:=?_) rfl (by decide +kernel) (by decide +kernel) (by decide +kernel) (fun _ _ _ h=>h) ?_ ?_
 case refine_2=>(intro _;unfold Zd;go_simp;try with_reducible rfl)
 try simp only[lay]
 refine Za (i:=3) (op:=Op.fieldAddr 25 (Operand.tmp 1) 4) (t:=0) (d:=some 9) (v:=?_) rfl (by decide +kernel) (by decide +kernel) (by decide +kernel) (fun _ _ _ h=>h) ?_ ?_
 case refine_2=>(intro _;unfold Zd;go_simp;try with_reducible rfl)
 try simp only[lay]
 refine Z3 (n:=3) [(1,some 7),(2,some 8),(4,some 10),(5,some 11),(6,some 12)] (Ext wr)
  (VF (fun | 1=>some (.slice A xw.length a) | 4=>some (.slice B xv.length b) | 6=>some (.pointer (some ⟨w.heap.size,3,none⟩)) | _=>none)
   (fun j v W=>(j=2->∃ A' c',v=.slice A' xw.length c')/\(j=5->∃ A' c',v=.slice A' xv.length c')))
  Ext #[true,true,true,true,true,true,true,false,false,false] (by decide +kernel) (VF.stab ?_) ?_ ?_ ((Ext.rf _).drew)
 ·intro j v W W' _ h _
  exact h
 ·intro pq hpm u w2 hRW hD K hK
  have b2:=B1.out.ext hRW;have r3:=b2.c3;have r4:=b2.c4;have xe:=X.out.tr hRW;simp only[List.mem_cons,List.not_mem_nil,or_false] at hpm;rcases hpm with rfl | rfl | rfl | rfl | rfl
  ·exact Zp (T:=22) rfl (.pointer (some ⟨w.heap.size,3,none⟩)) (by kernel_rfl) (.slice A xw.length a) (by go_simp) (hK _ _ (VF.mk rfl) hRW (Ext.rf _))
  ·refine Ym rfl #[.slice A xw.length a] (by go_simp) (Eq.trans (b:=#[u 1]) (by kernel_rfl) (by rw[(hD 1 (Zn (by kernel_rfl))).k rfl])) _ (Yw A a xw w2 (rA.out.ext xe) (by omega)) ?_
   rintro e w3 ⟨A3,c3,rfl,o3,x3⟩;exact⟨_,rfl,hK _ _ (VF.mg rfl ⟨fun _=>⟨A3,c3,rfl⟩,(fun h=>by cases h)⟩) (hRW.tr x3) x3⟩
  ·exact Zp (T:=22) rfl (.pointer (some ⟨w.heap.size,4,none⟩)) (by kernel_rfl) (.slice B xv.length b) (by go_simp) (hK _ _ (VF.mk rfl) hRW (Ext.rf _))
  ·refine Ym rfl #[.slice B xv.length b] (by go_simp) (Eq.trans (b:=#[u 4]) (by kernel_rfl) (by rw[(hD 4 (Zn (by kernel_rfl))).k rfl])) _ (Yw B b xv w2 (rB.out.ext xe) (by omega)) ?_
   rintro e w3 ⟨A3,c3,rfl,o3,x3⟩;exact⟨_,rfl,hK _ _ (VF.mg rfl ⟨(fun h=>by cases h),fun _=>⟨A3,c3,rfl⟩⟩) (hRW.tr x3) x3⟩
  ·exact ZfQ (T:=25) (f:=3) rfl (.pointer (some ⟨w.heap.size,0,none⟩)) (by kernel_rfl) (.pointer (some ⟨w.heap.size,3,none⟩)) (by go_simp) (hK _ _ (VF.mk rfl) hRW (Ext.rf _))
 ·intro u w3 hRW hV
  have h1:=(hV (1,some 7) (by simp)).k rfl;have h4:=(hV (4,some 10) (by simp)).k rfl;obtain⟨A3,c3,h2⟩:=((hV (2,some 8) (by simp)).g rfl).1 rfl;obtain⟨B3,d3,h5⟩:=((hV (5,some 11) (by simp)).g rfl).2 rfl;have h6:=(hV (6,some 12) (by simp)).k rfl;simp only[Zk,h1,h2,h4,h5,h6];have b1:=B1.out.ext hRW;have b2:=B2.out.ext hRW;have g3:=b1.c3;have k3:=b1.free 3;have b1a:=b1.set 3 (.slice A3 xw.length c3);have g4:=b1a.c4;have k4:=b1a.free 4;have b1b:=Hd (b1a.set 4 (.slice B3 xv.length d3));have b2b:=Hd ((b2.far (p:=⟨w.heap.size,3,none⟩) (by simp) (.slice A3 xw.length c3)).far (p:=⟨w.heap.size,4,none⟩) (by simp) (.slice B3 xv.length d3));have Xb:=Hd (((X.out.tr hRW).setNew (p:=⟨w.heap.size,3,none⟩) (Nat.le_refl _) (.slice A3 xw.length c3)).setNew (p:=⟨w.heap.size,4,none⟩) (Nat.le_refl _) (.slice B3 xv.length d3));clear h1 h2 h4 h5 h6 hV
  try simp only[lay]
  refine Zi 7 (by decide +kernel) (Yl rfl (.pointer (some ⟨w.heap.size,3,none⟩)) (.slice A3 xw.length c3) (by kernel_rfl) (by kernel_rfl) (by go_simp;rfl) ?_);refine Za (i:=8) (op:=Op.fieldAddr 25 (Operand.tmp 1) 4) (t:=0) (d:=some 13) (v:=?_) rfl (by decide +kernel) (by decide +kernel) (by decide +kernel) (fun _ _ _ h=>h) ?_ ?_
  case refine_2=>(intro _;unfold Zd;go_simp;try with_reducible rfl)
  try simp only[lay]
  refine Zi 9 (by decide +kernel) (Yl rfl (.pointer (some ⟨w.heap.size,4,none⟩)) (.slice B3 xv.length d3) (by kernel_rfl) (by kernel_rfl) (by go_simp;rfl) ?_);refine wpAny_done (by kernel_rfl) ?_ _;clear g3 g4 k3 k4 b1 b2 b1a hRW;generalize (w3.setCell ⟨w.heap.size,3,none⟩ (.slice A3 xw.length c3)).setCell ⟨w.heap.size,4,none⟩ (.slice B3 xv.length d3)=w4 at *;clear w3;have q5:=b1b.out.c5;go_simp;go_wp2_with (fail);have lct:=Hd lc;have START:Hid (OwV w4 w.heap.size 22 1 none 0 0 []/\RowsO w4 w.heap.size [] (co.take 0)/\Ext w w4/\Blk w4 w.heap.size 25 #[.int .i64 kind,.int .i64 nn,.int .i64 cap,.slice A3 xw.length c3,.slice B3 xv.length d3,.slice C co.length c]/\Blk w4 (w.heap.size+1) 25 #[.int .i64 0,.int .i64 0,.int .i64 0,.slice none 0 0,.slice none 0 0,.slice none 0 0]):=⟨OwV.nil _ _ _ _,by simpa using RowsO.nil w4 w.heap.size,Xb.out,b1b.out,b2b.out⟩;clear b1b b2b Xb q5;go_loopw [3,17] (fun v3 v17 wr=>∃ (k:Nat) (C':Option Addr) (cc:Nat) (us:List Value),v17=.int .i64 k/\v3=.slice C' k cc/\k<=co.length/\Hid (OwV wr w.heap.size 22 1 C' k cc us/\RowsO wr w.heap.size us (co.take k)/\Ext w wr/\Blk wr w.heap.size 25 #[.int .i64 kind,.int .i64 nn,.int .i64 cap,.slice A3 xw.length c3,.slice B3 xv.length d3,.slice C co.length c]/\Blk wr (w.heap.size+1) 25 #[.int .i64 0,.int .i64 0,.int .i64 0,.slice none 0 0,.slice none 0 0,.slice none 0 0])) (fun _ v17 _=>co.length-(intOf v17).toNat)
  case atStart=>exact⟨0,none,0,[],rfl,rfl,by omega,START⟩
  case round =>
   obtain⟨wo,rfl⟩:∃ wo:World,wo=wr:=⟨_,rfl⟩;clear START;obtain⟨k,C',cc,us,rfl,rfl,hk,HH⟩:=hrel;obtain⟨oV,oR,Y,b1,b2⟩:=HH.out
   by_cases hlt:k<co.length
   ·obtain⟨b',off,D,row,d,rfl,zd,hcd,her,_,rrow,_,ld,md⟩:=(rC.out.ext Y (fun _ _ h=>h.ext Y)).ints hlt
    have lrow:=lr.out row (List.mem_of_getElem? her.out);have etk:Hid (co.take (k+1)=co.take k++[row]):=Hd (by rw[List.take_add_one,her.out];rfl);have q1:(k:Int)<(co.length:Int):=by omega
    replace oV:=Hd oV;replace oR:=Hd oR;replace Y:=Hd Y;replace b1:=Hd b1;replace b2:=Hd b2;replace rrow:=Hd rrow;clear HH her;go_wp2_with (fail);refine(Yw D d row _ rrow.out (by omega)).mono ?_;rintro e w5 ⟨D2,e2,rfl,o5,x5⟩;have oV5:=oV.out.ext x5;have zw5:=Y.out.size;go_wp2_with (at_builtin;refine Vt _ (e:=22) Tryz.underlying23 hi.out hz0.out hz1.out hz2.out (by simp[Value.cells]) (by omega) rfl _ _ rfl w.heap.size C' k cc us (some ⟨w5.heap.size,0,none⟩) 1 1 [.slice D2 row.length e2] rfl rfl (oV5.ext ((Ext.rf _).alloc _)) (RdV.blk (.new (by simp))).rdC (by simp) (by simp[Value.oneCell']) (by simp only[maxLen];omega) (by omega) (by have:=x5.size;simp;omega) ?_;rintro C6 c6 w6 o6 g6 _);have M6:=(oV5.ext ((Ext.rf w5).alloc (.cells #[.slice D2 row.length e2] 22))).grownT g6;have X6:Ext wo (w5.alloc (.cells #[.slice D2 row.length e2] 22)):=x5.tr ((Ext.rf _).alloc _);have NEW:Hid (OwV w6 w.heap.size 22 1 C6 (k+1) c6 (us++[.slice D2 row.length e2])/\RowsO w6 w.heap.size (us++[.slice D2 row.length e2]) (co.take (k+1))/\Ext w w6/\Blk w6 w.heap.size 25 #[.int .i64 kind,.int .i64 nn,.int .i64 cap,.slice A3 xw.length c3,.slice B3 xv.length d3,.slice (some ⟨b',off,none⟩) co.length c]/\Blk w6 (w.heap.size+1) 25 #[.int .i64 0,.int .i64 0,.int .i64 0,.slice none 0 0,.slice none 0 0,.slice none 0 0]):=by
     refine⟨o6,?_,(Y.out.tr X6).modT M6 (Nat.le_refl _),(b1.out.ext X6).modT M6 (by decide),(b2.out.ext X6).modT M6 (by decide)⟩;rw[etk.out];exact((oR.out.ext X6).modT M6 (by decide)).snoc (((o5.more zw5).ext ((Ext.rf _).alloc _)).modT M6 (by decide))
    clear oV5 o5 x5 o6 g6 M6 X6 hcd;go_wp2_with (fail);go_roundw
    case rel=>exact⟨k+1,C6,c6,_,by go_num,rfl,by omega,NEW⟩
    case measure=>simp[intOf];omega
   ·obtain rfl:k=co.length:=by omega
    rw[List.take_length] at oR;have c0:=b1.c0;have c1:=b1.c1;have c2:=b1.c2;have c3':=b1.c3;have c4:=b1.c4;have c5:=b1.c5;have k5:=b1.free 5;have r0:=b2.c0;have r1:=b2.c1;have r2:=b2.c2;have r3:=b2.c3;have r4:=b2.c4;have r5:=b2.c5;have f0:=b2.free 0;have f1:=b2.free 1;have f2:=b2.free 2;have f3:=b2.free 3;have f4:=b2.free 4;have f5:=b2.free 5;have m1:ModT w.heap.size [25] wo (wo.setCell ⟨w.heap.size,5,none⟩ (.slice C' co.length cc)):=ModT.set wo b1 (by simp) (Nat.le_refl _) 5 _;have b2':=b2.far (p:=⟨w.heap.size,5,none⟩) (by simp) (.slice C' co.length cc);have m2:=(ZfU b2' (base:=w.heap.size) (by omega) (.int .i64 kind) (.int .i64 nn) (.int .i64 cap) (.slice A3 xw.length c3) (.slice B3 xv.length d3) (.slice C' co.length cc)).2;have F:=Hd (And.intro ((oV.modT m1 (by decide)).modT m2 (by decide)) (And.intro ((oR.modT m1 (by decide)).modT m2 (by decide)) ((Y.modT m1 (Nat.le_refl _)).modT m2 (Nat.le_refl _))));clear HH oV oR Y b1 b2 m1 m2 b2';go_wp2_with (fail);exact bodyPost_ret (v:=.agg #[.int .i64 kind,.int .i64 nn,.int .i64 cap,.slice A3 xw.length c3,.slice B3 xv.length d3,.slice C' co.length cc]) (by simp[results,Tryz.results10,go_sem, *]) rfl ⟨A3,c3,B3,d3,C',cc,us,rfl,F.out.1,F.out.2.1,F.out.2.2⟩
end Go.Proofs.YtmojhhlcocjoaaaGreatDoor
namespace Go.Proofs.YtmojhhlcocjoaaaGreatDoor
open Go.RowKit Go.ChangeShapes Go.WideShapes Go.ChangeAt Go.Deep
def KernA (w:World)(base g:Nat)(rows:List (List Int)) : Prop:=∃ C c us,Blk w g 121 #[.slice C rows.length c]/\base<=g/\OwV w base 22 1 C rows.length c us/\RowsO w base us rows
theorem KernA.ext {w w':World}{base g:Nat}{rows:List (List Int)}(h:KernA w base g rows)(x:Ext w w') : KernA w' base g rows:=by
 obtain⟨C,c,us,h1,h2,h3,h4⟩:=h;exact⟨C,c,us,h1.ext x,h2,h3.ext x,h4.ext x⟩
def ZaW (i:InstP)(w:World)(e:Ending)(w':World) : Prop:=∃ g,e=.returned (.tuple #[.pointer (some ⟨g,0,none⟩),.int .i64 0])/\KernA w' w.heap.size g i.cost/\Ext w w'
theorem Zes (i:InstP)(vs:List Value)(w:World)(H:RInst w vs i)(hc:Zf i=0)(hk:i.kind=2) :
  Calls Tryz.prog 37 #[.agg (List.toArray vs)] w (ZaW i w):=by
 have ok:=Zo hc (by omega);have lw:i.weight.length<=1000000000:=by rw[ok.w];simp
 have lv:i.value.length<=1000000000:=by rw[ok.v];simp
 have CH:=fun(W:World) (x:Ext w W)=>ZC i vs W (H.ext x) lw lv
 rw[hc] at CH;have CP:=fun(W:World) (x:Ext w W)=>JC i vs W (H.ext x) lw lv (by have:=ok.len;have:=ok.n2;omega) (fun r hr=>by have:=ok.row r hr;have:=ok.n2;omega)
 clear ok lw lv hc;obtain⟨kind,nn,cap,xw,xv,co⟩:=i;obtain⟨A,a,B,b,C,c,rfl,-,-,-⟩:=H;simp only at *;subst hk;have B1:Hid (Blk (w.alloc (.cells #[.int .i64 2,.int .i64 nn,.int .i64 cap,.slice A xw.length a,.slice B xv.length b,.slice C co.length c] 25)) w.heap.size 25 #[.int .i64 2,.int .i64 nn,.int .i64 cap,.slice A xw.length a,.slice B xv.length b,.slice C co.length c]):=.new rfl;replace CH:=Hd CH;replace CP:=Hd CP;go_enter Tryz.func37,Tryz.ntmps37;go_wp2_with (fail);refine(CH.out _ (by(repeat (first | assumption | exact Ext.rf _ | apply Ext.drew | apply Ext.drewN | apply Ext.alloc)))).mono ?_;rintro e w1 ⟨rfl,x1⟩;have X1:=Hd (Ext.tr (a:=w) (by(repeat (first | assumption | exact Ext.rf _ | apply Ext.drew | apply Ext.drewN | apply Ext.alloc))) x1);have BB:=Hd (B1.out.ext x1);clear x1;have c0:=BB.out.c0;have c1:=BB.out.c1;have c2:=BB.out.c2;have c3:=BB.out.c3;have c4:=BB.out.c4;have c5:=BB.out.c5;go_wp2_with (fail);refine(CP.out _ X1.out).mono ?_;rintro e w2 ⟨A3,c3',B3,d3,C2,e2,us,rfl,oV,oR,x2⟩;have zx:=x2.size;have z1:=X1.out.size;have FIN:Hid (KernA (w2.alloc (.cells #[.slice C2 co.length e2] 121)) w.heap.size w2.heap.size co/\Ext w (w2.alloc (.cells #[.slice C2 co.length e2] 121))) :=
  ⟨⟨C2,e2,us,.new rfl,by omega,(oV.more z1).ext ((Ext.rf _).alloc _),(oR.more z1).ext ((Ext.rf _).alloc _)⟩,(X1.out.tr x2).alloc _⟩
 have fld:∀ W,(Instr.field 25 (.agg #[.int .i64 2,.int .i64 nn,.int .i64 cap,.slice A3 xw.length c3',.slice B3 xv.length d3,.slice C2 co.length e2]) 5).run Tryz.prog W=.ok (.slice C2 co.length e2) W:=fun _=>by kernel_rfl
 clear oV oR x2 c0 c1 c2 c3 c4 c5;go_wp2_with (fail);go_ret2;exact⟨_,rfl,FIN.out.1,FIN.out.2⟩
theorem QP {base g:Nat}{rows:List (List Int)}(w:World)(H:KernA w base g rows) : Calls Tryz.prog 260 #[.pointer (some ⟨g,0,none⟩)] w fun e w'=>e=.returned (.int .i64 rows.length)/\Ext w w':=by
 obtain⟨C,c,us,h1,-,-,-⟩:=H;have c0:=h1.c0;go_enter Tryz.func260,Tryz.ntmps260;go_wp2;go_ret;exact⟨rfl,Ext.rf _⟩
def UP (rows:List (List Int)) : Bool:=decide (∀ x,x<rows.length->∀ y,y<x->Zb rows x y=Zb rows y x)
theorem Zdg {rows:List (List Int)}(h:∀ x,x<rows.length->∀ y,y<x->Zb rows x y=Zb rows y x) : UP rows=true:=decide_eq_true h
theorem ZbO {rows:List (List Int)}{x y:Nat}(hx:x<rows.length)(hy:y<x)(h:Zb rows x y≠Zb rows y x) : UP rows=false:=decide_eq_false fun k=>h (k x hx y hy)
theorem Zet {rows:List (List Int)}(h:UP rows=true)(a b:Nat)(ha:a<rows.length)(hb:b<rows.length) : Zb rows a b=Zb rows b a:=by
 have k:=of_decide_eq_true h;rcases Nat.lt_trichotomy a b with hc | hc | hc
 ·exact(k b hb a hc).symm
 ·subst hc;rfl
 ·exact k a ha b hc
theorem ZbP (i:InstP)(us:List Value)(w:World)(H:RInst w us i)(hc:Zf i=0)(hk:i.kind=3) :
  Calls Tryz.prog 74 #[.agg (List.toArray us)] w fun e w'=>e=.returned (.bool (UP i.cost))/\Ext w w':=by
 have ok:=Zo hc (by omega);have lw:i.weight.length<=1000000000:=by rw[ok.w];simp
 have lv:i.value.length<=1000000000:=by rw[ok.v];simp
 have CH:=fun(W:World) (x:Ext w W)=>ZC i us W (H.ext x) lw lv
 rw[hc] at CH;have rok:=ZF ok;have n24:=rok.n2;clear ok lw lv hc;obtain⟨kind,nn,cap,xw,xv,co⟩:=i;obtain⟨A,a,B,b,D,d,rfl,-,-,⟨hC,-,-⟩⟩:=H;simp only at *;subst hk;have B1:Hid (Blk (w.alloc (.cells #[.int .i64 3,.int .i64 nn,.int .i64 cap,.slice A xw.length a,.slice B xv.length b,.slice D co.length d] 25)) w.heap.size 25 #[.int .i64 3,.int .i64 nn,.int .i64 cap,.slice A xw.length a,.slice B xv.length b,.slice D co.length d]):=.new rfl;replace CH:=Hd CH;replace hC:=Hd hC;replace rok:=Hd rok;obtain⟨mm,hmm⟩:∃ mm,Hid (UP co=mm):=⟨_,rfl⟩;rw[hmm.out];go_enter Tryz.func74,Tryz.ntmps74;go_wp2_with (fail);refine(CH.out _ (by(repeat (first | assumption | exact Ext.rf _ | apply Ext.drew | apply Ext.drewN | apply Ext.alloc)))).mono ?_;rintro e w1 ⟨rfl,x1⟩;have X1:=Hd (Ext.tr (a:=w) (by(repeat (first | assumption | exact Ext.rf _ | apply Ext.drew | apply Ext.drewN | apply Ext.alloc))) x1);have BB:=Hd (B1.out.ext x1);have d5:=BB.out.c5;clear x1;go_wp2_with (fail);go_loopw [17] (fun v wr=>∃ k:Nat,v=.int .i64 k/\k<=co.length/\Hid (∀ x,x<k->∀ y,y<x->Zb co x y=Zb co y x)/\Hid (Ext w1 wr)) (fun v _=>co.length-(intOf v).toNat)
 case atStart=>exact⟨0,rfl,by omega,fun x hx=>absurd hx (Nat.not_lt_zero _),Ext.rf _⟩
 case round =>
  obtain⟨wo,rfl⟩:∃ wo:World,wo=wr:=⟨_,rfl⟩;obtain⟨k,rfl,hk,HS,Y⟩:=hrel
  by_cases hlt:k<co.length
  ·have XW:Hid (Ext w wo):=X1.out.tr Y.out
   obtain⟨cb,cof,D',row,d',rfl,zb,cD,er,_,rD,iD,ld,md⟩:=(hC.out.ext XW.out fun _ _ h=>h.ext XW.out).ints hlt;have lrow:=rok.out.row row (List.mem_of_getElem? er.out);have q1:(k:Int)<(co.length:Int):=by omega
   replace er:=Hd er.out;replace rD:=Hd rD;go_wp2_with (fail);go_loopw [23] (fun v wr=>∃ j:Nat,v=.int .i64 j/\j<=k/\Hid (∀ y,y<j->Zb co k y=Zb co y k)/\Hid (Ext wo wr)) (fun v _=>k-(intOf v).toNat)
   case atStart=>exact⟨0,rfl,by omega,fun y hy=>absurd hy (Nat.not_lt_zero _),Ext.rf _⟩
   case round =>
    obtain⟨wi,rfl⟩:∃ wi:World,wi=wr:=⟨_,rfl⟩;obtain⟨j,rfl,hj,HJ,Z⟩:=hrel;have XZ:=Hd (Ext.tr (a:=w) (XW.out) Z.out)
    by_cases hlj:j<k
    ·obtain⟨cb',cof',D2,row2,d2,hq,zb2,cD2,er2,_,rD2,iD2,ld2,md2⟩:=(hC.out.ext XZ.out fun _ _ h=>h.ext XZ.out).ints (r:=j) (by omega)
     obtain⟨rfl,rfl⟩:cb=cb'/\cof=cof':=by simpa using hq
     have lrow2:=rok.out.row row2 (List.mem_of_getElem? er2.out);obtain⟨rb,ro,x,rfl,zx,cx,ex,_⟩:=(rD.out.ext Z.out).at (k:=j) (by omega);obtain⟨rb2,ro2,y,rfl,zy,cy,ey,_⟩:=rD2.at (k:=k) (by omega);have d5':wi.cell? ⟨w.heap.size,5,none⟩=some (.slice (some ⟨cb,cof,none⟩) co.length d):=((BB.out.ext Y.out).ext Z.out).cell 5;have exy:Hid (Zb co k j=x/\Zb co j k=y):=by
      refine⟨?_,?_⟩
      ·unfold Zb;rw[getD_some er.out,getD_some ex.out]
      ·unfold Zb;rw[getD_some er2.out,getD_some ey.out]
     have q2:(j:Int)<(co.length:Int):=by omega
     have q3:(j:Int)<(row.length:Int):=by omega
     have q4:(k:Int)<(row2.length:Int):=by omega
     replace ex:=Hd ex.out;replace ey:=Hd ey.out;replace er2:=Hd er2.out;replace rD2:=Hd rD2;clear hq
     by_cases hxy:x=y
     ·subst hxy
      have t0:(x != x)=false:=by simp
      have NX:Hid (∀ yy,yy<j+1->Zb co k yy=Zb co yy k):=fun yy hy=>by
       by_cases e:yy=j
       ·subst e;rw[exy.out.1,exy.out.2]
       ·exact HJ.out yy (by omega)
      go_wp2_with (fail);go_quiet (fail);go_wp2_with (fail);go_roundw
      case rel=>exact⟨j+1,by go_num,by omega,NX,Z.out.drewN _⟩
      case measure=>simp[intOf];omega
     ·have t0:(x != y)=true:=by simpa using hxy
      have HM:Hid (mm=false):=Hd (by
       rw[<-hmm.out];exact ZbO hlt hlj (by rw[exy.out.1,exy.out.2];exact hxy))
      go_wp2_with (fail);go_quiet (fail);go_wp2_with (fail);go_ret;rw[HM.out];exact⟨rfl,XZ.out.drewN _⟩
    ·obtain rfl:j=k:=by omega
     have q2:¬(j:Int)<(j:Int):=by omega
     have HS3:Hid (∀ x,x<j+1->∀ y,y<x->Zb co x y=Zb co y x):=fun x hx=>by
      by_cases e:x=j
      ·subst e;exact HJ.out
      ·exact HS.out x (by omega)
     have YZ:=Hd (Y.out.tr Z.out);go_wp2_with (fail);go_roundw
     case rel=>exact⟨j+1,by go_num,by omega,HS3,YZ.out⟩
     case measure=>simp[intOf];omega
  ·obtain rfl:k=co.length:=by omega
   have HM:Hid (mm=true):=Hd (by
    rw[<-hmm.out];exact Zdg HS.out)
   have q2:¬(co.length:Int)<(co.length:Int):=by omega
   have XW:=Hd (X1.out.tr Y.out);go_wp2_with (fail);go_ret;rw[HM.out];exact⟨rfl,XW.out⟩
def KernT (w:World)(base g:Nat)(rows:List (List Int))(mi:Bool) : Prop:=∃ C c us,Blk w g 123 #[.slice C rows.length c,.bool mi]/\base<=g/\OwV w base 22 1 C rows.length c us/\RowsO w base us rows
theorem KernT.ext {w w':World}{base g:Nat}{rows:List (List Int)}{mi:Bool}(h:KernT w base g rows mi)(x:Ext w w') : KernT w' base g rows mi:=by
 obtain⟨C,c,us,h1,h2,h3,h4⟩:=h;exact⟨C,c,us,h1.ext x,h2,h3.ext x,h4.ext x⟩
def QQ (i:InstP)(w:World)(e:Ending)(w':World) : Prop:=∃ g,e=.returned (.tuple #[.pointer (some ⟨g,0,none⟩),.int .i64 0])/\KernT w' w.heap.size g i.cost (UP i.cost)/\Ext w w'
theorem Zeu (i:InstP)(vs:List Value)(w:World)(H:RInst w vs i)(hc:Zf i=0)(hk:i.kind=3) :
  Calls Tryz.prog 38 #[.agg (List.toArray vs)] w (QQ i w):=by
 have ok:=Zo hc (by omega);have lw:i.weight.length<=1000000000:=by rw[ok.w];simp
 have lv:i.value.length<=1000000000:=by rw[ok.v];simp
 have CH:=fun(W:World) (x:Ext w W)=>ZC i vs W (H.ext x) lw lv
 rw[hc] at CH;have CP:=fun(W:World) (x:Ext w W)=>JC i vs W (H.ext x) lw lv (by have:=ok.len;have:=ok.n2;omega) (fun r hr=>by have:=ok.row r hr;have:=ok.n2;omega)
 have MI:=fun(W:World) (x:Ext w W)=>ZbP i vs W (H.ext x) hc hk
 clear ok lw lv hc;obtain⟨mm,hmm⟩:∃ mm,Hid (UP i.cost=mm):=⟨_,rfl⟩;unfold QQ;rw[hmm.out] at MI ⊢;obtain⟨kind,nn,cap,xw,xv,co⟩:=i;obtain⟨A,a,B,b,C,c,rfl,-,-,-⟩:=H;simp only at *;subst hk;have B1:Hid (Blk (w.alloc (.cells #[.int .i64 3,.int .i64 nn,.int .i64 cap,.slice A xw.length a,.slice B xv.length b,.slice C co.length c] 25)) w.heap.size 25 #[.int .i64 3,.int .i64 nn,.int .i64 cap,.slice A xw.length a,.slice B xv.length b,.slice C co.length c]):=.new rfl;replace CH:=Hd CH;replace CP:=Hd CP;replace MI:=Hd MI;go_enter Tryz.func38,Tryz.ntmps38;go_wp2_with (fail);refine(CH.out _ (by(repeat (first | assumption | exact Ext.rf _ | apply Ext.drew | apply Ext.drewN | apply Ext.alloc)))).mono ?_;rintro e w1 ⟨rfl,x1⟩;have X1:=Hd (Ext.tr (a:=w) (by(repeat (first | assumption | exact Ext.rf _ | apply Ext.drew | apply Ext.drewN | apply Ext.alloc))) x1);have BB:=Hd (B1.out.ext x1);clear x1;have c0:=BB.out.c0;have c1:=BB.out.c1;have c2:=BB.out.c2;have c3:=BB.out.c3;have c4:=BB.out.c4;have c5:=BB.out.c5;have zb:=BB.out.lt;have fld:∀ W (A3:Option Addr) (c3:Nat) (B3:Option Addr) (d3:Nat) (C2:Option Addr) (e2:Nat),(Instr.field 25 (.agg #[.int .i64 3,.int .i64 nn,.int .i64 cap,.slice A3 xw.length c3,.slice B3 xv.length d3,.slice C2 co.length e2]) 5).run Tryz.prog W=.ok (.slice C2 co.length e2) W:=fun _ _ _ _ _ _ _=>by kernel_rfl
 go_wp2_with (fail);go_region_held3 (fun w'=>w'.cell? ⟨w.heap.size,0,none⟩=some (.int .i64 3)/\w'.cell? ⟨w.heap.size,1,none⟩=some (.int .i64 nn)/\w'.cell? ⟨w.heap.size,2,none⟩=some (.int .i64 cap)/\w'.cell? ⟨w.heap.size,3,none⟩=some (.slice A xw.length a)/\w'.cell? ⟨w.heap.size,4,none⟩=some (.slice B xv.length b)/\w'.cell? ⟨w.heap.size,5,none⟩=some (.slice C co.length c)) (go_keep)
  (first
   | (go_at_call 10;refine(CP.out _ (X1.out.tr (by(repeat (first | assumption | exact Ext.rf _ | apply Ext.drew | apply Ext.drewN | apply Ext.alloc))))).mono ?_;rintro e w2 ⟨A3,c3',B3,d3,C2,e2,us,rfl,oV,oR,x2⟩;have y2:=Ext.tr (a:=w1) (by(repeat (first | assumption | exact Ext.rf _ | apply Ext.drew | apply Ext.drewN | apply Ext.alloc))) x2;have z2:=y2.size;have oV2:=Hd oV;have oR2:=Hd oR;clear oV oR;have s0:=Zh y2 zb c0;have s1:=Zh y2 zb c1;have s2:=Zh y2 zb c2;have s3:=Zh y2 zb c3;have s4:=Zh y2 zb c4;have s5:=Zh y2 zb c5)
   | (go_at_call 74;refine(MI.out _ (X1.out.tr (by(repeat (first | assumption | exact Ext.rf _ | apply Ext.drew | apply Ext.drewN | apply Ext.alloc))))).mono ?_;rintro e w3 ⟨rfl,x3⟩;have y3:=Ext.tr (a:=w1) (by(repeat (first | assumption | exact Ext.rf _ | apply Ext.drew | apply Ext.drewN | apply Ext.alloc))) x3;have s0:=Zh y3 zb c0;have s1:=Zh y3 zb c1;have s2:=Zh y3 zb c2;have s3:=Zh y3 zb c3;have s4:=Zh y3 zb c4;have s5:=Zh y3 zb c5))
 all_goals go_wp2
 all_goals go_ret2
 all_goals refine⟨_,rfl,⟨_,_,us,.new rfl,?_,?_,?_⟩,?_⟩
 ·exact(X1.out.tr y3).size
 ·exact OwV.ext (n:=co.length) (OwV.more (n:=co.length) oV2.out X1.out.size) (x3.alloc _)
 ·exact(oR2.out.more X1.out.size).ext (x3.alloc _)
 ·exact(X1.out.tr y3).alloc _
theorem QR {base g:Nat}{rows:List (List Int)}{mi:Bool}(w:World)(H:KernT w base g rows mi)(hn:1<=rows.length)(hl:rows.length<=24) : Calls Tryz.prog 277 #[.pointer (some ⟨g,0,none⟩)] w fun e w'=>e=.returned (.int .i64 (rows.length-1))/\Ext w w':=by
 obtain⟨C,c,us,h1,-,-,-⟩:=H;have c0:=h1.c0;have hw:IntKind.i64.wrap ((rows.length:Int)-1)=(rows.length:Int)-1:=IntWalk.i64_in _ (by omega);go_enter Tryz.func277,Tryz.ntmps277;go_wp2;go_ret;exact⟨rfl,Ext.rf _⟩
def FaceB (w:World)(g:Nat)(T:TypeId)(gk:Nat) : Prop:=Blk w g 75 #[.iface T (.pointer (some ⟨gk,0,none⟩))]
theorem FaceB.ext {w w':World}{g gk:Nat}{T:TypeId}(h:FaceB w g T gk)(x:Ext w w') : FaceB w' g T gk:=Blk.ext h x
theorem Zgd (j:InstP)(vs:List Value)(w:World)(H:RInst w vs j)(lw:j.weight.length<=1000000000)(lv:j.value.length<=1000000000)(hc:Zf j≠0) :
  Calls Tryz.prog 11 #[.agg (List.toArray vs)] w fun e w'=>e=.returned (.tuple #[.pointer none,.int .i64 (Zf j)])/\Ext w w':=by
 have C:=fun(W:World) (x:Ext w W)=>ZC j vs W (H.ext x) lw lv
 obtain⟨A,a,B,b,D,d,rfl,-,-,-⟩:=H;generalize Zf j=er at *;have e1:(er != 0)=true:=by simpa using hc
 replace C:=Hd C;clear hc;go_enter Tryz.func11,Tryz.ntmps11;go_wp2_with (fail);refine(C.out _ (by(repeat (first | assumption | exact Ext.rf _ | apply Ext.drew | apply Ext.drewN | apply Ext.alloc)))).mono ?_;rintro e w1 ⟨rfl,x1⟩;have X1:=Hd (Ext.tr (a:=w) (by(repeat (first | assumption | exact Ext.rf _ | apply Ext.drew | apply Ext.drewN | apply Ext.alloc))) x1);clear x1;go_wp2_with (fail);go_ret2;exact⟨rfl,X1.out⟩
theorem Zgi (j:InstP)(vs:List Value)(w:World)(H:RInst w vs j)(hc:Zf j=0)(hk:j.kind=1) :
  Calls Tryz.prog 11 #[.agg (List.toArray vs)] w fun e w'=>(∃ g gk base,e=.returned (.tuple #[.pointer (some ⟨g,0,none⟩),.int .i64 0])/\FaceB w' g 69 gk/\KernB w' base gk j.cap (ZU j.value j.weight) (Zl (ZU j.value j.weight) j.weight) (Zl (ZU j.value j.weight) j.value) (YE (Zl (ZU j.value j.weight) j.value) 0))/\Ext w w':=by
 have ok:=ZD hc hk;have C:=fun(W:World) (x:Ext w W)=>ZC j vs W (H.ext x) (by have:=ok.w;have:=ok.n2;omega) (by have:=ok.v;have:=ok.n2;omega)
 have NW:=fun(W:World) (x:Ext w W)=>Zfj j vs W (H.ext x) hc hk
 unfold ZcD at NW;rw[hc] at C;clear ok hc;obtain⟨kind,nn,cap,xw,xv,co⟩:=j;obtain⟨A,a,B,b,D,d,rfl,-,-,-⟩:=H;simp only at *;subst hk;generalize ZU xv xw=l at *;generalize Zl l xw=ws at *;generalize Zl l xv=us at *;generalize YE us 0=bs at *;have B1:Hid (Blk (w.alloc (.cells #[.int .i64 1,.int .i64 nn,.int .i64 cap,.slice A xw.length a,.slice B xv.length b,.slice D co.length d] 25)) w.heap.size 25 #[.int .i64 1,.int .i64 nn,.int .i64 cap,.slice A xw.length a,.slice B xv.length b,.slice D co.length d]):=.new rfl;replace C:=Hd C;replace NW:=Hd NW;go_enter Tryz.func11,Tryz.ntmps11;go_wp2_with (fail);refine(C.out _ (by(repeat (first | assumption | exact Ext.rf _ | apply Ext.drew | apply Ext.drewN | apply Ext.alloc)))).mono ?_;rintro e w1 ⟨rfl,x1⟩;have X1:=Hd (Ext.tr (a:=w) (by(repeat (first | assumption | exact Ext.rf _ | apply Ext.drew | apply Ext.drewN | apply Ext.alloc))) x1);have b1:=B1.out.ext x1;have t0:=b1.c0;have t1:=b1.c1;have t2:=b1.c2;have t3:=b1.c3;have t4:=b1.c4;have t5:=b1.c5;clear x1 B1 b1;go_wp2_with (fail);refine(NW.out _ X1.out).mono ?_;rintro e w2 ⟨gk,rfl,K2,x2⟩;have X2:=Hd (X1.out.tr x2);replace K2:=Hd K2;clear x2 t0 t1 t2 t3 t4 t5;go_wp2_with (fail);go_ret2;have xa:Ext w2 (w2.alloc (.cells #[.iface 69 (.pointer (some ⟨gk,0,none⟩))] 75)):=(Ext.rf _).alloc _;exact⟨⟨w2.heap.size,gk,_,rfl,.new rfl,K2.out.ext xa⟩,X2.out.tr xa⟩
theorem Zgj (j:InstP)(vs:List Value)(w:World)(H:RInst w vs j)(hc:Zf j=0)(hk:j.kind=2) :
  Calls Tryz.prog 11 #[.agg (List.toArray vs)] w fun e w'=>(∃ g gk base,e=.returned (.tuple #[.pointer (some ⟨g,0,none⟩),.int .i64 0])/\FaceB w' g 76 gk/\KernA w' base gk j.cost)/\Ext w w':=by
 have ok:=Zo hc (by omega);have C:=fun(W:World) (x:Ext w W)=>ZC j vs W (H.ext x) (by rw[ok.w];simp) (by rw[ok.v];simp)
 have NW:=fun(W:World) (x:Ext w W)=>Zes j vs W (H.ext x) hc hk
 unfold ZaW at NW;rw[hc] at C;clear ok hc;obtain⟨kind,nn,cap,xw,xv,co⟩:=j;obtain⟨A,a,B,b,D,d,rfl,-,-,-⟩:=H;simp only at *;subst hk;have B1:Hid (Blk (w.alloc (.cells #[.int .i64 2,.int .i64 nn,.int .i64 cap,.slice A xw.length a,.slice B xv.length b,.slice D co.length d] 25)) w.heap.size 25 #[.int .i64 2,.int .i64 nn,.int .i64 cap,.slice A xw.length a,.slice B xv.length b,.slice D co.length d]):=.new rfl;replace C:=Hd C;replace NW:=Hd NW;go_enter Tryz.func11,Tryz.ntmps11;go_wp2_with (fail);refine(C.out _ (by(repeat (first | assumption | exact Ext.rf _ | apply Ext.drew | apply Ext.drewN | apply Ext.alloc)))).mono ?_;rintro e w1 ⟨rfl,x1⟩;have X1:=Hd (Ext.tr (a:=w) (by(repeat (first | assumption | exact Ext.rf _ | apply Ext.drew | apply Ext.drewN | apply Ext.alloc))) x1);have b1:=B1.out.ext x1;have t0:=b1.c0;have t1:=b1.c1;have t2:=b1.c2;have t3:=b1.c3;have t4:=b1.c4;have t5:=b1.c5;clear x1 B1 b1;go_wp2_with (fail);refine(NW.out _ X1.out).mono ?_;rintro e w2 ⟨gk,rfl,K2,x2⟩;have X2:=Hd (X1.out.tr x2);replace K2:=Hd K2;clear x2 t0 t1 t2 t3 t4 t5;go_wp2_with (fail);go_ret2;have xa:Ext w2 (w2.alloc (.cells #[.iface 76 (.pointer (some ⟨gk,0,none⟩))] 75)):=(Ext.rf _).alloc _;exact⟨⟨w2.heap.size,gk,_,rfl,.new rfl,K2.out.ext xa⟩,X2.out.tr xa⟩
theorem Zgk (j:InstP)(vs:List Value)(w:World)(H:RInst w vs j)(hc:Zf j=0)(hk:j.kind=3) :
  Calls Tryz.prog 11 #[.agg (List.toArray vs)] w fun e w'=>(∃ g gk base,e=.returned (.tuple #[.pointer (some ⟨g,0,none⟩),.int .i64 0])/\FaceB w' g 79 gk/\KernT w' base gk j.cost (UP j.cost))/\Ext w w':=by
 have ok:=Zo hc (by omega);have C:=fun(W:World) (x:Ext w W)=>ZC j vs W (H.ext x) (by rw[ok.w];simp) (by rw[ok.v];simp)
 have NW:=fun(W:World) (x:Ext w W)=>Zeu j vs W (H.ext x) hc hk
 unfold QQ at NW;rw[hc] at C;clear ok hc;obtain⟨kind,nn,cap,xw,xv,co⟩:=j;obtain⟨A,a,B,b,D,d,rfl,-,-,-⟩:=H;simp only at *;subst hk;generalize UP co=mi at *;have B1:Hid (Blk (w.alloc (.cells #[.int .i64 3,.int .i64 nn,.int .i64 cap,.slice A xw.length a,.slice B xv.length b,.slice D co.length d] 25)) w.heap.size 25 #[.int .i64 3,.int .i64 nn,.int .i64 cap,.slice A xw.length a,.slice B xv.length b,.slice D co.length d]):=.new rfl;replace C:=Hd C;replace NW:=Hd NW;go_enter Tryz.func11,Tryz.ntmps11;go_wp2_with (fail);refine(C.out _ (by(repeat (first | assumption | exact Ext.rf _ | apply Ext.drew | apply Ext.drewN | apply Ext.alloc)))).mono ?_;rintro e w1 ⟨rfl,x1⟩;have X1:=Hd (Ext.tr (a:=w) (by(repeat (first | assumption | exact Ext.rf _ | apply Ext.drew | apply Ext.drewN | apply Ext.alloc))) x1);have b1:=B1.out.ext x1;have t0:=b1.c0;have t1:=b1.c1;have t2:=b1.c2;have t3:=b1.c3;have t4:=b1.c4;have t5:=b1.c5;clear x1 B1 b1;go_wp2_with (fail);refine(NW.out _ X1.out).mono ?_;rintro e w2 ⟨gk,rfl,K2,x2⟩;have X2:=Hd (X1.out.tr x2);replace K2:=Hd K2;clear x2 t0 t1 t2 t3 t4 t5;go_wp2_with (fail);go_ret2;have xa:Ext w2 (w2.alloc (.cells #[.iface 79 (.pointer (some ⟨gk,0,none⟩))] 75)):=(Ext.rf _).alloc _;exact⟨⟨w2.heap.size,gk,_,rfl,.new rfl,K2.out.ext xa⟩,X2.out.tr xa⟩
theorem ZbQ {base g:Nat}{cap:Int}{l:List Nat}{ws vs bs:List Int}(from_:Nat)(room:Int)(w:World)(H:KernB w base g cap l ws vs bs)(ok:KOk cap l ws vs bs)(hf:from_<=l.length)(hr:0<=room/\room<=2147483647) :
  Calls Tryz.prog 254 #[.pointer (some ⟨g,0,none⟩),.int .i64 from_,.int .i64 room] w fun e w'=>e=.returned (.int .i64 (Zr room (ws.drop from_) (vs.drop from_)))/\Ext w w':=by
 obtain⟨PA,pc,WA,wc,VA,vc,HA,hc,hB,-,-,⟨rW,-⟩,⟨rV,-⟩,-⟩:=H;obtain⟨okc,l64,lw,lv,lb,sw,sv⟩:=ok;have c1:=hB.c1;have c2:=hB.c2;have c3:=hB.c3;have zg:=hB.lt;replace hB:=Hd hB;replace lw:=Hd lw;replace lv:=Hd lv;replace lb:=Hd lb;obtain⟨hr1,hr2⟩:=hr;go_enter Tryz.func254,Tryz.ntmps254;go_wp2_with (fail);go_loopw [2,7,8] (fun r o i wr=>∃ (k:Nat) (rm up:Int),i=.int .i64 k/\r=.int .i64 rm/\o=.int .i64 up/\k<=l.length/\0<=rm/\rm<=2147483647/\0<=up/\up<=2147483647*(k:Int)/\Hid (Zr room (ws.drop from_) (vs.drop from_)=up+Zr rm (ws.drop k) (vs.drop k))/\Ext w wr) (fun _ _ i _=>l.length-(intOf i).toNat)
 case atStart=>exact⟨from_,room,0,rfl,rfl,rfl,hf,hr1,hr2,by omega,by omega,(Int.zero_add _).symm,Ext.rf _⟩
 case round =>
  obtain⟨k,rm,up,rfl,rfl,rfl,hk,b1,b2,b3,b4,HS,Y⟩:=hrel;have k1:=Zh Y zg c1
  by_cases hlt:k<l.length
  ·have hkw:k<ws.length:=by rw[lw.out];omega
   have hkv:k<vs.length:=by rw[lv.out];omega
   obtain⟨wb,wo,u,rfl,zu,cu,eu,du⟩:=(rW.ext Y).at hkw;obtain⟨vb,vo,v,rfl,zv,cv,ev,dv⟩:=(rV.ext Y).at hkv;have bu:=sw.get eu.out;have bv:=sv.get ev.out;have k2:=Zh Y zg c2;have k3:=Zh Y zg c3;have zg':=Nat.lt_of_lt_of_le zg Y.size
   by_cases hgt:rm<u
   ·have HN:Hid (Zr room (ws.drop from_) (vs.drop from_)=up+v*rm / u):=by
     have h:=HS.out;rw[du.out,dv.out,Zr,if_pos hgt] at h;exact h
    have hm:=QB bv.1 bv.2 b1 b2;have hq:0<=v*rm / u/\v*rm / u<=4611686014132420609:=by
     refine⟨Int.ediv_nonneg hm.1 (by omega),?_⟩;have:=Int.ediv_le_self u hm.1;omega
    have PP:=Hd (fun W=>Zep v rm u W bv ⟨b1,b2⟩ ⟨by omega,bu.2⟩);generalize v*rm / u=q at *;clear hm HS eu du ev dv sw sv;obtain⟨q1,q2⟩:=hq;go_wp2_with (fail);go_region_held3 (fun w'=>w'.cell? ⟨g,2,none⟩=some (.slice (some ⟨wb,wo,none⟩) ws.length wc)/\w'.cell? ⟨g,3,none⟩=some (.slice (some ⟨vb,vo,none⟩) vs.length vc)/\w'.cell? ⟨wb,wo+k,none⟩=some (.int .i64 u)/\w'.cell? ⟨vb,vo+k,none⟩=some (.int .i64 v)) (go_keep)
     (first | (go_at_call 255;refine(PP.out _).mono ?_;rintro e w2 ⟨rfl,x2⟩;have X2:=Ext.tr (a:=wr) (by(repeat (first | assumption | exact Ext.rf _ | apply Ext.drew | apply Ext.drewN | apply Ext.alloc))) x2;have s1:=Zh X2 zg' k2;have s2:=Zh X2 zg' k3;have s3:=Zh X2 zu cu;have s4:=Zh X2 zv cv))
    all_goals go_wp2
    all_goals go_ret
    all_goals exact⟨Yg HN.out.symm,Ext.tr Y (by(repeat (first | assumption | exact Ext.rf _ | apply Ext.drew | apply Ext.drewN | apply Ext.alloc)))⟩
   ·have HN:Hid (Zr room (ws.drop from_) (vs.drop from_)=(up+v)+Zr (rm-u) (ws.drop (k+1)) (vs.drop (k+1))):=by
     have h:=HS.out;rw[du.out,dv.out,Zr,if_neg hgt,<-Int.add_assoc] at h;exact h
    clear HS eu du ev dv sw sv;go_wp2;go_roundw
    case rel=>exact⟨k+1,rm-u,up+v,by go_num,rfl,rfl,by omega,by omega,by omega,by omega,by omega,HN,Y⟩
    case measure=>simp[intOf];omega
  ·have HN:Hid (Zr room (ws.drop from_) (vs.drop from_)=up):=by
    have h:=HS.out;rw[List.drop_of_length_le (l:=ws) (i:=k) (by rw[lw.out];omega)] at h;rw[h];have h0:Zr rm [] (vs.drop k)=0:=by cases vs.drop k<;>rfl
    exact(by rw[h0,Int.add_zero]:up+Zr rm [] (vs.drop k)=up)
   clear HS sw sv;go_wp2;go_ret;exact⟨Yg HN.out.symm,Y⟩
def Zev (b:Int×Int) : Value:=.tuple #[.int .i64 b.1,.int .i64 b.2]
theorem Zdh {base g:Nat}{cap:Int}{l:List Nat}{ws vs bs:List Int}(P:Option Addr)(c:Nat)(p:List Int)(w:World)(H:KernB w base g cap l ws vs bs)(ok:KOk cap l ws vs bs)(hbs:bs=YE vs 0)(hP:RdI w P p)(lp:p.length<=1000000000) :
  Calls Tryz.prog 250 #[.pointer (some ⟨g,0,none⟩),.slice P p.length c] w fun e w'=>e=.returned (Zev (YH cap ws vs p))/\Ext w w':=by
 have ST:=Jz P c p w H ok hP lp;have HBr:=fun(room:Int) (hf:p.length<=l.length) (hr:0<=room/\room<=2147483647) W (x:Ext w W)=>ZbQ p.length room W (H.ext x) ok hf hr
 obtain⟨PA,pc,WA,wc,VA,vc,HA,hc,hB,-,-,-,-,⟨rH,-⟩⟩:=H;obtain⟨okc,l64,lw,lv,lb,sw,sv⟩:=ok;have c4:=hB.c4;have zg:=hB.lt;replace hB:=Hd hB;replace ST:=Hd ST;replace HBr:=Hd HBr;have HK:∀ o,stP cap 0 ws vs p=o->YH cap ws vs p=(match o with
  | none=>(0,1)
  | some (room,out)=>(out+Zj (vs.drop p.length)-Zr room (ws.drop p.length) (vs.drop p.length),0)):=fun o ho=>by subst ho;rfl
 replace HK:=Hd HK;obtain⟨st,hst⟩:∃ st,Hid (stP cap 0 ws vs p=st):=⟨_,rfl⟩;rw[hst.out] at ST;have HK2:=HK.out _ hst.out;clear HK;rcases st with _ | ⟨room,out⟩
 ·simp only at HK2
  rw[HK2];replace hbs:=Hd hbs;replace lw:=Hd lw;replace lv:=Hd lv;replace lb:=Hd lb;clear HK2;go_enter Tryz.func250,Tryz.ntmps250;go_wp2_with (fail);refine ST.out.mono ?_;rintro e w1 ⟨rfl,x1⟩;unfold QI;go_wp2;go_ret2;exact⟨rfl,x1⟩
 ·simp only at HK2
  have hle:p.length<=l.length:=by
   by_cases h:ws.length<p.length
   ·have h2:=hst.out;rw[Uf h] at h2;cases h2
   ·omega
  have bR:=Ug (fun x hx=>(sw x hx).1) okc.1 hst.out;have bO:=Zaf sv hst.out;have hx:bs[p.length]?=some (Zj (vs.drop p.length)):=by
   rw[hbs];exact Jw (by omega) (by omega)
  obtain⟨hb,ho,x,rfl,zh,ch,ex,_⟩:=rH.at (k:=p.length) (by omega);obtain rfl:x=Zj (vs.drop p.length):=by
   have h:=ex.out;rw[hx] at h;exact(Option.some.inj h).symm
  have bS:=ZcC sv p.length;rw[lv] at bS;have HB0:=HBr.out room hle ⟨bR.1,by omega⟩;have bN:=WZ (room:=room) (ws:=ws.drop p.length) (vs:=vs.drop p.length) bR.1 (fun x hx=>(sw x (List.mem_of_mem_drop hx)).1) (fun x hx=>(sv x (List.mem_of_mem_drop hx)).1);have bL:=VR (room:=room) (ws:=ws.drop p.length) (vs:=vs.drop p.length) bR.1 (fun x hx=>(sw x (List.mem_of_mem_drop hx)).1) (fun x hx=>(sv x (List.mem_of_mem_drop hx)).1);rw[HK2];generalize Zj (vs.drop p.length)=S at *;generalize Zr room (ws.drop p.length) (vs.drop p.length)=br at *;obtain⟨bR1,bR2⟩:=bR;obtain⟨bO1,bO2⟩:=bO;obtain⟨bS1,bS2⟩:=bS;have ad1:Hid (IntKind.i64.wrap (out+S)=out+S):=IntWalk.i64_in _ (by omega);have ad2:Hid (IntKind.i64.wrap (out+S-br)=out+S-br):=IntWalk.i64_in _ (by omega);have hpb:(p.length:Int)<(bs.length:Int):=by omega
  have hpb2:p.length<bs.length:=by omega
  replace hbs:=Hd hbs;replace lw:=Hd lw;replace lv:=Hd lv;replace lb:=Hd lb;replace HB0:=Hd HB0;clear HK2 hx ex HBr;go_enter Tryz.func250,Tryz.ntmps250;go_wp2_with (fail);refine ST.out.mono ?_;rintro e w1 ⟨rfl,x1⟩;unfold QI;have k4:=Zh x1 zg c4;have kh:=Zh x1 zh ch;have zg1:=Nat.lt_of_lt_of_le zg x1.size;have zh1:=Nat.lt_of_lt_of_le zh x1.size;go_wp2_with (fail);have ad1':=ad1.out;have ad2':=ad2.out;go_region_held3 (fun w'=>w'.cell? ⟨g,4,none⟩=some (.slice (some ⟨hb,ho,none⟩) bs.length hc)/\w'.cell? ⟨hb,ho+p.length,none⟩=some (.int .i64 S)) (go_keep)
   (first | (go_at_call 254;refine(HB0.out _ (Ext.tr (a:=w) x1 (by(repeat (first | assumption | exact Ext.rf _ | apply Ext.drew | apply Ext.drewN | apply Ext.alloc))))).mono ?_;rintro e w2 ⟨rfl,x2⟩;have X2:=Ext.tr (a:=w1) (by(repeat (first | assumption | exact Ext.rf _ | apply Ext.drew | apply Ext.drewN | apply Ext.alloc))) x2;have s1:=Zh X2 zg1 k4;have s2:=Zh X2 zh1 kh))
  all_goals go_wp2
  all_goals go_ret2
  all_goals exact⟨rfl,Ext.tr x1 (by(repeat (first | assumption | exact Ext.rf _ | apply Ext.drew | apply Ext.drewN | apply Ext.alloc)))⟩
end Go.Proofs.YtmojhhlcocjoaaaGreatDoor
