/- parts, packed by a program -/
import Derived.Test.YtocfmioihaefoaaGreatDoorShellWritesP2
set_option maxRecDepth 100000
set_option maxHeartbeats 16000000
set_option linter.all false
namespace Go.Proofs.YtocfmioihaefoaaGreatDoor
section
open Go.RowKit Go.ChangeShapes Go.WideShapes Go.ChangeAt Go.Deep
theorem Xj {s:ScrP}{said:List Txt}{x:Txt}{ws:List Txt}(h0:x≠Zs)(h1:x≠ZK)(h2:x≠ZE)(h3:x≠ZB) : Zy s said (x::ws)=Yb s said (x::ws):=by
 unfold Zy Yb;rw[List.headD_cons,if_neg h0,if_neg h1,if_neg h2,if_neg h3]
 all_goals (cases Xi (x::ws) s.wk<;>rfl)
theorem WG (s:ScrP)(said:List Txt)(ws:List Txt) : Zy s said (Zs::ws)=Yl s said (Zs::ws) 16 (Ys s 0):=by
 unfold Zy;rw[List.headD_cons,if_pos rfl]
 rfl
theorem WH (s:ScrP)(said:List Txt)(ws:List Txt) : Zy s said (ZK::ws)=Yl s said (ZK::ws) 4096 (Ys s 1):=by
 unfold Zy;rw[List.headD_cons,if_neg (by decide),if_pos rfl]
 rfl
theorem WJ (s:ScrP)(said:List Txt)(ws:List Txt) : Zy s said (ZE::ws)=Yl s said (ZE::ws) 6 (Ys s 2):=by
 unfold Zy;rw[List.headD_cons,if_neg (by decide),if_neg (by decide),if_pos rfl]
 rfl
def ScrIn (k:Nat)(s:ScrP)(said:List Txt) : Prop:=1<=s.wk/\s.wk<=16/\s.draws.length<=100*k/\s.parts.length<=k/\said.length<=k
theorem VX {k:Nat}{s:ScrP}{said:List Txt}{x:Txt}{ws:List Txt}{m:Int}{i:Nat}(h:ScrIn k s said)(hm:i=0->m<=16){r:ScrP×List Txt}(e:Yl s said (x::ws) m (Ys s i)=some r) : ScrIn (k+1) r.1 r.2:=by
 obtain⟨a,b,c,d,f⟩:=h;rw[Y0] at e;split at e
 ·split at e
  ·rename_i n hn
   split at e
   ·cases e
   ·injection e with e
    subst e;obtain⟨_,_,g⟩:=Yh hn;have g0:=g 0 n m rfl rfl;unfold Ys;split
    ·rename_i hi
     have:=hm hi;exact⟨by show 1<=n;omega,by show n<=16;omega,by show s.draws.length<=_;omega,by show s.parts.length<=_;omega,by simp;omega⟩
    split
    ·exact⟨a,b,by show s.draws.length<=_;omega,by show s.parts.length<=_;omega,by simp;omega⟩
    ·exact⟨a,b,by show s.draws.length<=_;omega,by show s.parts.length<=_;omega,by simp;omega⟩
  ·cases e
 ·cases e
theorem Qj {k:Nat}{s:ScrP}{said:List Txt}{l:Txt}(h:ScrIn k s said){r:ScrP×List Txt}(e:YD s said l=some r) : ScrIn (k+1) r.1 r.2:=by
 unfold YD at e;split at e
 ·injection e with e
  subst e;obtain⟨a,b,c,d,f⟩:=h;exact⟨a,b,by show s.draws.length<=_;omega,by show s.parts.length<=_;omega,by show said.length<=_;omega⟩
 ·cases hs:Zp 32 l with
  | nil=>exact absurd hs (Xx 32 l)
  | cons x ws =>
   rw[hs] at e
   by_cases h0:x=Zs
   ·subst h0;rw[WG] at e;exact VX h (fun _=>Int.le_refl _) e
   by_cases h1:x=ZK
   ·subst h1;rw[WH] at e;exact VX h (fun hi=>by cases hi) e
   by_cases h2:x=ZE
   ·subst h2;rw[WJ] at e;exact VX h (fun hi=>by cases hi) e
   obtain⟨a,b,c,d,f⟩:=h
   by_cases h3:x=ZB
   ·rw[Wd s said x ws h3] at e
    unfold XZ at e;split at e
    ·rename_i hh
     cases hn:Zn ws (List.replicate ws.length ZX) with
     | none=>rw[hn] at e;cases e
     | some dd =>
      rw[hn] at e;simp only[Option.map_some] at e
      injection e with e
      subst e;have g:=(Yh hn).1;rw[List.length_replicate] at g;exact⟨a,b,by show (s.draws++dd).length<=_;rw[List.length_append];omega,by show s.parts.length<=_;omega,by simp;omega⟩
    ·cases e
   ·rw[Xj h0 h1 h2 h3] at e
    unfold Yb at e;split at e
    ·split at e
     ·cases e
     ·injection e with e
      subst e;exact⟨a,b,by show s.draws.length<=_;omega,by show (s.parts++_).length<=_;rw[List.length_append];simp;omega,by show said.length<=_;omega⟩
    ·cases e
theorem ScrIn.start : ScrIn 0 scrS []:=⟨by decide,by decide,by decide,by decide,by decide⟩
theorem Zbn (base g:Nat)(s:ScrP)(said:List Txt)(k:Nat)(l:Txt)(w:World)(H:RdX base g s said w)(hbw:base<=w.heap.size)(hin:ScrIn k s said)(hk:k<=70000)(hl:l.length<=65536) :
  Calls Tryz.prog 21 #[.pointer (some ⟨g,0,none⟩),.string ⟨l.toArray⟩] w (Wc (YD s said l) base g w):=by
 obtain⟨A,a,B,b,C,c,H⟩:=H;obtain⟨i1,i2,i3,i4,i5⟩:=hin;have zg:=H.rb.lt
 by_cases hc:l=[]\/l.head?=some 35
 ·have e1:Hid (YD s said l=some (s,said)):=Hd (by unfold YD;rw[if_pos hc])
  have OK:Hid (∀ W,Ext w W->Wc (YD s said l) base g w (.returned (.bool true)) W):=Hd fun W X=>by
   unfold Wc JF;rw[e1.out];exact⟨rfl,fun r h=>(by injection h with h;subst h;exact⟨A,a,B,b,C,c,H.ext X⟩),MR.of_ext X⟩
  clear e1 H;generalize Wc (YD s said l) base g w=PO at *
  cases l with
  | nil =>
   clear hc;go_enter Tryz.func21,Tryz.ntmps21;go_wp2_with (fail);exact OK.out _ XI
  | cons d r =>
   obtain rfl:d=35:=by
    rcases hc with h | h
    ·cases h
    ·simpa using h
   have hidx:∀ h,(⟨((35:UInt8)::r).toArray⟩:ByteArray)[0]'h=35:=fun _=>rfl
   have hq:((((35:UInt8).toNat:Nat):Int)==35)=true:=by decide
   clear hc;go_enter Tryz.func21,Tryz.ntmps21;go_wp2_with (fail);exact OK.out _ XI
 ·have e1:YD s said l=Zy s said (Zp 32 l):=by unfold YD;rw[if_neg hc]
  rw[e1];clear e1;obtain⟨x,ws,hsp⟩:∃ x ws,Zp 32 l=x::ws:=by
   cases h:Zp 32 l with
   | nil=>exact absurd h (Xx 32 l)
   | cons x ws=>exact⟨x,ws,rfl⟩
  have hx:∀ y∈x::ws,y.length<=70000:=fun y hy=>by have:=XH (c:=32) (s:=l) (x:=y) (by rw[hsp];exact hy);omega
  have hwl:(x::ws).length<=65537:=by have:=YZ (c:=32) l;rw[hsp] at this;omega
  have SP:=fun(W:World)=>UZ l 32 W (by omega)
  rw[hsp] at SP ⊢;have hll:(x::ws).length=ws.length+1:=rfl;rw[hll] at SP;replace SP:=Hd SP;clear hsp hll;have hC:bl C≠some w.heap.size:=fun h=>by have:=(H.rt.lt _ h).2;omega
  have H1:RdS base g s said A a B b C c (w.alloc (.cells (txV (x::ws)).toArray 9)):=H.ext ((Ext.rf w).alloc _);have BW:Blk (w.alloc (.cells (txV (x::ws)).toArray 9)) w.heap.size 9 (txV (x::ws)).toArray:=.new rfl;have X1:Ext w (w.alloc (.cells (txV (x::ws)).toArray 9)):=(Ext.rf w).alloc _;have hb1:base<=(w.alloc (.cells (txV (x::ws)).toArray 9)).heap.size:=Nat.le_trans hbw X1.size;have c0:(w.alloc (.cells (txV (x::ws)).toArray 9)).cell? ⟨w.heap.size,0,none⟩=some (.string ⟨x.toArray⟩):=(BW.cell 0);have SZ:=Hd (fun(i:Nat) (hi:i<3) (m:Int)=>Zbl base g s said A a B b C c x ws w.heap.size m i hi _ H1 hb1 (by omega) BW hx (by omega));have DR:=Hd (ZcN base g s said A a B b C c x ws w.heap.size _ H1 hb1 (by omega) (by omega) BW hC hx (by omega));have PA:=Hd (Zbm base g s said A a B b C c x ws w.heap.size _ H1 hb1 (by omega) ⟨i1,by omega⟩ BW hx (by omega));have X1H:=Hd X1;have TO:Hid (∀ (R:Option (ScrP×List Txt)) (e:Ending) (W:World),R=Zy s said (x::ws)->Wc R base g (w.alloc (.cells (txV (x::ws)).toArray 9)) e W->∀ W',Ext W W'->Wc (Zy s said (x::ws)) base g w e W'):=Hd fun R e W hR h W' X=>by
   subst hR;obtain⟨h1,h2,h3⟩:=h;exact⟨h1,fun r hr=>(by obtain⟨A,a,B,b,C,c,q⟩:=h2 r hr;exact⟨A,a,B,b,C,c,q.ext X⟩),((MR.of_ext X1).tr h3).ext X⟩
  have W0:=Hd (WG s said ws);have W1:=Hd (WH s said ws);have W2:=Hd (WJ s said ws);have W3:Hid (x=ZB->XZ s said x ws=Zy s said (x::ws)):=Hd fun h=>(Wd s said x ws h).symm
  have W4:Hid (x≠Zs->x≠ZK->x≠ZE->x≠ZB->Yb s said (x::ws)=Zy s said (x::ws)):=Hd fun a b c d=>(Xj a b c d).symm
  clear hx hwl hC H1 BW X1 hb1 H i1 i2 i3 i4 i5
  cases l with
  | nil=>exact absurd (.inl rfl) hc
  | cons d r =>
   have hd:d≠35:=fun e=>hc (.inr (by rw[e];rfl))
   have hidx:∀ h,(⟨(d::r).toArray⟩:ByteArray)[0]'h=d:=fun _=>rfl
   have hq:((d.toNat:Int)==35)=false:=beq_eq_false_iff_ne.2 fun e=>hd (UInt8.toNat_inj.1 (by simp;omega))
   clear hc hd hl;obtain⟨n,hn⟩:∃ n,ws.length=n:=⟨_,rfl⟩;rw[hn] at SP SZ DR PA;clear hn;generalize hw1:w.alloc (.cells (txV (x::ws)).toArray 9)=w1 at *;replace hw1:=Hd hw1;go_enter Tryz.func21,Tryz.ntmps21;go_wp2_with (fail);refine(SP.out _).mono ?_;rintro e w2 ⟨rfl,rfl⟩;rw[hw1.out];clear SP hw1 hidx hq
   by_cases h0:x=Zs
   ·have q0:@BEq.beq (List UInt8) _ x [119,111,114,107,101,114,115]=true:=beq_iff_eq.2 h0
    have WW:Hid (Yl s said (x::ws) 16 (Ys s 0)=Zy s said (x::ws)):=Hd (by rw[h0];exact W0.out.symm);have CA:=Hd (SZ.out 0 (by decide) 16);clear W0 W1 W2 W3 W4 SZ DR PA h0;go_wp2_with (fail);refine CA.out.mono ?_;rintro e w3 h3;have hB:=h3.1;subst hB;replace h3:=Hd h3;go_wp2_with (fail);go_ret;exact TO.out _ _ _ WW.out h3.out _ XI
   ·skip
    by_cases h1:x=ZK
    ·have q0:@BEq.beq (List UInt8) _ x [119,111,114,107,101,114,115]=false:=beq_eq_false_iff_ne.2 h0
     have q1:@BEq.beq (List UInt8) _ x [115,108,111,116,115]=true:=beq_iff_eq.2 h1;have WW:Hid (Yl s said (x::ws) 4096 (Ys s 1)=Zy s said (x::ws)):=Hd (by rw[h1];exact W1.out.symm);have CA:=Hd (SZ.out 1 (by decide) 4096);clear W0 W1 W2 W3 W4 SZ DR PA h0 h1;go_wp2_with (fail);refine CA.out.mono ?_;rintro e w3 h3;have hB:=h3.1;subst hB;replace h3:=Hd h3;go_wp2_with (fail);go_ret;exact TO.out _ _ _ WW.out h3.out _ XI
    ·skip
     by_cases h2:x=ZE
     ·have q0:@BEq.beq (List UInt8) _ x [119,111,114,107,101,114,115]=false:=beq_eq_false_iff_ne.2 h0
      have q1:@BEq.beq (List UInt8) _ x [115,108,111,116,115]=false:=beq_eq_false_iff_ne.2 h1;have q2:@BEq.beq (List UInt8) _ x [108,101,118,101,108,115]=true:=beq_iff_eq.2 h2;have WW:Hid (Yl s said (x::ws) 6 (Ys s 2)=Zy s said (x::ws)):=Hd (by rw[h2];exact W2.out.symm);have CA:=Hd (SZ.out 2 (by decide) 6);clear W0 W1 W2 W3 W4 SZ DR PA h0 h1 h2;go_wp2_with (fail);refine CA.out.mono ?_;rintro e w3 h3;have hB:=h3.1;subst hB;replace h3:=Hd h3;go_wp2_with (fail);go_ret;exact TO.out _ _ _ WW.out h3.out _ XI
     ·skip
      by_cases h3:x=ZB
      ·have q0:@BEq.beq (List UInt8) _ x [119,111,114,107,101,114,115]=false:=beq_eq_false_iff_ne.2 h0
       have q1:@BEq.beq (List UInt8) _ x [115,108,111,116,115]=false:=beq_eq_false_iff_ne.2 h1;have q2:@BEq.beq (List UInt8) _ x [108,101,118,101,108,115]=false:=beq_eq_false_iff_ne.2 h2;have q3:@BEq.beq (List UInt8) _ x [100,114,97,119,115]=true:=beq_iff_eq.2 h3;have WW:=Hd (W3.out h3);have CA:=DR;clear W0 W1 W2 W3 W4 SZ PA h0 h1 h2 h3;go_wp2_with (fail);refine CA.out.mono ?_;rintro e w3 h3;have hB:=h3.1;subst hB;replace h3:=Hd h3;go_wp2_with (fail);go_ret;exact TO.out _ _ _ WW.out h3.out _ XI
      ·skip
       have q0:@BEq.beq (List UInt8) _ x [119,111,114,107,101,114,115]=false:=beq_eq_false_iff_ne.2 h0;have q1:@BEq.beq (List UInt8) _ x [115,108,111,116,115]=false:=beq_eq_false_iff_ne.2 h1;have q2:@BEq.beq (List UInt8) _ x [108,101,118,101,108,115]=false:=beq_eq_false_iff_ne.2 h2;have q3:@BEq.beq (List UInt8) _ x [100,114,97,119,115]=false:=beq_eq_false_iff_ne.2 h3;have WW:=Hd (W4.out h0 h1 h2 h3);clear W0 W1 W2 W3 W4 SZ DR h0 h1 h2 h3;go_wp2_with (fail);refine PA.out.mono ?_;rintro e w3 h3;have hB:=h3.1;subst hB;replace h3:=Hd h3;go_wp2_with (fail);go_ret;exact TO.out _ _ _ WW.out h3.out _ XI
theorem Zah {ls:List Txt}{k:Nat}{l:Txt}(h:ls[k]?=some l)(s:ScrP)(said:List Txt)(n:Int) : YV s said n (ls.drop k)=match YD s said l with
  | none=>(scr0,n,8)
  | some r=>YV r.1 r.2 (n+1) (ls.drop (k+1)):=by
 have hlt:=(List.getElem?_eq_some_iff.1 h).1;have he:ls[k]=l:=(List.getElem?_eq_some_iff.1 h).2;rw[List.drop_eq_getElem_cons hlt,he,YV]
 cases YD s said l<;>rfl
def ZV (s:ScrP)(A:Option Addr)(a:Nat)(B:Option Addr)(b:Nat) : Array Value:=#[.int .i64 s.wk,.int .i64 s.sl,.int .i64 s.lv,.slice A s.draws.length a,.slice B s.parts.length b]
def ScrO (base:Nat)(s:ScrP)(v:Value)(w:World) : Prop:=∃ A a B b,v=.agg (ZV s A a B b)/\OwI w base A a s.draws/\OwV w base 46 5 B s.parts.length b (ZU s.parts)
theorem ScrO.ext {base:Nat}{s:ScrP}{v:Value}{w w':World}(h:ScrO base s v w)(x:Ext w w') : ScrO base s v w':=by
 obtain⟨A,a,B,b,h1,h2,h3⟩:=h;exact⟨A,a,B,b,h1,h2.ext x,h3.ext x⟩
def Vz (R:ScrP×Int×Int)(w:World)(e:Ending)(w':World) : Prop:=∃ v,e=.returned (.tuple #[v,.int .i64 R.2.1,.int .i64 R.2.2])/\ScrO w.heap.size R.1 v w'/\Ext w w'
theorem ScrO.zero (base:Nat)(w:World) : ScrO base scr0 (.agg #[.int .i64 0,.int .i64 0,.int .i64 0,.slice none 0 0,.slice none 0 0]) w:=⟨none,0,none,0,rfl,OwI.nil _ _,OwV.nil _ _ _ _⟩
theorem Vm (t:Txt)(w:World)(hl:t.length<=70000) :
  Calls Tryz.prog 9 #[.string ⟨t.toArray⟩] w (Vz (ZM t) w):=by
 have hsz:(⟨t.toArray⟩:ByteArray).size=t.length:=ZS t;unfold Vz;obtain⟨R,hR⟩:∃ R,Hid (ZM t=R):=⟨_,rfl⟩;rw[hR.out]
 by_cases hbig:65536<t.length
 ·have e1:Hid (R=(scr0,0,5)):=Hd (by rw[<-hR.out];unfold ZM;rw[if_pos hbig])
  have q1:(65536:Int)<((⟨t.toArray⟩:ByteArray).size:Int):=by rw[hsz];omega
  have q2:65536<(⟨t.toArray⟩:ByteArray).size:=by rw[hsz];exact hbig
  clear hR hsz hbig hl;generalize (⟨t.toArray⟩:ByteArray)=sb at *;have B0:Hid (Blk (w.alloc (.cells #[.int .i64 0,.int .i64 0,.int .i64 0,.slice none 0 0,.slice none 0 0] 34)) w.heap.size 34 #[.int .i64 0,.int .i64 0,.int .i64 0,.slice none 0 0,.slice none 0 0]):=Hd (.new rfl);have X0:Hid (Ext w (w.alloc (.cells #[.int .i64 0,.int .i64 0,.int .i64 0,.slice none 0 0,.slice none 0 0] 34))):=Hd ((Ext.rf w).alloc _);obtain⟨gr,hgr⟩:∃ gr,Hid (gr=w.heap.size):=⟨_,Hd rfl⟩;go_enter Tryz.func9,Tryz.ntmps9;go_upto_region 1 with(fail);generalize w.alloc (.cells #[.int .i64 0,.int .i64 0,.int .i64 0,.slice none 0 0,.slice none 0 0] 34)=w0 at *;rw[<-hgr.out] at B0 ⊢;obtain⟨b0,b1,b2,b3,b4,f0,f1,f2,f3,f4⟩:=Zk B0.out;obtain⟨w5,hWF,BF,YF⟩:=Zo B0.out X0.out (by have:=hgr.out;omega) (.int .i64 0) (.int .i64 0) (.int .i64 0) (.slice none 0 0) (.slice none 0 0);go_upto_region 2 with(fail);go_wp2_with (fail);rw[hWF.out];clear hWF;clear b0 b1 b2 b3 b4 f0 f1 f2 f3 f4;obtain⟨r0,r1,r2,r3,r4,-⟩:=Zk BF.out;refine bodyPost_ret (v:=.tuple #[.agg #[.int .i64 0,.int .i64 0,.int .i64 0,.slice none 0 0,.slice none 0 0],.int .i64 0,.int .i64 5]) (by simp[results,Tryz.results9,go_sem, *]) rfl ?_;rw[e1.out];exact⟨_,rfl,ScrO.zero _ _,YF.out⟩
 ·have hL:Hid (R=YV scrS [] 1 (Zp 10 t)):=Hd (by rw[<-hR.out];unfold ZM;rw[if_neg hbig])
  have SP:=fun(W:World)=>UZ t 10 W (by omega)
  have hm:∀ y∈Zp 10 t,y.length<=65536:=fun y hy=>by have:=XH (c:=10) (s:=t) (x:=y) hy;omega
  have hcn:(Zp 10 t).length<=65537:=by have:=YZ (c:=10) t;omega
  have q1:¬(65536:Int)<((⟨t.toArray⟩:ByteArray).size:Int):=by rw[hsz];omega
  have q2:¬65536<(⟨t.toArray⟩:ByteArray).size:=by rw[hsz];exact hbig
  clear hR hsz hbig hl;generalize Zp 10 t=L at *;obtain⟨n,hn⟩:∃ n,Hid (L.length=n):=⟨_,Hd rfl⟩;rw[hn.out] at SP hcn;replace hm:=Hd hm;replace SP:=Hd SP;generalize (⟨t.toArray⟩:ByteArray)=sb at *;have B0:Hid (Blk (w.alloc (.cells #[.int .i64 0,.int .i64 0,.int .i64 0,.slice none 0 0,.slice none 0 0] 34)) w.heap.size 34 #[.int .i64 0,.int .i64 0,.int .i64 0,.slice none 0 0,.slice none 0 0]):=Hd (.new rfl);have X0:Hid (Ext w (w.alloc (.cells #[.int .i64 0,.int .i64 0,.int .i64 0,.slice none 0 0,.slice none 0 0] 34))):=Hd ((Ext.rf w).alloc _);obtain⟨gr,hgr⟩:∃ gr,Hid (gr=w.heap.size):=⟨_,Hd rfl⟩;go_enter Tryz.func9,Tryz.ntmps9;go_upto_region 1 with(fail);generalize w.alloc (.cells #[.int .i64 0,.int .i64 0,.int .i64 0,.slice none 0 0,.slice none 0 0] 34)=w0 at *;rw[<-hgr.out] at B0 ⊢;go_upto_region 4 with(fail);have BR1:Hid (Blk (w0.alloc (.cells #[.int .i64 2,.int .i64 64,.int .i64 3,.slice none 0 0,.slice none 0 0,.slice none 0 0] 59)) w0.heap.size 59 #[.int .i64 2,.int .i64 64,.int .i64 3,.slice none 0 0,.slice none 0 0,.slice none 0 0]):=Hd (.new rfl);have BZ1:=Hd (B0.out.alloc (.cells #[.int .i64 2,.int .i64 64,.int .i64 3,.slice none 0 0,.slice none 0 0,.slice none 0 0] 59));have X1:=Hd (X0.out.alloc (.cells #[.int .i64 2,.int .i64 64,.int .i64 3,.slice none 0 0,.slice none 0 0,.slice none 0 0] 59));have hg1:w.heap.size<=w0.heap.size:=X0.out.size;generalize w0.alloc (.cells #[.int .i64 2,.int .i64 64,.int .i64 3,.slice none 0 0,.slice none 0 0,.slice none 0 0] 59)=w1 at *;generalize w0.heap.size=g at *;clear B0 X0;go_wp2_with (fail);refine(SP.out _).mono ?_;rintro e w2 ⟨rfl,rfl⟩;have BR2:=Hd (BR1.out.alloc (.cells (txV L).toArray 9));have BZ2:=Hd (BZ1.out.alloc (.cells (txV L).toArray 9));have BL2:Hid (Blk (w1.alloc (.cells (txV L).toArray 9)) w1.heap.size 9 (txV L).toArray):=Hd (.new rfl);have X2:=Hd (X1.out.alloc (.cells (txV L).toArray 9));have hlt1:g<w1.heap.size:=BR1.out.lt;have hlt2:gr<w1.heap.size:=BZ1.out.lt;have hb:w1.heap.size<(w1.alloc (.cells (txV L).toArray 9)).heap.size:=BL2.out.lt;clear SP BR1 BZ1 X1;generalize w1.alloc (.cells (txV L).toArray 9)=w2 at *;generalize w1.heap.size=gl at *;have START:Hid (RdX w2.heap.size g scrS [] w2):=Hd ⟨none,0,none,0,none,0,BR2.out,OwI.nil _ _,OwV.nil _ _ _ _,OwV.nil _ _ _ _,by omega⟩;have hne:Hid (gr≠g/\gl≠g):=Hd ⟨BZ2.out.ne BR2.out (by decide),BL2.out.ne BR2.out (by decide)⟩;have hz:gl<w2.heap.size:=hb;have hlx:Hid ((txV L).length=n):=Hd (by rw[Xt,hn.out]);have LI:=Hd (fun(W:World) (s:ScrP) (said:List Txt) (k:Nat) (l:Txt) (H:RdX w2.heap.size g s said W) (hbw:w2.heap.size<=W.heap.size) (hin:ScrIn k s said) (hk:k<=70000) (h:l∈L)=>Zbn w2.heap.size g s said k l W H hbw hin hk (hm.out l h));clear hm BR2;go_wp2_with (fail);go_loopw [19] (fun kv wr=>∃ (k:Nat) (s:ScrP) (said:List Txt),kv=.int .i64 k/\k<=n/\Hid (RdX w2.heap.size g s said wr)/\Hid (ScrIn k s said)/\Hid (R=YV s said ((k:Int)+1) (L.drop k))/\Hid (MR w2.heap.size g w2 wr)) (fun kv _=>n-(intOf kv).toNat)
  case atStart=>exact⟨0,scrS,[],rfl,by omega,START,Hd ScrIn.start,Hd (by rw[List.drop_zero];exact hL.out),Hd (MR.of_ext XI)⟩
  case round =>
   clear START hL;obtain⟨k,s,said,rfl,hk,RX,IN,HR,MM⟩:=hrel;have BZr:=Hd (BZ2.out.mod MM.out (by have:=hne.out.1;omega));have BLr:=Hd (BL2.out.mod MM.out (by have:=hne.out.2;omega));have Xr:=Hd (X2.out.mr MM.out (by omega) (by have:=X2.out.size;omega));have szr:w2.heap.size<=wr.heap.size:=Mod.size MM.out
   by_cases hlt:k<n
   ·have hlt2:(k:Int)<(n:Int):=by omega
    obtain⟨l,hlk⟩:∃ l,L[k]?=some l:=⟨_,List.getElem?_eq_getElem (by rw[hn.out];exact hlt)⟩;have hl0:wr.cell? ⟨gl,k,none⟩=some (.string ⟨l.toArray⟩):=(BLr.out.cell k).trans (by simp[txV,txS,hlk]);have hl1:wr.cell? ⟨gl,0+k,none⟩=some (.string ⟨l.toArray⟩):=by rw[Nat.zero_add];exact hl0
    have HR2:=Hd (HR.out.trans (Zah hlk s said _));have CA:=Hd (LI.out wr s said k l RX.out szr IN.out (by omega) (List.mem_of_getElem? hlk));have INL:=Hd (fun r h=>Qj (l:=l) IN.out (r:=r) h);obtain⟨Q,hQ⟩:∃ Q,YD s said l=Q:=⟨_,rfl⟩;rw[hQ] at HR2 CA INL;clear hQ HR RX IN hlk LI;unfold Wc JF at CA;go_wp2_with (fail);refine CA.out.mono ?_;rintro e w3 ⟨rfl,h2,h3⟩;have M3:=Hd (MM.out.tr h3);have h2H:=Hd h2;clear h2 h3 CA hl0 hl1
    cases Q with
    | none =>
     have e1:Hid (R=(scr0,(k:Int)+1,8)):=Hd HR2.out;have B3:=Hd (BZ2.out.mod M3.out (by have:=hne.out.1;omega));have Y3:=Hd (X2.out.mr M3.out (by omega) (by have:=X2.out.size;omega));obtain⟨b0,b1,b2,b3,b4,f0,f1,f2,f3,f4⟩:=Zk B3.out;obtain⟨w5,hWF,BF,YF⟩:=Zo B3.out Y3.out (by have:=hgr.out;omega) (.int .i64 0) (.int .i64 0) (.int .i64 0) (.slice none 0 0) (.slice none 0 0);clear HR2 INL h2H;go_wp2_with (fail);rw[hWF.out];clear hWF;clear b0 b1 b2 b3 b4 f0 f1 f2 f3 f4;obtain⟨r0,r1,r2,r3,r4,-⟩:=Zk BF.out;refine bodyPost_ret (v:=.tuple #[.agg #[.int .i64 0,.int .i64 0,.int .i64 0,.slice none 0 0,.slice none 0 0],.int .i64 ((k:Int)+1),.int .i64 8]) (by simp[results,Tryz.results9,go_sem, *]) rfl ?_;rw[e1.out];exact⟨_,rfl,ScrO.zero _ _,YF.out⟩
    | some r =>
     obtain⟨s2,said2⟩:=r;have hx:=Hd (h2H.out _ rfl);have hi2:=Hd (INL.out _ rfl);simp only at HR2;clear INL h2H;go_wp2_with (fail);go_roundw
     case rel=>exact⟨k+1,s2,said2,by go_num,by omega,Hd (by obtain⟨A,a,B,b,C,c,q⟩:=hx.out;exact⟨A,a,B,b,C,c,q.ext XI⟩),hi2,Hd HR2.out,Hd (M3.out.ext XI)⟩
     case measure=>simp[intOf];omega
   ·have hlt2:¬(k:Int)<(n:Int):=by omega
    obtain rfl:k=n:=by omega
    have e1:Hid (R=(s,0,0)):=Hd (by rw[HR.out,List.drop_eq_nil_of_le (by rw[hn.out];exact Nat.le_refl _),YV]);obtain⟨A,a,B,b,C,c,RS⟩:=RX.out;have RSH:=Hd RS;have c0:wr.cell? ⟨g,0,none⟩=some (.int .i64 s.wk):=(RS.rb.cell 0);have c1:wr.cell? ⟨g,1,none⟩=some (.int .i64 s.sl):=(RS.rb.cell 1);have c2:wr.cell? ⟨g,2,none⟩=some (.int .i64 s.lv):=(RS.rb.cell 2);have c3:wr.cell? ⟨g,3,none⟩=some (.slice A s.draws.length a):=(RS.rb.cell 3);have c4:wr.cell? ⟨g,4,none⟩=some (.slice B s.parts.length b):=(RS.rb.cell 4);obtain⟨b0,b1,b2,b3,b4,f0,f1,f2,f3,f4⟩:=Zk BZr.out;obtain⟨w5,hWF,BF,YF⟩:=Zo BZr.out Xr.out (by have:=hgr.out;omega) (.int .i64 s.wk) (.int .i64 s.sl) (.int .i64 s.lv) (.slice A s.draws.length a) (.slice B s.parts.length b);have PO:Hid (ScrO w.heap.size s (.agg (ZV s A a B b)) ((((((wr.setCell ⟨gr,0,none⟩ (.int .i64 s.wk)).setCell ⟨gr,1,none⟩ (.int .i64 s.sl)).setCell ⟨gr,2,none⟩ (.int .i64 s.lv)).setCell ⟨gr,3,none⟩ (.slice A s.draws.length a)).setCell ⟨gr,4,none⟩ (.slice B s.parts.length b)))):=Hd (by
     have MS:ModT 0 [34] wr ((((((wr.setCell ⟨gr,0,none⟩ (.int .i64 s.wk)).setCell ⟨gr,1,none⟩ (.int .i64 s.sl)).setCell ⟨gr,2,none⟩ (.int .i64 s.lv)).setCell ⟨gr,3,none⟩ (.slice A s.draws.length a)).setCell ⟨gr,4,none⟩ (.slice B s.parts.length b))):=(((((ModT.set wr BZr.out (by simp) (Nat.zero_le _) 0 _).tr (ModT.set _ (BZr.out.set 0 _) (by simp) (Nat.zero_le _) 1 _)).tr (ModT.set _ ((BZr.out.set 0 _).set 1 _) (by simp) (Nat.zero_le _) 2 _)).tr (ModT.set _ (((BZr.out.set 0 _).set 1 _).set 2 _) (by simp) (Nat.zero_le _) 3 _)).tr (ModT.set _ ((((BZr.out.set 0 _).set 1 _).set 2 _).set 3 _) (by simp) (Nat.zero_le _) 4 _));exact⟨A,a,B,b,rfl,(RSH.out.rd.more (by have:=X2.out.size;omega)).modT MS (by decide),(RSH.out.rp.more (by have:=X2.out.size;omega)).modT MS (by decide)⟩)
    clear RS RX HR LI MM BLr IN;go_wp2_with (fail);rw[hWF.out] at PO ⊢;clear hWF;clear b0 b1 b2 b3 b4 f0 f1 f2 f3 f4 c0 c1 c2 c3 c4;obtain⟨r0,r1,r2,r3,r4,-⟩:=Zk BF.out;refine bodyPost_ret (v:=.tuple #[.agg #[.int .i64 s.wk,.int .i64 s.sl,.int .i64 s.lv,.slice A s.draws.length a,.slice B s.parts.length b],.int .i64 0,.int .i64 0]) (by simp[results,Tryz.results9,go_sem, *]) rfl ?_;rw[e1.out];exact⟨_,rfl,PO.out,YF.out⟩
def Xa (p:PartP) : List Value:=[.int .i64 p.kind,.int .i64 p.count,.int .i64 p.who,.int .i64 p.every,.int .i64 p.seed]
def ZG (l:List PartP) : List Value:=l.flatMap Xa
theorem VB (l:List PartP)(p:PartP) : ZG (l++[p])=ZG l++Xa p:=by unfold ZG;simp
theorem XT : ∀ l:List PartP,(ZG l).length=l.length*5
 | []=>rfl
 | e::l=>by
  have:=XT l;unfold ZG at this ⊢;rw[List.flatMap_cons,List.length_append,this,List.length_cons,Nat.succ_mul];show 5+_=_;omega
def Uq (said:List Txt) : Array Value:=#[.bool (decide (Zs∈said)),.bool (decide (ZK∈said)),.bool (decide (ZE∈said)),.bool (decide (ZB∈said))]
def YW (i:Nat) : Txt:=if i=0 then Zs else if i=1 then ZK else if i=2 then ZE else ZB
theorem ZcP {i:Nat}(hi:i<4)(said:List Txt) : (Uq said).setIfInBounds i (.bool true)=Uq (said++[YW i]):=by
 have e01:(Zs=ZK)=False:=by decide +kernel
 have e02:(Zs=ZE)=False:=by decide +kernel
 have e03:(Zs=ZB)=False:=by decide +kernel
 have e10:(ZK=Zs)=False:=by decide +kernel
 have e12:(ZK=ZE)=False:=by decide +kernel
 have e13:(ZK=ZB)=False:=by decide +kernel
 have e20:(ZE=Zs)=False:=by decide +kernel
 have e21:(ZE=ZK)=False:=by decide +kernel
 have e23:(ZE=ZB)=False:=by decide +kernel
 have e30:(ZB=Zs)=False:=by decide +kernel
 have e31:(ZB=ZK)=False:=by decide +kernel
 have e32:(ZB=ZE)=False:=by decide +kernel
 rcases(show i=0\/i=1\/i=2\/i=3 by omega) with rfl | rfl | rfl | rfl
 ·simp[Uq,YW,e10,e20,e30]
 ·simp[Uq,YW,e01,e21,e31]
 ·simp[Uq,YW,e02,e12,e32]
 ·simp[Uq,YW,e03,e13,e23]
theorem VC {i:Nat}(hi:i<4)(said:List Txt) : (Uq said)[i]?=some (.bool (decide (YW i∈said))):=by
 rcases(show i=0\/i=1\/i=2\/i=3 by omega) with rfl | rfl | rfl | rfl<;>rfl
structure RsS (base go gs:Nat)(s:ScrP)(said:List Txt)(A:Option Addr)(a:Nat)(B:Option Addr)(b:Nat)(w:World) : Prop where
 rb:Blk w go 25 (ZV s A a B b)
 rd:OwI w base A a s.draws
 rp:OwV w base 50 5 B s.parts.length b (ZG s.parts)
 rs:Blk w gs 65 (Uq said)
def MQ (base go gs:Nat)(w w':World) : Prop:=Mod (fun k=>k=go\/k=gs\/base<=k) w w'
section
variable {base go gs:Nat} {s:ScrP} {said:List Txt} {A B A6:Option Addr} {a b c6:Nat} {w w' w2 w6:World}
theorem RsS.ext (h:RsS base go gs s said A a B b w)(x:Ext w w') : RsS base go gs s said A a B b w':=⟨h.rb.ext x,h.rd.ext x,h.rp.ext x,h.rs.ext x⟩
theorem MQ.ext (h:MQ base go gs w w')(x:Ext w' w2) : MQ base go gs w w2:=Mod.ext h x
theorem MQ.of_ext (x:Ext w w') : MQ base go gs w w':=Mod.of_ext x
theorem MQ.tr (h:MQ base go gs w w')(k:MQ base go gs w' w2) : MQ base go gs w w2:=Mod.tr h k
theorem MQ.modT {ts:List TypeId}(h:ModT base ts w w') : MQ base go gs w w':=Mod.mono h fun _ _ hs=>.inr (.inr hs.1)
theorem Ext.mq {a w w':World}(h:Ext a w)(k:MQ base go gs w w')(h1:a.heap.size<=go)(h2:a.heap.size<=gs)(h3:a.heap.size<=base) : Ext a w':=h.mod k fun i hi hs=>by rcases hs with hs | hs | hs<;>omega
theorem RsS.draw {n:Int}(H:RsS base go gs s said A a B b w)(M:ModT base [3] w w6)(o:OwI w6 base A6 c6 (s.draws++[n])) :
  RsS base go gs { s with draws:=s.draws++[n] } said A6 c6 B b (w6.setCell ⟨go,3,none⟩ (.slice A6 (s.draws.length+1) c6))/\MQ base go gs w (w6.setCell ⟨go,3,none⟩ (.slice A6 (s.draws.length+1) c6))/\ModT 0 [3,25] w (w6.setCell ⟨go,3,none⟩ (.slice A6 (s.draws.length+1) c6)):=by
 have B6:=H.rb.modT M (by decide);have MS:ModT 0 [25] w6 (w6.setCell ⟨go,3,none⟩ (.slice A6 (s.draws.length+1) c6)):=ModT.set w6 B6 (by simp) (Nat.zero_le _) 3 _;have hl:(s.draws++[n]).length=s.draws.length+1:=by simp
 refine⟨⟨by show Blk _ go _ #[_,_,_,.slice A6 (s.draws++[n]).length c6,_];rw[hl];exact B6.set 3 _,o.modT MS (by decide),(H.rp.modT M (by decide)).modT MS (by decide),(H.rs.modT M (by decide)).modT MS (by decide)⟩,(MQ.modT M).tr ?_,(M.more (Nat.zero_le _) (by simp)).tr (MS.more (Nat.le_refl _) (by simp))⟩;exact Mod.set (S:=fun k=>k=go\/k=gs\/base<=k) (p:=⟨go,3,none⟩) (Mod.rf _) (.inl (.inl rfl)) _
theorem RsS.part {p:PartP}(H:RsS base go gs s said A a B b w)(M:ModT base [50] w w6)(o:OwV w6 base 50 5 A6 (s.parts.length+1) c6 (ZG s.parts++Xa p)) :
  RsS base go gs { s with parts:=s.parts++[p] } said A a A6 c6 (w6.setCell ⟨go,4,none⟩ (.slice A6 (s.parts.length+1) c6))/\MQ base go gs w (w6.setCell ⟨go,4,none⟩ (.slice A6 (s.parts.length+1) c6)):=by
 have B6:=H.rb.modT M (by decide);have MS:ModT 0 [25] w6 (w6.setCell ⟨go,4,none⟩ (.slice A6 (s.parts.length+1) c6)):=ModT.set w6 B6 (by simp) (Nat.zero_le _) 4 _;have hl:(s.parts++[p]).length=s.parts.length+1:=by simp
 refine⟨⟨by show Blk _ go _ #[_,_,_,_,.slice A6 (s.parts++[p]).length c6];rw[hl];exact B6.set 4 _,(H.rd.modT M (by decide)).modT MS (by decide),by show OwV _ _ _ _ _ (s.parts++[p]).length _ (ZG (s.parts++[p]));rw[hl,VB];exact o.modT MS (by decide),(H.rs.modT M (by decide)).modT MS (by decide)⟩,(MQ.modT M).tr ?_⟩;exact Mod.set (S:=fun k=>k=go\/k=gs\/base<=k) (p:=⟨go,4,none⟩) (Mod.rf _) (.inl (.inl rfl)) _
theorem RsS.num (H:RsS base go gs s said A a B b w)(i:Nat)(hi:i<3)(n:Int) :
  RsS base go gs (Ys s i n) said A a B b (w.setCell ⟨go,i,none⟩ (.int .i64 n))/\MQ base go gs w (w.setCell ⟨go,i,none⟩ (.int .i64 n)):=by
 have MS:ModT 0 [25] w (w.setCell ⟨go,i,none⟩ (.int .i64 n)):=ModT.set w H.rb (by simp) (Nat.zero_le _) i _;have hs:(Ys s i n).draws=s.draws/\(Ys s i n).parts=s.parts:=by unfold Ys;split;exact⟨rfl,rfl⟩;split<;>exact⟨rfl,rfl⟩
 refine⟨⟨?_,by rw[hs.1];exact H.rd.modT MS (by decide),by rw[hs.2];exact H.rp.modT MS (by decide),H.rs.modT MS (by decide)⟩,Mod.set (S:=fun k=>k=go\/k=gs\/base<=k) (p:=⟨go,i,none⟩) (Mod.rf _) (.inl (.inl rfl)) _⟩;have hB:=H.rb.set i (.int .i64 n);rcases(show i=0\/i=1\/i=2 by omega) with rfl | rfl | rfl
 ·exact hB
 ·exact hB
 ·exact hB
theorem RsS.say (H:RsS base go gs s said A a B b w)(i:Nat)(hi:i<4) :
  RsS base go gs s (said++[YW i]) A a B b (w.setCell ⟨gs,i,none⟩ (.bool true))/\MQ base go gs w (w.setCell ⟨gs,i,none⟩ (.bool true))/\ModT 0 [65] w (w.setCell ⟨gs,i,none⟩ (.bool true)):=by
 have MS:ModT 0 [65] w (w.setCell ⟨gs,i,none⟩ (.bool true)):=ModT.set w H.rs (by simp) (Nat.zero_le _) i _;refine⟨⟨H.rb.modT MS (by decide),H.rd.modT MS (by decide),H.rp.modT MS (by decide),?_⟩,Mod.set (S:=fun k=>k=go\/k=gs\/base<=k) (p:=⟨gs,i,none⟩) (Mod.rf _) (.inl (.inr (.inl rfl))) _,MS⟩;rw[<-ZcP hi];exact H.rs.set i _
end
theorem Zed {s:ScrP}{said:List Txt}{l:Txt}(h:s.parts.length<=50){r:ScrP×List Txt}(e:YD s said l=some r) : r.1.parts.length<=50:=by
 unfold YD at e;split at e
 ·injection e with e;subst e;exact h
 ·cases hs:Zp 32 l with
  | nil=>exact absurd hs (Xx 32 l)
  | cons x ws =>
   rw[hs] at e;have hz:∀ m i,Yl s said (x::ws) m (Ys s i)=some r->r.1.parts.length<=50:=fun m i e=>by
    rw[Y0] at e;split at e
    ·split at e
     ·split at e
      ·cases e
      ·injection e with e;subst e
       show (Ys s i _).parts.length<=50;unfold Ys;split
       ·exact h
       split<;>exact h
     ·cases e
    ·cases e
   by_cases h0:x=Zs
   ·subst h0;rw[WG] at e;exact hz _ _ e
   by_cases h1:x=ZK
   ·subst h1;rw[WH] at e;exact hz _ _ e
   by_cases h2:x=ZE
   ·subst h2;rw[WJ] at e;exact hz _ _ e
   by_cases h3:x=ZB
   ·rw[Wd s said x ws h3] at e
    unfold XZ at e;split at e
    ·cases hn:Zn ws (List.replicate ws.length ZX) with
     | none=>rw[hn] at e;cases e
     | some dd=>rw[hn] at e;simp only[Option.map_some] at e;injection e with e;subst e;exact h
    ·cases e
   ·rw[Xj h0 h1 h2 h3] at e
    unfold Yb at e;split at e
    ·split at e
     ·cases e
     ·injection e with e;subst e
      show (s.parts++_).length<=50;rw[List.length_append];simp;omega
    ·cases e
def YM (x:Txt) : Int:=if x=Zs then 0 else if x=ZK then 1 else if x=ZE then 2 else if x=ZB then 3 else -1
def VY (v:Int)(k:Nat) : Int:=if v<k then v else -1
theorem ZcQ {v:Int}(h:v=-1\/0<=v) : VY v 0=-1:=by unfold VY;split<;>omega
theorem ZcR {v:Int}(h:v<4) : VY v 4=v:=by unfold VY;rw[if_pos (by omega)]
theorem Zee (k:Nat) : VY k (k+1)=k:=by unfold VY;rw[if_pos (by omega)]
theorem ZcS {v:Int}{k:Nat}(h:v≠k) : VY v (k+1)=VY v k:=by unfold VY;split<;>split<;>omega
theorem Zbo (x:Txt) : (YM x=-1\/0<=YM x)/\YM x<4:=by
 unfold YM;split;· omega
 split;· omega
 split;· omega
 split<;>omega
theorem Zai {x:Txt}{k:Nat}(hk:k<4) : x=YW k↔YM x=(k:Int):=by
 have e10:(ZK=Zs)=False:=by decide +kernel
 have e20:(ZE=Zs)=False:=by decide +kernel
 have e21:(ZE=ZK)=False:=by decide +kernel
 have e30:(ZB=Zs)=False:=by decide +kernel
 have e31:(ZB=ZK)=False:=by decide +kernel
 have e32:(ZB=ZE)=False:=by decide +kernel
 unfold YM;rcases(show k=0\/k=1\/k=2\/k=3 by omega) with rfl | rfl | rfl | rfl
 ·constructor
  ·intro h;subst h;simp[YW]
  ·intro h
   split at h
   ·assumption
   split at h;· simp at h
   split at h;· simp at h
   split at h<;>simp at h
 ·constructor
  ·intro h;subst h;simp[YW,e10]
  ·intro h
   split at h;· simp at h
   split at h
   ·assumption
   split at h;· simp at h
   split at h<;>simp at h
 ·constructor
  ·intro h;subst h;simp[YW,e20,e21]
  ·intro h
   split at h;· simp at h
   split at h;· simp at h
   split at h
   ·assumption
   split at h<;>simp at h
 ·constructor
  ·intro h;subst h;simp[YW,e30,e31,e32]
  ·intro h
   split at h;· simp at h
   split at h;· simp at h
   split at h;· simp at h
   split at h
   ·assumption
   ·simp at h
end
section
open Go.RowKit Go.ChangeShapes Go.WideShapes Go.ChangeAt Go.Deep
def RScrO (base:Nat)(s:ScrP)(v:Value)(w:World) : Prop:=∃ A a B b,v=.agg (ZV s A a B b)/\OwI w base A a s.draws/\OwV w base 50 5 B s.parts.length b (ZG s.parts)
theorem RScrO.ext {base:Nat}{s:ScrP}{v:Value}{w w':World}(h:RScrO base s v w)(x:Ext w w') : RScrO base s v w':=by
 obtain⟨A,a,B,b,h1,h2,h3⟩:=h;exact⟨A,a,B,b,h1,h2.ext x,h3.ext x⟩
def Qk (R:ScrP×Int×Int)(w:World)(e:Ending)(w':World) : Prop:=∃ v,e=.returned (.tuple #[v,.int .i64 R.2.1,.int .i64 R.2.2])/\RScrO w.heap.size R.1 v w'/\Ext w w'
theorem RScrO.zero (base:Nat)(w:World) : RScrO base scr0 (.agg #[.int .i64 0,.int .i64 0,.int .i64 0,.slice none 0 0,.slice none 0 0]) w:=⟨none,0,none,0,rfl,OwI.nil _ _,OwV.nil _ _ _ _⟩
theorem Vn : (Tryz.prog.info? 50).map (fun i=>(i.zero,i.size,i.bytes))=some (some (.agg #[.int .i64 0,.int .i64 0,.int .i64 0,.int .i64 0,.int .i64 0]),5,40):=by kernel_rfl
def RX (base go gs:Nat)(s:ScrP)(said:List Txt)(w:World) : Prop:=∃ A a B b,RsS base go gs s said A a B b w
theorem JG {gw nw dw:Nat}{x:Txt}{ws:List Txt}(hnw:ws.length=nw)(hd:nw+1<=dw) : ∃ T,bl T=some gw/\(∀ W,RdV W 9 (some ⟨gw,0,none⟩) (txV (x::ws))->RdV W 9 T (txV ws))/\∀ W,(Instr.sliceAt 57 (.slice (some ⟨gw,0,none⟩) (nw+1) dw) (some (.int .i64 1)) none none).run Tryz.prog W=.ok (.slice T nw (dw-1)) W:=by
 obtain⟨i0,hi,_,hz1,_⟩:=info_parts XS;refine⟨if dw=1 then some ⟨gw,0,none⟩ else(some (⟨gw,0,none⟩:Addr)).map (·.add (1*1)),by split<;>rfl,fun W h=>?_,fun W=>?_⟩
 ·by_cases h0:dw=1
  ·obtain rfl:ws=[]:=List.length_eq_zero_iff.1 (by have:=hnw;omega)
   exact RdV.nil _ _ _
  ·rw[if_neg h0]
   exact h.drop 1
 ·have h:=Vw (P:=Tryz.prog) Tryz.underlying57 hi hz1 (some ⟨gw,0,none⟩) (nw+1) dw 1 1 rfl (by omega) (by omega) W
  rw[Nat.add_sub_cancel] at h;exact h
theorem Zaj (t:Txt)(w:World)(hl:t.length<=70000) :
  Calls Tryz.prog 17 #[.string ⟨t.toArray⟩] w (Qk (ZM t) w):=by
 have hsz:(⟨t.toArray⟩:ByteArray).size=t.length:=ZS t;unfold Qk;obtain⟨R,hR⟩:∃ R,Hid (ZM t=R):=⟨_,rfl⟩;rw[hR.out];have B0:Hid (Blk (w.alloc (.cells #[.int .i64 0,.int .i64 0,.int .i64 0,.slice none 0 0,.slice none 0 0] 25)) w.heap.size 25 #[.int .i64 0,.int .i64 0,.int .i64 0,.slice none 0 0,.slice none 0 0]):=Hd (.new rfl);have X0:Hid (Ext w (w.alloc (.cells #[.int .i64 0,.int .i64 0,.int .i64 0,.slice none 0 0,.slice none 0 0] 25))):=Hd ((Ext.rf w).alloc _);obtain⟨gr,hgr⟩:∃ gr,Hid (gr=w.heap.size):=⟨_,Hd rfl⟩;have hgrw:Hid (w.heap.size<=gr):=Hd (by rw[hgr.out];exact Nat.le_refl _)
 by_cases hbig:65536<t.length
 ·have e1:Hid (R=(scr0,0,5)):=Hd (by rw[<-hR.out];unfold ZM;rw[if_pos hbig])
  have q1:(65536:Int)<((⟨t.toArray⟩:ByteArray).size:Int):=by rw[hsz];omega
  have q2:65536<(⟨t.toArray⟩:ByteArray).size:=by rw[hsz];exact hbig
  clear hR hsz hbig hl;generalize (⟨t.toArray⟩:ByteArray)=sb at *;go_enter Tryz.func17,Tryz.ntmps17;go_upto_region 1 with(fail);generalize w.alloc (.cells #[.int .i64 0,.int .i64 0,.int .i64 0,.slice none 0 0,.slice none 0 0] 25)=w0 at *;rw[<-hgr.out] at B0 ⊢;obtain⟨b0,b1,b2,b3,b4,f0,f1,f2,f3,f4⟩:=Zk B0.out;obtain⟨w99,hWF,BF,YF⟩:=Zo B0.out X0.out hgrw.out (.int .i64 0) (.int .i64 0) (.int .i64 0) (.slice none 0 0) (.slice none 0 0);go_upto_region 2 with(fail);go_wp2_with (fail);rw[hWF.out];clear hWF;clear b0 b1 b2 b3 b4 f0 f1 f2 f3 f4 ;obtain⟨r0,r1,r2,r3,r4,-⟩:=Zk BF.out;refine bodyPost_ret (v:=.tuple #[.agg #[.int .i64 0,.int .i64 0,.int .i64 0,.slice none 0 0,.slice none 0 0],.int .i64 0,.int .i64 5]) (by simp[results,Tryz.results17,go_sem, *]) rfl ?_;rw[e1.out];exact⟨_,rfl,RScrO.zero _ _,YF.out⟩
 ·have hL:Hid (R=YV scrS [] 1 (Zp 10 t)):=Hd (by rw[<-hR.out];unfold ZM;rw[if_neg hbig])
  have CU:=Hd (fun(s:Txt) (c:UInt8) (W:World) (h:s.length<=1000000)=>Zd6 s c W h);have hm:∀ y∈Zp 10 t,y.length<=65536:=fun y hy=>by have:=XH (c:=10) (s:=t) (x:=y) hy;omega
  have hcn:(Zp 10 t).length<=65537:=by have:=YZ (c:=10) t;omega
  have hln:Zp 10 t≠[]:=Xx 10 t;have q1:¬(65536:Int)<((⟨t.toArray⟩:ByteArray).size:Int):=by rw[hsz];omega
  have q2:¬65536<(⟨t.toArray⟩:ByteArray).size:=by rw[hsz];exact hbig
  have CT:=Hd (fun(W:World)=>CU.out t 10 W (by omega));unfold Zac at CU CT;clear hR hsz hbig hl;generalize Zp 10 t=L at *;obtain⟨n,hn⟩:∃ n,Hid (L.length=n):=⟨_,Hd rfl⟩;rw[hn.out] at CT hcn;replace hm:=Hd hm;generalize (⟨t.toArray⟩:ByteArray)=sb at *;go_enter Tryz.func17,Tryz.ntmps17;go_upto_region 1 with(fail);generalize w.alloc (.cells #[.int .i64 0,.int .i64 0,.int .i64 0,.slice none 0 0,.slice none 0 0] 25)=w0 at *;rw[<-hgr.out] at B0 ⊢;go_upto_region 5 with(fail);have BO1:Hid (Blk ((w0.alloc (.cells #[.int .i64 2,.int .i64 64,.int .i64 3,.slice none 0 0,.slice none 0 0] 25)).alloc (.cells #[.bool false,.bool false,.bool false,.bool false] 65)) w0.heap.size 25 #[.int .i64 2,.int .i64 64,.int .i64 3,.slice none 0 0,.slice none 0 0]):=Hd (.alloc (.new rfl) _);have BS1:Hid (Blk ((w0.alloc (.cells #[.int .i64 2,.int .i64 64,.int .i64 3,.slice none 0 0,.slice none 0 0] 25)).alloc (.cells #[.bool false,.bool false,.bool false,.bool false] 65)) (w0.heap.size+1) 65 #[.bool false,.bool false,.bool false,.bool false]):=Hd (.new (by simp));have BZ1:Hid (Blk ((w0.alloc (.cells #[.int .i64 2,.int .i64 64,.int .i64 3,.slice none 0 0,.slice none 0 0] 25)).alloc (.cells #[.bool false,.bool false,.bool false,.bool false] 65)) gr 25 #[.int .i64 0,.int .i64 0,.int .i64 0,.slice none 0 0,.slice none 0 0]):=Hd ((B0.out.alloc _).alloc _);have X1:Hid (Ext w ((w0.alloc (.cells #[.int .i64 2,.int .i64 64,.int .i64 3,.slice none 0 0,.slice none 0 0] 25)).alloc (.cells #[.bool false,.bool false,.bool false,.bool false] 65))):=Hd ((X0.out.alloc _).alloc _);have hz1:((w0.alloc (.cells #[.int .i64 2,.int .i64 64,.int .i64 3,.slice none 0 0,.slice none 0 0] 25)).alloc (.cells #[.bool false,.bool false,.bool false,.bool false] 65)).heap.size=w0.heap.size+2:=by simp
  have hrg:=B0.out.lt;clear B0 X0;generalize ((w0.alloc (.cells #[.int .i64 2,.int .i64 64,.int .i64 3,.slice none 0 0,.slice none 0 0] 25)).alloc (.cells #[.bool false,.bool false,.bool false,.bool false] 65))=w1 at *;generalize w0.heap.size=go at *;obtain⟨gs,hgs⟩:∃ gs,gs=go+1:=⟨_,rfl⟩;rw[<-hgs] at BS1 ⊢;replace hgs:=Hd hgs;go_wp2_with (fail);refine(CT.out _).mono ?_;rintro e w2 ⟨Al,dl,rfl,oL,x2⟩;obtain⟨gl,rfl,zgl⟩:∃ gl,Al=some ⟨gl,0,none⟩/\w1.heap.size<=gl:=by
   rcases oL.cases with⟨_,_,h,_⟩ | ⟨gl,cur,h1,h2,_⟩
   ·exact absurd (List.length_eq_zero_iff.1 (hn.out.trans h)) hln
   ·exact⟨gl,h1,h2⟩
  have zgl2:=(oL.lt gl rfl).2;have BO2:=Hd (BO1.out.ext x2);have BS2:=Hd (BS1.out.ext x2);have BZ2:=Hd (BZ1.out.ext x2);have X2:=Hd (X1.out.tr x2);have oL2:=Hd oL;have hne:Hid (gr<go/\gs=go+1/\go+1<gl/\gl<w2.heap.size/\w.heap.size<=gr):=Hd ⟨hrg,hgs.out,by omega,zgl2,hgrw.out⟩;have START:Hid (RX w2.heap.size go gs scrS [] w2):=Hd ⟨none,0,none,0,BO2.out,OwI.nil _ _,OwV.nil _ _ _ _,BS2.out⟩;clear CT BO1 BS1 BZ1 X1 oL x2 zgl zgl2 hrg hz1 hgs BO2 BS2 hln;have lxn:Hid ((txV L).length=n):=Hd (by rw[Xt,hn.out]);go_wp2_with (fail);go_loopw [8] (fun kv wr=>∃ (k:Nat) (s:ScrP) (said:List Txt),kv=.int .i64 k/\k<=n/\Hid (RX w2.heap.size go gs s said wr)/\Hid (ScrIn k s said)/\Hid (s.parts.length<=50)/\Hid (R=YV s said ((k:Int)+1) (L.drop k))/\Hid (MQ w2.heap.size go gs w2 wr)) (fun kv _=>n-(intOf kv).toNat)
  case atStart=>exact⟨0,scrS,[],rfl,by omega,Hd (by obtain⟨A,a,B,b,q⟩:=START.out;exact⟨A,a,B,b,q.ext XI⟩),Hd ScrIn.start,Hd (by decide),Hd (by rw[List.drop_zero];exact hL.out),Hd (MQ.of_ext XI)⟩
  case round =>
   clear START hL;obtain⟨k,s,said,rfl,hk,RXr,IN,P50,HR,MM⟩:=hrel;have szr:w2.heap.size<=wr.heap.size:=Mod.size MM.out
   by_cases hlt:k<n
   ·have hlt2:(k:Int)<(n:Int):=by omega
    obtain⟨l,hlk⟩:∃ l,L[k]?=some l:=⟨_,List.getElem?_eq_getElem (by rw[hn.out];exact hlt)⟩;have oLr:=oL2.out.mod MM.out (fun q hq h=>by
     have h:q=go\/q=gs\/w2.heap.size<=q:=h;have hq:gl=q:=by simpa [bl] using hq
     have:=hne.out;omega)
    have hl1:wr.cell? ⟨gl,0+k,none⟩=some (.string ⟨l.toArray⟩):=by
     obtain⟨b1,o1,v,h1,-,h2,h3⟩:=oLr.read.at (j:=k) (by rw[lxn.out];exact hlt)
     injection h1 with h1
     injection h1 with h1 h4
     subst h1;subst h4;have hv:v=txS l:=by have h:=h3.out;unfold txV at h;rw[List.getElem?_map,hlk] at h;simpa using h.symm
     subst hv;exact h2
    have hl0:wr.cell? ⟨gl,k,none⟩=some (.string ⟨l.toArray⟩):=by rw[Nat.zero_add] at hl1;exact hl1
    have hll:=hm.out l (List.mem_of_getElem? hlk);have HR2:=HR.out.trans (Zah hlk s said _);have INL:=fun r h=>Qj (l:=l) IN.out (r:=r) h
    have P5L:=fun r h=>Zed (said:=said) (l:=l) P50.out (r:=r) h
    clear hlk HR oLr
    by_cases hc:l=[]\/l.head?=some 35
    ·have e1:YD s said l=some (s,said):=by unfold YD;rw[if_pos hc]
     have IN2:=Hd (INL _ e1);rw[e1] at HR2;simp only at HR2;have HR3:Hid (R=YV s said (((k+1:Nat):Int)+1) (L.drop (k+1))):=Hd HR2;clear e1 INL P5L HR2 IN
     cases l with
     | nil =>
      clear hc;go_wp2_with (fail);go_roundw
      case rel=>exact⟨k+1,s,said,by go_num,by omega,Hd (by obtain⟨A,a,B,b,q⟩:=RXr.out;exact⟨A,a,B,b,q.ext XI⟩),IN2,P50,HR3,Hd (MM.out.ext XI)⟩
      case measure=>simp[intOf];omega
     | cons d r =>
      obtain rfl:d=35:=by
       rcases hc with h | h
       ·cases h
       ·simpa using h
      have hidx:∀ h,(⟨((35:UInt8)::r).toArray⟩:ByteArray)[0]'h=35:=fun _=>rfl
      have hq:((((35:UInt8).toNat:Nat):Int)==35)=true:=by decide
      clear hc;go_wp2_with (fail);go_roundw
      case rel=>exact⟨k+1,s,said,by go_num,by omega,Hd (by obtain⟨A,a,B,b,q⟩:=RXr.out;exact⟨A,a,B,b,q.ext XI⟩),IN2,P50,HR3,Hd (MM.out.ext XI)⟩
      case measure=>simp[intOf];omega
    ·have e1:YD s said l=Zy s said (Zp 32 l):=by unfold YD;rw[if_neg hc]
     rw[e1] at HR2 INL P5L;clear e1;obtain⟨x,ws,hsp⟩:∃ x ws,Zp 32 l=x::ws:=by
      cases h:Zp 32 l with
      | nil=>exact absurd h (Xx 32 l)
      | cons x ws=>exact⟨x,ws,rfl⟩
     have hx:∀ y∈x::ws,y.length<=65536:=fun y hy=>by have:=XH (c:=32) (s:=l) (x:=y) (by rw[hsp];exact hy);omega
     have hwl:ws.length<=65537:=by have:=YZ (c:=32) l;rw[hsp] at this;simp at this;omega
     have CL:=Hd (fun(W:World)=>CU.out l 32 W (by omega));rw[hsp] at CL HR2 INL P5L;clear hsp hll;have HF:Hid (Zy s said (x::ws)=none->R=(scr0,(k:Int)+1,8)):=Hd fun h=>by rw[h] at HR2;exact HR2
     have HS:Hid (∀ r,Zy s said (x::ws)=some r->Hid (R=YV r.1 r.2 (((k+1:Nat):Int)+1) (L.drop (k+1)))/\Hid (ScrIn (k+1) r.1 r.2)/\Hid (r.1.parts.length<=50)):=Hd fun r h=>by rw[h] at HR2;exact⟨Hd HR2,Hd (INL r h),Hd (P5L r h)⟩
     clear HR2 INL P5L
     cases l with
     | nil=>exact absurd (.inl rfl) hc
     | cons d r =>
      have hd:d≠35:=fun e=>hc (.inr (by rw[e];rfl))
      have hidx:∀ h,(⟨(d::r).toArray⟩:ByteArray)[0]'h=d:=fun _=>rfl
      have hq:((d.toNat:Int)==35)=false:=beq_eq_false_iff_ne.2 fun e=>hd (UInt8.toNat_inj.1 (by simp;omega))
      clear hc hd;go_wp2_with (fail);refine(CL.out _).mono ?_;rintro e w3 ⟨Aw,dw,rfl,oW,x3⟩;obtain⟨gw,rfl,zgw⟩:∃ gw,Aw=some ⟨gw,0,none⟩/\w2.heap.size<=gw:=by
       rcases oW.cases with⟨_,_,h,_⟩ | ⟨gw,cur,h1,h2,_⟩
       ·simp at h
       ·exact⟨gw,h1,Nat.le_trans szr h2⟩
      have X3:=Hd (Ext.tr (a:=wr) XI x3);have OW:=Hd oW;have hdw:=oW.le.1;clear x3 oW CL hl0 hl1 hidx hq;obtain⟨A,a,B,b,RS⟩:=RXr.out;have RS3:=Hd (RS.ext X3.out);have MM3:=Hd (MM.out.ext X3.out);clear RS RXr MM X3;obtain⟨nw,hnw⟩:∃ nw,Hid (ws.length=nw):=⟨_,Hd rfl⟩;have hlen:(x::ws).length=nw+1:=by show ws.length+1=_;rw[hnw.out]
      rw[hlen] at hdw OW ⊢;rw[hnw.out] at hwl;clear hlen;go_upto_block 2 with(fail);go_cut [10,11] from 49 to 172 (fun v kv wx=>v=.int .i64 (YM x)/\kv=.int .i64 4/\Hid (Ext w3 wx))
      case first =>
       clear HF HS RS3 MM3 IN P50 hm;obtain⟨hw0,hw4⟩:=Zbo x;have KT:Hid (∀ j,j<4->(x=YW j↔YM x=(j:Int))):=Hd fun j hj=>Zai hj
       generalize YM x=wh at *;go_wp2_with (fail);go_loopw [10,11] (fun v kv wx=>∃ j:Nat,v=.int .i64 (VY wh j)/\kv=.int .i64 j/\j<=4/\Hid (Ext w3 wx)) (fun _ kv _=>4-(intOf kv).toNat)
       case atStart=>exact⟨0,by rw[ZcQ hw0],rfl,by omega,Hd XI⟩
       case round =>
        obtain⟨j,rfl,rfl,hj,Y⟩:=hrel
        by_cases h4:j<4
        ·have OWr:=Hd (OW.out.ext Y.out)
         have cx:wr.cell? ⟨gw,0,none⟩=some (.string ⟨x.toArray⟩):=by
          obtain⟨b1,o1,v,h1,-,h2,h3⟩:=OWr.out.read.at (j:=0) (by simp[txV])
          injection h1 with h1
          injection h1 with h1 h4
          subst h1;subst h4;have hv:v=txS x:=by have h:=h3.out;simpa [txV] using h.symm
          subst hv;exact h2
         have hbS:gw<wr.heap.size:=(OWr.out.lt gw rfl).2;have q1:(j:Int)<4:=by omega
         obtain⟨kx,hkx⟩:∃ kx,YW j=kx:=⟨_,rfl⟩;have KX:Hid ((#[.string ⟨#[119,111,114,107,101,114,115]⟩,.string ⟨#[115,108,111,116,115]⟩,.string ⟨#[108,101,118,101,108,115]⟩,.string ⟨#[100,114,97,119,115]⟩]:Array Value)[j]?=some (.string ⟨kx.toArray⟩)):=Hd (by
          rw[<-hkx];rcases(show j=0\/j=1\/j=2\/j=3 by omega) with rfl | rfl | rfl | rfl<;>rfl)
         have KJ:=KT.out j h4;rw[hkx] at KJ
         by_cases hxk:x=kx
         ·have KU:Hid (VY wh (j+1)=(j:Int)):=Hd (by rw[KJ.1 hxk];exact Zee j)
          subst hxk;clear KJ hkx KT hw0 hw4;go_wp2_with (fail);refine wp_region_any (by kernel_rfl) ?_
          change wpAny _ _ _ _ _ _ _ (World.drew _)
          refine Za 0 (.move (.tmp 9)) 57 (some 53) rfl (by kernel_rfl) Hq (by intro _;go_simp;try rfl) ?_;simp only[lay];refine Za 1 (.indexAddr 57 (.tmp 53) (.const (.int .i64 0))) 0 (some 54) rfl (by kernel_rfl) Hq (by intro _;go_simp;try rfl) ?_;simp only[lay];refine Za 4 (.move (.tmp 11)) 3 (some 57) rfl (by kernel_rfl) Hq (by intro _;go_simp;try rfl) ?_;simp only[lay];refine Zh (n:=0) [(2,some 55),(3,some 56),(5,some 58),(6,some 59),(7,some 60)] (Ext wr) (VF (fun | 2=>some (.string ⟨x.toArray⟩) | 6=>some (.string ⟨x.toArray⟩) | 7=>some (.bool true) | _=>none) (fun i v W=>(i=3->∃ z,v=.slice (some ⟨z,0,none⟩) 4 4/\Blk W z 9 #[.string ⟨#[119,111,114,107,101,114,115]⟩,.string ⟨#[115,108,111,116,115]⟩,.string ⟨#[108,101,118,101,108,115]⟩,.string ⟨#[100,114,97,119,115]⟩])/\(i=5->∃ z,v=.pointer (some ⟨z,j,none⟩)/\Blk W z 9 #[.string ⟨#[119,111,114,107,101,114,115]⟩,.string ⟨#[115,108,111,116,115]⟩,.string ⟨#[108,101,118,101,108,115]⟩,.string ⟨#[100,114,97,119,115]⟩]))) Ext #[true,true,true,true,true,true,true,true] (by decide +kernel) (VF.stab ?_) ?_ ?_ (by first | exact(Ext.rf _).drew | exact Ext.rf _)
          ·intro j v W W' _ gz hx
           obtain⟨g0,g1⟩:=gz;exact⟨fun h=>(g0 h).imp fun z hz=>⟨hz.1,hz.2.ext hx⟩,fun h=>(g1 h).imp fun z hz=>⟨hz.1,hz.2.ext hx⟩⟩
          ·intro pS hpm uS wS hRW hD K hK
           simp only[List.mem_cons,List.not_mem_nil,or_false] at hpm;rcases hpm with rfl | rfl | rfl | rfl | rfl
           ·( have rX:=Zb hRW hbS cx;exact Ze (T:=9) (x:=Operand.tmp 54) (t:=9) (d:=some 55) rfl (.pointer (some ⟨gw,0,none⟩)) (by kernel_rfl) (.string ⟨x.toArray⟩) (by go_simp) (hK _ _ (VF.mk rfl) hRW (Ext.rf _)))
           ·( exact Zl (op:=Op.buildSlice 57 4 #[(0,Operand.const (Value.string { data:=#[119,111,114,107,101,114,115] })),(1,Operand.const (Value.string { data:=#[115,108,111,116,115] })),(2,Operand.const (Value.string { data:=#[108,101,118,101,108,115] })),(3,Operand.const (Value.string { data:=#[100,114,97,119,115] }))]) (t:=57) (d:=some 56) rfl _ (by unfold Zj;go_simp;try rfl) (hK _ _ (VF.mg rfl ⟨(fun _=>⟨_,rfl,.new rfl⟩),(fun h=>absurd h (by decide))⟩) (hRW.alloc _) ((Ext.rf _).alloc _)))
           ·( obtain⟨z,ez,bz⟩:=((hD 3 (Zg (by kernel_rfl))).g rfl).1 rfl;exact Vb (T:=57) (x:=Operand.tmp 56) (y:=Operand.tmp 57) (t:=0) (d:=some 58) rfl (.slice (some ⟨z,0,none⟩) 4 4) (.int .i64 j) (Eq.trans (b:=uS 3) (by kernel_rfl) ez) (by kernel_rfl) (.pointer (some ⟨z,j,none⟩)) (by go_simp) (hK _ _ (VF.mg rfl ⟨(fun h=>absurd h (by decide)),(fun _=>⟨z,rfl,bz⟩)⟩) hRW (Ext.rf _)))
           ·(obtain⟨z,ez,bz⟩:=((hD 5 (Zg (by kernel_rfl))).g rfl).2 rfl;have rX:wS.cell? ⟨z,j,none⟩=some (.string ⟨x.toArray⟩):=(bz.cell j).trans (KX.out);exact Ze (T:=9) (x:=Operand.tmp 58) (t:=9) (d:=some 59) rfl (.pointer (some ⟨z,j,none⟩)) (Eq.trans (b:=uS 5) (by kernel_rfl) ez) (.string ⟨x.toArray⟩) (by go_simp) (hK _ _ (VF.mk rfl) hRW (Ext.rf _)))
           ·(have e2:uS 2=.string ⟨x.toArray⟩:=(hD 2 (Zg (by kernel_rfl))).k rfl;have e6:uS 6=.string ⟨x.toArray⟩:=(hD 6 (Zg (by kernel_rfl))).k rfl;exact Zl (op:=Op.binOp BinOp.eql 9 (Operand.tmp 55) (Operand.tmp 59) 9) (t:=4) (d:=some 60) rfl (.bool true) (by simp only[Zc,Act.put,List.setIfInBounds_toArray,List.set_cons_zero,List.set_cons_succ];unfold Zj;(try go_simp);(try simp only[e2,e6]);(try go_simp);(try rfl);(try (exact IntWalk.i64_in _ (by omega)));(try (simp))) (hK _ _ (VF.mk rfl) hRW (Ext.rf _)))
          intro u w7 hR7 hV;have h2:=(hV (2,some 55) (by simp)).k rfl;have h6:=(hV (6,some 59) (by simp)).k rfl;have h7:=(hV (7,some 60) (by simp)).k rfl;simp only[Zc,h2,h6,h7];clear hV h2 h6 h7
          try simp only[lay]
          refine wpAny_done (by kernel_rfl) ?_ _;go_simp;have Y7:=Hd (Y.out.tr hR7);clear hR7 cx KX Y OWr;go_wp2_with (fail);go_roundw
          case rel=>exact⟨j+1,by rw[KU.out],by go_num,by omega,Hd (Y7.out.tr XI)⟩
          case measure=>simp[intOf];omega
         ·have KU:Hid (VY wh (j+1)=VY wh j):=Hd (ZcS fun h=>hxk (KJ.2 h))
          have e1:@BEq.beq (List UInt8) _ x kx=false:=beq_eq_false_iff_ne.2 hxk;clear KJ hkx KT hw0 hw4 hxk;go_wp2_with (fail);refine wp_region_any (by kernel_rfl) ?_
          change wpAny _ _ _ _ _ _ _ (World.drew _)
          refine Za 0 (.move (.tmp 9)) 57 (some 53) rfl (by kernel_rfl) Hq (by intro _;go_simp;try rfl) ?_;simp only[lay];refine Za 1 (.indexAddr 57 (.tmp 53) (.const (.int .i64 0))) 0 (some 54) rfl (by kernel_rfl) Hq (by intro _;go_simp;try rfl) ?_;simp only[lay];refine Za 4 (.move (.tmp 11)) 3 (some 57) rfl (by kernel_rfl) Hq (by intro _;go_simp;try rfl) ?_;simp only[lay];refine Zh (n:=0) [(2,some 55),(3,some 56),(5,some 58),(6,some 59),(7,some 60)] (Ext wr) (VF (fun | 2=>some (.string ⟨x.toArray⟩) | 6=>some (.string ⟨kx.toArray⟩) | 7=>some (.bool false) | _=>none) (fun i v W=>(i=3->∃ z,v=.slice (some ⟨z,0,none⟩) 4 4/\Blk W z 9 #[.string ⟨#[119,111,114,107,101,114,115]⟩,.string ⟨#[115,108,111,116,115]⟩,.string ⟨#[108,101,118,101,108,115]⟩,.string ⟨#[100,114,97,119,115]⟩])/\(i=5->∃ z,v=.pointer (some ⟨z,j,none⟩)/\Blk W z 9 #[.string ⟨#[119,111,114,107,101,114,115]⟩,.string ⟨#[115,108,111,116,115]⟩,.string ⟨#[108,101,118,101,108,115]⟩,.string ⟨#[100,114,97,119,115]⟩]))) Ext #[true,true,true,true,true,true,true,true] (by decide +kernel) (VF.stab ?_) ?_ ?_ (by first | exact(Ext.rf _).drew | exact Ext.rf _)
          ·intro j v W W' _ gz hx
           obtain⟨g0,g1⟩:=gz;exact⟨fun h=>(g0 h).imp fun z hz=>⟨hz.1,hz.2.ext hx⟩,fun h=>(g1 h).imp fun z hz=>⟨hz.1,hz.2.ext hx⟩⟩
          ·intro pS hpm uS wS hRW hD K hK
           simp only[List.mem_cons,List.not_mem_nil,or_false] at hpm;rcases hpm with rfl | rfl | rfl | rfl | rfl
           ·( have rX:=Zb hRW hbS cx;exact Ze (T:=9) (x:=Operand.tmp 54) (t:=9) (d:=some 55) rfl (.pointer (some ⟨gw,0,none⟩)) (by kernel_rfl) (.string ⟨x.toArray⟩) (by go_simp) (hK _ _ (VF.mk rfl) hRW (Ext.rf _)))
           ·( exact Zl (op:=Op.buildSlice 57 4 #[(0,Operand.const (Value.string { data:=#[119,111,114,107,101,114,115] })),(1,Operand.const (Value.string { data:=#[115,108,111,116,115] })),(2,Operand.const (Value.string { data:=#[108,101,118,101,108,115] })),(3,Operand.const (Value.string { data:=#[100,114,97,119,115] }))]) (t:=57) (d:=some 56) rfl _ (by unfold Zj;go_simp;try rfl) (hK _ _ (VF.mg rfl ⟨(fun _=>⟨_,rfl,.new rfl⟩),(fun h=>absurd h (by decide))⟩) (hRW.alloc _) ((Ext.rf _).alloc _)))
           ·( obtain⟨z,ez,bz⟩:=((hD 3 (Zg (by kernel_rfl))).g rfl).1 rfl;exact Vb (T:=57) (x:=Operand.tmp 56) (y:=Operand.tmp 57) (t:=0) (d:=some 58) rfl (.slice (some ⟨z,0,none⟩) 4 4) (.int .i64 j) (Eq.trans (b:=uS 3) (by kernel_rfl) ez) (by kernel_rfl) (.pointer (some ⟨z,j,none⟩)) (by go_simp) (hK _ _ (VF.mg rfl ⟨(fun h=>absurd h (by decide)),(fun _=>⟨z,rfl,bz⟩)⟩) hRW (Ext.rf _)))
           ·(obtain⟨z,ez,bz⟩:=((hD 5 (Zg (by kernel_rfl))).g rfl).2 rfl;have rX:wS.cell? ⟨z,j,none⟩=some (.string ⟨kx.toArray⟩):=(bz.cell j).trans (KX.out);exact Ze (T:=9) (x:=Operand.tmp 58) (t:=9) (d:=some 59) rfl (.pointer (some ⟨z,j,none⟩)) (Eq.trans (b:=uS 5) (by kernel_rfl) ez) (.string ⟨kx.toArray⟩) (by go_simp) (hK _ _ (VF.mk rfl) hRW (Ext.rf _)))
           ·(have e2:uS 2=.string ⟨x.toArray⟩:=(hD 2 (Zg (by kernel_rfl))).k rfl;have e6:uS 6=.string ⟨kx.toArray⟩:=(hD 6 (Zg (by kernel_rfl))).k rfl;exact Zl (op:=Op.binOp BinOp.eql 9 (Operand.tmp 55) (Operand.tmp 59) 9) (t:=4) (d:=some 60) rfl (.bool false) (by simp only[Zc,Act.put,List.setIfInBounds_toArray,List.set_cons_zero,List.set_cons_succ];unfold Zj;(try go_simp);(try simp only[e2,e6]);(try go_simp);(try rfl);(try (exact IntWalk.i64_in _ (by omega)));(try (exact e1))) (hK _ _ (VF.mk rfl) hRW (Ext.rf _)))
          intro u w7 hR7 hV;have h2:=(hV (2,some 55) (by simp)).k rfl;have h6:=(hV (6,some 59) (by simp)).k rfl;have h7:=(hV (7,some 60) (by simp)).k rfl;simp only[Zc,h2,h6,h7];clear hV h2 h6 h7
          try simp only[lay]
          refine wpAny_done (by kernel_rfl) ?_ _;go_simp;have Y7:=Hd (Y.out.tr hR7);clear hR7 cx KX Y OWr e1;go_wp2_with (fail);go_roundw
          case rel=>exact⟨j+1,by rw[KU.out],by go_num,by omega,Hd (Y7.out.tr XI)⟩
          case measure=>simp[intOf];omega
        ·obtain rfl:j=4:=by omega
         rw[ZcR hw4];clear KT hw0 hw4;go_wp2_with (fail);go_meet;exact⟨rfl,rfl,Hd (Y.out.tr XI)⟩
      case rest =>
       obtain⟨rfl,rfl,YC⟩:=hcut;have OWc:=Hd (OW.out.ext YC.out);have RSc:=Hd (RS3.out.ext YC.out);have MMc:=Hd (MM3.out.ext YC.out);have szc:w2.heap.size<=wc.heap.size:=Mod.size MMc.out;clear OW RS3 MM3 YC;obtain⟨hi1,hi2,hi3,hi4,hi5⟩:=IN.out;clear IN
       by_cases h0:x=Zs
       ·skip
        have hwv:YM x=0:=by rw[h0];decide +kernel
        rw[hwv];have e0:Zy s said (x::ws)=_:=(show Zy s said (x::ws)=Yl s said (x::ws) 16 (Ys s 0) by rw[h0];exact WG s said ws).trans (Y0 s said x ws 16 (Ys s 0));rw[e0] at HF HS;clear e0 hwv;have NU:=Hd (fun(W:World) (T:Option Addr) (cT:Nat) (hT:RdV W 9 T (txV ws)) (M:Option Addr) (cM:Nat) (hM:RdI W M [16])=>XP T cT ws M cM [16] W hT hM (fun y hy=>by have:=hx y (by simp[hy]);omega) (by have:=hnw.out;omega));unfold YJ at NU;rw[hnw.out] at NU;obtain⟨T,hTb,hT,hrun⟩:=JG (gw:=gw) (x:=x) (dw:=dw) hnw.out (by omega);replace hT:=Hd hT;clear hx hTb;have cs:wc.cell? ⟨gs,0,none⟩=some (.bool (decide (x∈said))):=by rw[h0];exact(RSc.out.rs.cell 0).trans (VC (by decide) said)
        have c4:wc.cell? ⟨go,4,none⟩=some (.slice B s.parts.length b):=(RSc.out.rb.cell 4);have FB:Hid (ZP s said x=(decide (s.parts=[]) && !(decide (x∈said)))):=Hd rfl;obtain⟨q,hq⟩:∃ q,decide (x∈said)=q:=⟨_,rfl⟩;rw[hq] at cs FB;have hwI:=Hd h0;clear hq h0
        cases q with
        | true =>
         have FB2:ZP s said x=false:=by rw[FB.out,Bool.not_true,Bool.and_false]
         rw[FB2] at HF;have e1:=Hd (HF.out rfl);clear HF HS;have BZf:=Hd (BZ2.out.mod MMc.out (by have:=hne.out;omega));have Xf:=Hd (X2.out.mq MMc.out (by have:=hne.out;omega) (by have:=hne.out;omega) (by have:=hne.out;omega));obtain⟨b0,b1,b2,b3,b4,f0,f1,f2,f3,f4⟩:=Zk BZf.out;obtain⟨w99,hWF,BF,YF⟩:=Zo BZf.out Xf.out hgrw.out (.int .i64 0) (.int .i64 0) (.int .i64 0) (.slice none 0 0) (.slice none 0 0);go_wp2_with (fail);rw[hWF.out];clear hWF;clear b0 b1 b2 b3 b4 f0 f1 f2 f3 f4 cs c4;obtain⟨r0,r1,r2,r3,r4,-⟩:=Zk BF.out;refine bodyPost_ret (v:=.tuple #[.agg #[.int .i64 0,.int .i64 0,.int .i64 0,.slice none 0 0,.slice none 0 0],.int .i64 ((k:Int)+1),.int .i64 8]) (by simp[results,Tryz.results17,go_sem, *]) rfl ?_;rw[e1.out];exact⟨_,rfl,RScrO.zero _ _,YF.out⟩
        | false =>
         by_cases hp:s.parts=[]
         ·skip
          have FB2:ZP s said x=true:=by rw[FB.out,decide_eq_true hp];rfl
          have hp0:s.parts.length=0:=by rw[hp];rfl
          rw[FB2] at HF HS;rw[hp0] at c4;replace hp0:=Hd hp0;have fs:=RSc.out.rs.free 0;obtain⟨S4,M4,T4⟩:=RSc.out.say 0 (by decide);rw[show YW 0=x from hwI.out.symm] at S4;have MM4:=Hd (MMc.out.tr M4);have OW4:=Hd (OWc.out.modT T4 (by decide));have sz4:w2.heap.size<=(wc.setCell ⟨gs,0,none⟩ (.bool true)).heap.size:=Mod.size MM4.out;have RS4:=Hd S4;clear S4 M4 T4 hp FB FB2;go_upto_region 25 with(fail);clear cs fs c4 RSc OWc MMc;generalize wc.setCell ⟨gs,0,none⟩ (.bool true)=w4 at *;have hRN:=Hd (fun(l:List Int) (h:Zn ws [16]=some l)=>(Yh h).1);obtain⟨N,hN⟩:∃ N,Zn ws [16]=N:=⟨_,rfl⟩;rw[hN] at NU HF HS hRN;clear hN;go_upto_region 35 with(fail);refine wp_region_any (by kernel_rfl) ?_
          change wpAny _ _ _ _ _ _ _ (World.drew _)
          refine Za 0 (.move (.tmp 9)) 57 (some 133) rfl (by kernel_rfl) Hq (by intro _;go_simp;try rfl) ?_;simp only[lay];refine Zu (i:=1) (op:=Op.slice 57 (Operand.tmp 133) (some (Operand.const (Value.int IntKind.i64 1))) none none) (t:=57) (d:=some 134) (v:=.slice T nw (dw-1)) rfl (by decide +kernel) (by decide +kernel) (by decide +kernel) Hq ?_ ?_
          ·(intro _;unfold Zj;go_simp;skip)
          try simp only[lay]
          refine Za 3 (.move (.tmp 10)) 3 (some 136) rfl (by kernel_rfl) Hq (by intro _;go_simp;try rfl) ?_;simp only[lay];refine Zh (n:=6) [(2,some 135),(4,some 137),(5,some 138),(6,some 139)] (Ext w4) (VF (fun | 5=>some (.int .i64 16) | _=>none) (fun i v W=>(i=2->∃ z,v=.slice (some ⟨z,0,none⟩) 3 3/\Blk W z 3 #[.int .i64 16,.int .i64 4096,.int .i64 6])/\(i=4->∃ z,v=.pointer (some ⟨z,0,none⟩)/\Blk W z 3 #[.int .i64 16,.int .i64 4096,.int .i64 6])/\(i=6->∃ z,v=.slice (some ⟨z,0,none⟩) 1 1/\Blk W z 3 #[.int .i64 16]))) Ext #[true,true,true,true,true,true,true,false,false,false,false,false,false] (by decide +kernel) (VF.stab ?_) ?_ ?_ (by first | exact(Ext.rf _).drew | exact Ext.rf _)
          ·intro j v W W' _ gz hx
           obtain⟨g0,g1,g2⟩:=gz;exact⟨fun h=>(g0 h).imp fun z hz=>⟨hz.1,hz.2.ext hx⟩,fun h=>(g1 h).imp fun z hz=>⟨hz.1,hz.2.ext hx⟩,fun h=>(g2 h).imp fun z hz=>⟨hz.1,hz.2.ext hx⟩⟩
          ·intro pS hpm uS wS hRW hD K hK
           simp only[List.mem_cons,List.not_mem_nil,or_false] at hpm;rcases hpm with rfl | rfl | rfl | rfl
           ·( exact Zl (op:=Op.buildSlice 22 3 #[(0,Operand.const (Value.int IntKind.i64 16)),(1,Operand.const (Value.int IntKind.i64 4096)),(2,Operand.const (Value.int IntKind.i64 6))]) (t:=22) (d:=some 135) rfl _ (by unfold Zj;go_simp;try rfl) (hK _ _ (VF.mg rfl ⟨(fun _=>⟨_,rfl,.new rfl⟩),(fun h=>absurd h (by decide)),(fun h=>absurd h (by decide))⟩) (hRW.alloc _) ((Ext.rf _).alloc _)))
           ·( obtain⟨z,ez,bz⟩:=((hD 2 (Zg (by kernel_rfl))).g rfl).1 rfl;exact Vb (T:=22) (x:=Operand.tmp 135) (y:=Operand.tmp 136) (t:=0) (d:=some 137) rfl (.slice (some ⟨z,0,none⟩) 3 3) (.int .i64 0) (Eq.trans (b:=uS 2) (by kernel_rfl) ez) (by kernel_rfl) (.pointer (some ⟨z,0,none⟩)) (by go_simp) (hK _ _ (VF.mg rfl ⟨(fun h=>absurd h (by decide)),(fun _=>⟨z,rfl,bz⟩),(fun h=>absurd h (by decide))⟩) hRW (Ext.rf _)))
           ·(obtain⟨z,ez,bz⟩:=((hD 4 (Zg (by kernel_rfl))).g rfl).2.1 rfl;have rX:wS.cell? ⟨z,0,none⟩=some (.int .i64 16):=(bz.cell 0).trans (rfl);exact Ze (T:=3) (x:=Operand.tmp 137) (t:=3) (d:=some 138) rfl (.pointer (some ⟨z,0,none⟩)) (Eq.trans (b:=uS 4) (by kernel_rfl) ez) (.int .i64 16) (by go_simp) (hK _ _ (VF.mk rfl) hRW (Ext.rf _)))
           ·(have e5:uS 5=.int .i64 16:=(hD 5 (Zg (by kernel_rfl))).k rfl;exact Zl (op:=Op.buildSlice 22 1 #[(0,Operand.tmp 138)]) (t:=22) (d:=some 139) rfl _ (by simp only[Zc,Act.put,List.setIfInBounds_toArray,List.set_cons_zero,List.set_cons_succ];unfold Zj;(try go_simp);(try simp only[e5]);(try go_simp);(try rfl)) (hK _ _ (VF.mg rfl ⟨(fun h=>absurd h (by decide)),(fun h=>absurd h (by decide)),(fun _=>⟨_,rfl,.new rfl⟩)⟩) (hRW.alloc _) ((Ext.rf _).alloc _)))
          intro u w9 hR9 hV;have h5:=(hV (5,some 138) (by simp)).k rfl;obtain⟨qz,h6,qb⟩:=((hV (6,some 139) (by simp)).g rfl).2.2 rfl;simp only[Zc,h5,h6];clear hV h5 h6
          try simp only[lay]
          refine Zd 7 (by decide +kernel) (Zi (f:=28) (xs:=#[Operand.tmp 134,Operand.tmp 139]) (ts:=#[57,22]) (t:=70) (d:=some 140) rfl #[.slice T nw (dw-1),.slice (some ⟨qz,0,none⟩) 1 1] (by go_simp) (by kernel_rfl) _ (NU.out _ T _ (hT.out _ (OW4.out.read.ext hR9)) _ _ (RdI.blk qb rfl)) ?_);rintro e w5 ⟨Ln,kL,rfl,oN,x5⟩;refine⟨_,rfl,?_⟩
          try simp only[lay]
          refine Za 8 (.move (.tmp 140)) 70 (some 132) rfl (by kernel_rfl) Hq (by intro _;go_simp;try rfl) ?_;simp only[lay];refine Za 9 (.extract (.tmp 132) 0) 22 (some 141) rfl (by kernel_rfl) Hq (by intro _;go_simp;try rfl) ?_;simp only[lay];refine Za 10 (.extract (.tmp 132) 1) 4 (some 142) rfl (by kernel_rfl) Hq (by intro _;go_simp;try rfl) ?_;simp only[lay];refine Za 11 (.assign (.tmp 141)) 22 (some 16) rfl (by kernel_rfl) Hq (by intro _;go_simp;try rfl) ?_;simp only[lay];refine Za 12 (.assign (.tmp 142)) 4 (some 17) rfl (by kernel_rfl) Hq (by intro _;go_simp;try rfl) ?_;simp only[lay];refine wpAny_done (by kernel_rfl) ?_ _;have X5:=Hd (hR9.tr x5);have MM5:=Hd (MM4.out.ext X5.out);have RS5:=Hd (RS4.out.ext X5.out);clear x5 hR9 qb RS4 MM4 OW4 X5 NU;go_simp
          cases N with
          | none =>
           clear hRN;have e1:=Hd (HF.out rfl);clear HF HS;have BZf:=Hd (BZ2.out.mod MM5.out (by have:=hne.out;omega));have Xf:=Hd (X2.out.mq MM5.out (by have:=hne.out;omega) (by have:=hne.out;omega) (by have:=hne.out;omega));obtain⟨b0,b1,b2,b3,b4,f0,f1,f2,f3,f4⟩:=Zk BZf.out;obtain⟨w99,hWF,BF,YF⟩:=Zo BZf.out Xf.out hgrw.out (.int .i64 0) (.int .i64 0) (.int .i64 0) (.slice none 0 0) (.slice none 0 0);go_wp2_with (fail);rw[hWF.out];clear hWF;clear b0 b1 b2 b3 b4 f0 f1 f2 f3 f4 ;obtain⟨r0,r1,r2,r3,r4,-⟩:=Zk BF.out;refine bodyPost_ret (v:=.tuple #[.agg #[.int .i64 0,.int .i64 0,.int .i64 0,.slice none 0 0,.slice none 0 0],.int .i64 ((k:Int)+1),.int .i64 8]) (by simp[results,Tryz.results17,go_sem, *]) rfl ?_;rw[e1.out];exact⟨_,rfl,RScrO.zero _ _,YF.out⟩
          | some l =>
           obtain⟨n0,rfl⟩:∃ n0,l=[n0]:=by
            have h:=hRN.out l rfl
            match l,h with
            | [n0],_=>exact⟨n0,rfl⟩
           simp only[Option.getD_some] at oN;obtain⟨bL,rfl,zL,zL2,LC⟩:=ZZ oN (by simp);simp only[List.length_cons,List.length_nil,Nat.zero_add,Nat.reduceAdd,Option.isSome_some];have l0:=LC.out 0 n0 rfl;clear oN zL zL2 LC hRN
           by_cases hz:n0=0
           ·subst hz
            have e1:=Hd (HF.out (by simp));clear HF HS;have BZf:=Hd (BZ2.out.mod MM5.out (by have:=hne.out;omega));have Xf:=Hd (X2.out.mq MM5.out (by have:=hne.out;omega) (by have:=hne.out;omega) (by have:=hne.out;omega));obtain⟨b0,b1,b2,b3,b4,f0,f1,f2,f3,f4⟩:=Zk BZf.out;obtain⟨w99,hWF,BF,YF⟩:=Zo BZf.out Xf.out hgrw.out (.int .i64 0) (.int .i64 0) (.int .i64 0) (.slice none 0 0) (.slice none 0 0);go_wp2_with (fail);rw[hWF.out];clear hWF;clear b0 b1 b2 b3 b4 f0 f1 f2 f3 f4 l0;obtain⟨r0,r1,r2,r3,r4,-⟩:=Zk BF.out;refine bodyPost_ret (v:=.tuple #[.agg #[.int .i64 0,.int .i64 0,.int .i64 0,.slice none 0 0,.slice none 0 0],.int .i64 ((k:Int)+1),.int .i64 8]) (by simp[results,Tryz.results17,go_sem, *]) rfl ?_;rw[e1.out];exact⟨_,rfl,RScrO.zero _ _,YF.out⟩
           ·have qz0:(n0==0)=false:=beq_eq_false_iff_ne.2 hz
            obtain⟨HS1,HS2,HS3⟩:=HS.out (Ys s 0 n0,said++[x]) (by simp[hz]);obtain⟨o9,c9⟩:∃ o9,w5.cell? ⟨go,0,none⟩=some (.int .i64 o9):=⟨_,RS5.out.rb.cell 0⟩;have f9:=RS5.out.rb.free 0;obtain⟨S6,M6⟩:=RS5.out.num 0 (by decide) n0;have RS6:=Hd S6;have MM6:=Hd (MM5.out.tr M6);clear S6 M6 hz HF HS RS5 MM5;go_wp2_with (fail);go_roundw
            case rel=>exact⟨k+1,_,_,by go_num,by omega,Hd ⟨_,_,_,_,RS6.out.ext XI⟩,HS2,HS3,HS1,Hd (MM6.out.ext XI)⟩
            case measure=>simp[intOf];omega
         ·have FB2:ZP s said x=false:=by rw[FB.out,decide_eq_false hp];rfl
          rw[FB2] at HF;have hp3:(0:Int)<(s.parts.length:Int):=by have:=List.length_pos_iff.2 hp;omega
          have hp4:0<s.parts.length:=List.length_pos_iff.2 hp;have e1:=Hd (HF.out rfl);clear HF HS;have BZf:=Hd (BZ2.out.mod MMc.out (by have:=hne.out;omega));have Xf:=Hd (X2.out.mq MMc.out (by have:=hne.out;omega) (by have:=hne.out;omega) (by have:=hne.out;omega));obtain⟨b0,b1,b2,b3,b4,f0,f1,f2,f3,f4⟩:=Zk BZf.out;obtain⟨w99,hWF,BF,YF⟩:=Zo BZf.out Xf.out hgrw.out (.int .i64 0) (.int .i64 0) (.int .i64 0) (.slice none 0 0) (.slice none 0 0);go_wp2_with (fail);rw[hWF.out];clear hWF;clear b0 b1 b2 b3 b4 f0 f1 f2 f3 f4 cs c4;obtain⟨r0,r1,r2,r3,r4,-⟩:=Zk BF.out;refine bodyPost_ret (v:=.tuple #[.agg #[.int .i64 0,.int .i64 0,.int .i64 0,.slice none 0 0,.slice none 0 0],.int .i64 ((k:Int)+1),.int .i64 8]) (by simp[results,Tryz.results17,go_sem, *]) rfl ?_;rw[e1.out];exact⟨_,rfl,RScrO.zero _ _,YF.out⟩
       ·skip
        by_cases h1:x=ZK
        ·skip
         have hwv:YM x=1:=by rw[h1];decide +kernel
         rw[hwv];have e0:Zy s said (x::ws)=_:=(show Zy s said (x::ws)=Yl s said (x::ws) 4096 (Ys s 1) by rw[h1];exact WH s said ws).trans (Y0 s said x ws 4096 (Ys s 1));rw[e0] at HF HS;clear e0 hwv;have NU:=Hd (fun(W:World) (T:Option Addr) (cT:Nat) (hT:RdV W 9 T (txV ws)) (M:Option Addr) (cM:Nat) (hM:RdI W M [4096])=>XP T cT ws M cM [4096] W hT hM (fun y hy=>by have:=hx y (by simp[hy]);omega) (by have:=hnw.out;omega));unfold YJ at NU;rw[hnw.out] at NU;obtain⟨T,hTb,hT,hrun⟩:=JG (gw:=gw) (x:=x) (dw:=dw) hnw.out (by omega);replace hT:=Hd hT;clear hx hTb;have cs:wc.cell? ⟨gs,1,none⟩=some (.bool (decide (x∈said))):=by rw[h1];exact(RSc.out.rs.cell 1).trans (VC (by decide) said)
         have c4:wc.cell? ⟨go,4,none⟩=some (.slice B s.parts.length b):=(RSc.out.rb.cell 4);have FB:Hid (ZP s said x=(decide (s.parts=[]) && !(decide (x∈said)))):=Hd rfl;obtain⟨q,hq⟩:∃ q,decide (x∈said)=q:=⟨_,rfl⟩;rw[hq] at cs FB;have hwI:=Hd h1;clear hq h0 h1
         cases q with
         | true =>
          have FB2:ZP s said x=false:=by rw[FB.out,Bool.not_true,Bool.and_false]
          rw[FB2] at HF;have e1:=Hd (HF.out rfl);clear HF HS;have BZf:=Hd (BZ2.out.mod MMc.out (by have:=hne.out;omega));have Xf:=Hd (X2.out.mq MMc.out (by have:=hne.out;omega) (by have:=hne.out;omega) (by have:=hne.out;omega));obtain⟨b0,b1,b2,b3,b4,f0,f1,f2,f3,f4⟩:=Zk BZf.out;obtain⟨w99,hWF,BF,YF⟩:=Zo BZf.out Xf.out hgrw.out (.int .i64 0) (.int .i64 0) (.int .i64 0) (.slice none 0 0) (.slice none 0 0);go_wp2_with (fail);rw[hWF.out];clear hWF;clear b0 b1 b2 b3 b4 f0 f1 f2 f3 f4 cs c4;obtain⟨r0,r1,r2,r3,r4,-⟩:=Zk BF.out;refine bodyPost_ret (v:=.tuple #[.agg #[.int .i64 0,.int .i64 0,.int .i64 0,.slice none 0 0,.slice none 0 0],.int .i64 ((k:Int)+1),.int .i64 8]) (by simp[results,Tryz.results17,go_sem, *]) rfl ?_;rw[e1.out];exact⟨_,rfl,RScrO.zero _ _,YF.out⟩
         | false =>
          by_cases hp:s.parts=[]
          ·skip
           have FB2:ZP s said x=true:=by rw[FB.out,decide_eq_true hp];rfl
           have hp0:s.parts.length=0:=by rw[hp];rfl
           rw[FB2] at HF HS;rw[hp0] at c4;replace hp0:=Hd hp0;have fs:=RSc.out.rs.free 1;obtain⟨S4,M4,T4⟩:=RSc.out.say 1 (by decide);rw[show YW 1=x from hwI.out.symm] at S4;have MM4:=Hd (MMc.out.tr M4);have OW4:=Hd (OWc.out.modT T4 (by decide));have sz4:w2.heap.size<=(wc.setCell ⟨gs,1,none⟩ (.bool true)).heap.size:=Mod.size MM4.out;have RS4:=Hd S4;clear S4 M4 T4 hp FB FB2;go_upto_region 25 with(fail);clear cs fs c4 RSc OWc MMc;generalize wc.setCell ⟨gs,1,none⟩ (.bool true)=w4 at *;have hRN:=Hd (fun(l:List Int) (h:Zn ws [4096]=some l)=>(Yh h).1);obtain⟨N,hN⟩:∃ N,Zn ws [4096]=N:=⟨_,rfl⟩;rw[hN] at NU HF HS hRN;clear hN;go_upto_region 35 with(fail);refine wp_region_any (by kernel_rfl) ?_
           change wpAny _ _ _ _ _ _ _ (World.drew _)
           refine Za 0 (.move (.tmp 9)) 57 (some 133) rfl (by kernel_rfl) Hq (by intro _;go_simp;try rfl) ?_;simp only[lay];refine Zu (i:=1) (op:=Op.slice 57 (Operand.tmp 133) (some (Operand.const (Value.int IntKind.i64 1))) none none) (t:=57) (d:=some 134) (v:=.slice T nw (dw-1)) rfl (by decide +kernel) (by decide +kernel) (by decide +kernel) Hq ?_ ?_
           ·(intro _;unfold Zj;go_simp;skip)
           try simp only[lay]
           refine Za 3 (.move (.tmp 10)) 3 (some 136) rfl (by kernel_rfl) Hq (by intro _;go_simp;try rfl) ?_;simp only[lay];refine Zh (n:=6) [(2,some 135),(4,some 137),(5,some 138),(6,some 139)] (Ext w4) (VF (fun | 5=>some (.int .i64 4096) | _=>none) (fun i v W=>(i=2->∃ z,v=.slice (some ⟨z,0,none⟩) 3 3/\Blk W z 3 #[.int .i64 16,.int .i64 4096,.int .i64 6])/\(i=4->∃ z,v=.pointer (some ⟨z,1,none⟩)/\Blk W z 3 #[.int .i64 16,.int .i64 4096,.int .i64 6])/\(i=6->∃ z,v=.slice (some ⟨z,0,none⟩) 1 1/\Blk W z 3 #[.int .i64 4096]))) Ext #[true,true,true,true,true,true,true,false,false,false,false,false,false] (by decide +kernel) (VF.stab ?_) ?_ ?_ (by first | exact(Ext.rf _).drew | exact Ext.rf _)
           ·intro j v W W' _ gz hx
            obtain⟨g0,g1,g2⟩:=gz;exact⟨fun h=>(g0 h).imp fun z hz=>⟨hz.1,hz.2.ext hx⟩,fun h=>(g1 h).imp fun z hz=>⟨hz.1,hz.2.ext hx⟩,fun h=>(g2 h).imp fun z hz=>⟨hz.1,hz.2.ext hx⟩⟩
           ·intro pS hpm uS wS hRW hD K hK
            simp only[List.mem_cons,List.not_mem_nil,or_false] at hpm;rcases hpm with rfl | rfl | rfl | rfl
            ·( exact Zl (op:=Op.buildSlice 22 3 #[(0,Operand.const (Value.int IntKind.i64 16)),(1,Operand.const (Value.int IntKind.i64 4096)),(2,Operand.const (Value.int IntKind.i64 6))]) (t:=22) (d:=some 135) rfl _ (by unfold Zj;go_simp;try rfl) (hK _ _ (VF.mg rfl ⟨(fun _=>⟨_,rfl,.new rfl⟩),(fun h=>absurd h (by decide)),(fun h=>absurd h (by decide))⟩) (hRW.alloc _) ((Ext.rf _).alloc _)))
            ·( obtain⟨z,ez,bz⟩:=((hD 2 (Zg (by kernel_rfl))).g rfl).1 rfl;exact Vb (T:=22) (x:=Operand.tmp 135) (y:=Operand.tmp 136) (t:=0) (d:=some 137) rfl (.slice (some ⟨z,0,none⟩) 3 3) (.int .i64 1) (Eq.trans (b:=uS 2) (by kernel_rfl) ez) (by kernel_rfl) (.pointer (some ⟨z,1,none⟩)) (by go_simp) (hK _ _ (VF.mg rfl ⟨(fun h=>absurd h (by decide)),(fun _=>⟨z,rfl,bz⟩),(fun h=>absurd h (by decide))⟩) hRW (Ext.rf _)))
            ·(obtain⟨z,ez,bz⟩:=((hD 4 (Zg (by kernel_rfl))).g rfl).2.1 rfl;have rX:wS.cell? ⟨z,1,none⟩=some (.int .i64 4096):=(bz.cell 1).trans (rfl);exact Ze (T:=3) (x:=Operand.tmp 137) (t:=3) (d:=some 138) rfl (.pointer (some ⟨z,1,none⟩)) (Eq.trans (b:=uS 4) (by kernel_rfl) ez) (.int .i64 4096) (by go_simp) (hK _ _ (VF.mk rfl) hRW (Ext.rf _)))
            ·(have e5:uS 5=.int .i64 4096:=(hD 5 (Zg (by kernel_rfl))).k rfl;exact Zl (op:=Op.buildSlice 22 1 #[(0,Operand.tmp 138)]) (t:=22) (d:=some 139) rfl _ (by simp only[Zc,Act.put,List.setIfInBounds_toArray,List.set_cons_zero,List.set_cons_succ];unfold Zj;(try go_simp);(try simp only[e5]);(try go_simp);(try rfl)) (hK _ _ (VF.mg rfl ⟨(fun h=>absurd h (by decide)),(fun h=>absurd h (by decide)),(fun _=>⟨_,rfl,.new rfl⟩)⟩) (hRW.alloc _) ((Ext.rf _).alloc _)))
           intro u w9 hR9 hV;have h5:=(hV (5,some 138) (by simp)).k rfl;obtain⟨qz,h6,qb⟩:=((hV (6,some 139) (by simp)).g rfl).2.2 rfl;simp only[Zc,h5,h6];clear hV h5 h6
           try simp only[lay]
           refine Zd 7 (by decide +kernel) (Zi (f:=28) (xs:=#[Operand.tmp 134,Operand.tmp 139]) (ts:=#[57,22]) (t:=70) (d:=some 140) rfl #[.slice T nw (dw-1),.slice (some ⟨qz,0,none⟩) 1 1] (by go_simp) (by kernel_rfl) _ (NU.out _ T _ (hT.out _ (OW4.out.read.ext hR9)) _ _ (RdI.blk qb rfl)) ?_);rintro e w5 ⟨Ln,kL,rfl,oN,x5⟩;refine⟨_,rfl,?_⟩
           try simp only[lay]
           refine Za 8 (.move (.tmp 140)) 70 (some 132) rfl (by kernel_rfl) Hq (by intro _;go_simp;try rfl) ?_;simp only[lay];refine Za 9 (.extract (.tmp 132) 0) 22 (some 141) rfl (by kernel_rfl) Hq (by intro _;go_simp;try rfl) ?_;simp only[lay];refine Za 10 (.extract (.tmp 132) 1) 4 (some 142) rfl (by kernel_rfl) Hq (by intro _;go_simp;try rfl) ?_;simp only[lay];refine Za 11 (.assign (.tmp 141)) 22 (some 16) rfl (by kernel_rfl) Hq (by intro _;go_simp;try rfl) ?_;simp only[lay];refine Za 12 (.assign (.tmp 142)) 4 (some 17) rfl (by kernel_rfl) Hq (by intro _;go_simp;try rfl) ?_;simp only[lay];refine wpAny_done (by kernel_rfl) ?_ _;have X5:=Hd (hR9.tr x5);have MM5:=Hd (MM4.out.ext X5.out);have RS5:=Hd (RS4.out.ext X5.out);clear x5 hR9 qb RS4 MM4 OW4 X5 NU;go_simp
           cases N with
           | none =>
            clear hRN;have e1:=Hd (HF.out rfl);clear HF HS;have BZf:=Hd (BZ2.out.mod MM5.out (by have:=hne.out;omega));have Xf:=Hd (X2.out.mq MM5.out (by have:=hne.out;omega) (by have:=hne.out;omega) (by have:=hne.out;omega));obtain⟨b0,b1,b2,b3,b4,f0,f1,f2,f3,f4⟩:=Zk BZf.out;obtain⟨w99,hWF,BF,YF⟩:=Zo BZf.out Xf.out hgrw.out (.int .i64 0) (.int .i64 0) (.int .i64 0) (.slice none 0 0) (.slice none 0 0);go_wp2_with (fail);rw[hWF.out];clear hWF;clear b0 b1 b2 b3 b4 f0 f1 f2 f3 f4 ;obtain⟨r0,r1,r2,r3,r4,-⟩:=Zk BF.out;refine bodyPost_ret (v:=.tuple #[.agg #[.int .i64 0,.int .i64 0,.int .i64 0,.slice none 0 0,.slice none 0 0],.int .i64 ((k:Int)+1),.int .i64 8]) (by simp[results,Tryz.results17,go_sem, *]) rfl ?_;rw[e1.out];exact⟨_,rfl,RScrO.zero _ _,YF.out⟩
           | some l =>
            obtain⟨n0,rfl⟩:∃ n0,l=[n0]:=by
             have h:=hRN.out l rfl
             match l,h with
             | [n0],_=>exact⟨n0,rfl⟩
            simp only[Option.getD_some] at oN;obtain⟨bL,rfl,zL,zL2,LC⟩:=ZZ oN (by simp);simp only[List.length_cons,List.length_nil,Nat.zero_add,Nat.reduceAdd,Option.isSome_some];have l0:=LC.out 0 n0 rfl;clear oN zL zL2 LC hRN
            by_cases hz:n0=0
            ·subst hz
             have e1:=Hd (HF.out (by simp));clear HF HS;have BZf:=Hd (BZ2.out.mod MM5.out (by have:=hne.out;omega));have Xf:=Hd (X2.out.mq MM5.out (by have:=hne.out;omega) (by have:=hne.out;omega) (by have:=hne.out;omega));obtain⟨b0,b1,b2,b3,b4,f0,f1,f2,f3,f4⟩:=Zk BZf.out;obtain⟨w99,hWF,BF,YF⟩:=Zo BZf.out Xf.out hgrw.out (.int .i64 0) (.int .i64 0) (.int .i64 0) (.slice none 0 0) (.slice none 0 0);go_wp2_with (fail);rw[hWF.out];clear hWF;clear b0 b1 b2 b3 b4 f0 f1 f2 f3 f4 l0;obtain⟨r0,r1,r2,r3,r4,-⟩:=Zk BF.out;refine bodyPost_ret (v:=.tuple #[.agg #[.int .i64 0,.int .i64 0,.int .i64 0,.slice none 0 0,.slice none 0 0],.int .i64 ((k:Int)+1),.int .i64 8]) (by simp[results,Tryz.results17,go_sem, *]) rfl ?_;rw[e1.out];exact⟨_,rfl,RScrO.zero _ _,YF.out⟩
            ·have qz0:(n0==0)=false:=beq_eq_false_iff_ne.2 hz
             obtain⟨HS1,HS2,HS3⟩:=HS.out (Ys s 1 n0,said++[x]) (by simp[hz]);obtain⟨o9,c9⟩:∃ o9,w5.cell? ⟨go,1,none⟩=some (.int .i64 o9):=⟨_,RS5.out.rb.cell 1⟩;have f9:=RS5.out.rb.free 1;obtain⟨S6,M6⟩:=RS5.out.num 1 (by decide) n0;have RS6:=Hd S6;have MM6:=Hd (MM5.out.tr M6);clear S6 M6 hz HF HS RS5 MM5;go_wp2_with (fail);go_roundw
             case rel=>exact⟨k+1,_,_,by go_num,by omega,Hd ⟨_,_,_,_,RS6.out.ext XI⟩,HS2,HS3,HS1,Hd (MM6.out.ext XI)⟩
             case measure=>simp[intOf];omega
          ·have FB2:ZP s said x=false:=by rw[FB.out,decide_eq_false hp];rfl
           rw[FB2] at HF;have hp3:(0:Int)<(s.parts.length:Int):=by have:=List.length_pos_iff.2 hp;omega
           have hp4:0<s.parts.length:=List.length_pos_iff.2 hp;have e1:=Hd (HF.out rfl);clear HF HS;have BZf:=Hd (BZ2.out.mod MMc.out (by have:=hne.out;omega));have Xf:=Hd (X2.out.mq MMc.out (by have:=hne.out;omega) (by have:=hne.out;omega) (by have:=hne.out;omega));obtain⟨b0,b1,b2,b3,b4,f0,f1,f2,f3,f4⟩:=Zk BZf.out;obtain⟨w99,hWF,BF,YF⟩:=Zo BZf.out Xf.out hgrw.out (.int .i64 0) (.int .i64 0) (.int .i64 0) (.slice none 0 0) (.slice none 0 0);go_wp2_with (fail);rw[hWF.out];clear hWF;clear b0 b1 b2 b3 b4 f0 f1 f2 f3 f4 cs c4;obtain⟨r0,r1,r2,r3,r4,-⟩:=Zk BF.out;refine bodyPost_ret (v:=.tuple #[.agg #[.int .i64 0,.int .i64 0,.int .i64 0,.slice none 0 0,.slice none 0 0],.int .i64 ((k:Int)+1),.int .i64 8]) (by simp[results,Tryz.results17,go_sem, *]) rfl ?_;rw[e1.out];exact⟨_,rfl,RScrO.zero _ _,YF.out⟩
        ·skip
         by_cases h2:x=ZE
         ·skip
          have hwv:YM x=2:=by rw[h2];decide +kernel
          rw[hwv];have e0:Zy s said (x::ws)=_:=(show Zy s said (x::ws)=Yl s said (x::ws) 6 (Ys s 2) by rw[h2];exact WJ s said ws).trans (Y0 s said x ws 6 (Ys s 2));rw[e0] at HF HS;clear e0 hwv;have NU:=Hd (fun(W:World) (T:Option Addr) (cT:Nat) (hT:RdV W 9 T (txV ws)) (M:Option Addr) (cM:Nat) (hM:RdI W M [6])=>XP T cT ws M cM [6] W hT hM (fun y hy=>by have:=hx y (by simp[hy]);omega) (by have:=hnw.out;omega));unfold YJ at NU;rw[hnw.out] at NU;obtain⟨T,hTb,hT,hrun⟩:=JG (gw:=gw) (x:=x) (dw:=dw) hnw.out (by omega);replace hT:=Hd hT;clear hx hTb;have cs:wc.cell? ⟨gs,2,none⟩=some (.bool (decide (x∈said))):=by rw[h2];exact(RSc.out.rs.cell 2).trans (VC (by decide) said)
          have c4:wc.cell? ⟨go,4,none⟩=some (.slice B s.parts.length b):=(RSc.out.rb.cell 4);have FB:Hid (ZP s said x=(decide (s.parts=[]) && !(decide (x∈said)))):=Hd rfl;obtain⟨q,hq⟩:∃ q,decide (x∈said)=q:=⟨_,rfl⟩;rw[hq] at cs FB;have hwI:=Hd h2;clear hq h0 h1 h2
          cases q with
          | true =>
           have FB2:ZP s said x=false:=by rw[FB.out,Bool.not_true,Bool.and_false]
           rw[FB2] at HF;have e1:=Hd (HF.out rfl);clear HF HS;have BZf:=Hd (BZ2.out.mod MMc.out (by have:=hne.out;omega));have Xf:=Hd (X2.out.mq MMc.out (by have:=hne.out;omega) (by have:=hne.out;omega) (by have:=hne.out;omega));obtain⟨b0,b1,b2,b3,b4,f0,f1,f2,f3,f4⟩:=Zk BZf.out;obtain⟨w99,hWF,BF,YF⟩:=Zo BZf.out Xf.out hgrw.out (.int .i64 0) (.int .i64 0) (.int .i64 0) (.slice none 0 0) (.slice none 0 0);go_wp2_with (fail);rw[hWF.out];clear hWF;clear b0 b1 b2 b3 b4 f0 f1 f2 f3 f4 cs c4;obtain⟨r0,r1,r2,r3,r4,-⟩:=Zk BF.out;refine bodyPost_ret (v:=.tuple #[.agg #[.int .i64 0,.int .i64 0,.int .i64 0,.slice none 0 0,.slice none 0 0],.int .i64 ((k:Int)+1),.int .i64 8]) (by simp[results,Tryz.results17,go_sem, *]) rfl ?_;rw[e1.out];exact⟨_,rfl,RScrO.zero _ _,YF.out⟩
          | false =>
           by_cases hp:s.parts=[]
           ·skip
            have FB2:ZP s said x=true:=by rw[FB.out,decide_eq_true hp];rfl
            have hp0:s.parts.length=0:=by rw[hp];rfl
            rw[FB2] at HF HS;rw[hp0] at c4;replace hp0:=Hd hp0;have fs:=RSc.out.rs.free 2;obtain⟨S4,M4,T4⟩:=RSc.out.say 2 (by decide);rw[show YW 2=x from hwI.out.symm] at S4;have MM4:=Hd (MMc.out.tr M4);have OW4:=Hd (OWc.out.modT T4 (by decide));have sz4:w2.heap.size<=(wc.setCell ⟨gs,2,none⟩ (.bool true)).heap.size:=Mod.size MM4.out;have RS4:=Hd S4;clear S4 M4 T4 hp FB FB2;go_upto_region 25 with(fail);clear cs fs c4 RSc OWc MMc;generalize wc.setCell ⟨gs,2,none⟩ (.bool true)=w4 at *;have hRN:=Hd (fun(l:List Int) (h:Zn ws [6]=some l)=>(Yh h).1);obtain⟨N,hN⟩:∃ N,Zn ws [6]=N:=⟨_,rfl⟩;rw[hN] at NU HF HS hRN;clear hN;go_upto_region 35 with(fail);refine wp_region_any (by kernel_rfl) ?_
            change wpAny _ _ _ _ _ _ _ (World.drew _)
            refine Za 0 (.move (.tmp 9)) 57 (some 133) rfl (by kernel_rfl) Hq (by intro _;go_simp;try rfl) ?_;simp only[lay];refine Zu (i:=1) (op:=Op.slice 57 (Operand.tmp 133) (some (Operand.const (Value.int IntKind.i64 1))) none none) (t:=57) (d:=some 134) (v:=.slice T nw (dw-1)) rfl (by decide +kernel) (by decide +kernel) (by decide +kernel) Hq ?_ ?_
            ·(intro _;unfold Zj;go_simp;skip)
            try simp only[lay]
            refine Za 3 (.move (.tmp 10)) 3 (some 136) rfl (by kernel_rfl) Hq (by intro _;go_simp;try rfl) ?_;simp only[lay];refine Zh (n:=6) [(2,some 135),(4,some 137),(5,some 138),(6,some 139)] (Ext w4) (VF (fun | 5=>some (.int .i64 6) | _=>none) (fun i v W=>(i=2->∃ z,v=.slice (some ⟨z,0,none⟩) 3 3/\Blk W z 3 #[.int .i64 16,.int .i64 4096,.int .i64 6])/\(i=4->∃ z,v=.pointer (some ⟨z,2,none⟩)/\Blk W z 3 #[.int .i64 16,.int .i64 4096,.int .i64 6])/\(i=6->∃ z,v=.slice (some ⟨z,0,none⟩) 1 1/\Blk W z 3 #[.int .i64 6]))) Ext #[true,true,true,true,true,true,true,false,false,false,false,false,false] (by decide +kernel) (VF.stab ?_) ?_ ?_ (by first | exact(Ext.rf _).drew | exact Ext.rf _)
            ·intro j v W W' _ gz hx
             obtain⟨g0,g1,g2⟩:=gz;exact⟨fun h=>(g0 h).imp fun z hz=>⟨hz.1,hz.2.ext hx⟩,fun h=>(g1 h).imp fun z hz=>⟨hz.1,hz.2.ext hx⟩,fun h=>(g2 h).imp fun z hz=>⟨hz.1,hz.2.ext hx⟩⟩
            ·intro pS hpm uS wS hRW hD K hK
             simp only[List.mem_cons,List.not_mem_nil,or_false] at hpm;rcases hpm with rfl | rfl | rfl | rfl
             ·( exact Zl (op:=Op.buildSlice 22 3 #[(0,Operand.const (Value.int IntKind.i64 16)),(1,Operand.const (Value.int IntKind.i64 4096)),(2,Operand.const (Value.int IntKind.i64 6))]) (t:=22) (d:=some 135) rfl _ (by unfold Zj;go_simp;try rfl) (hK _ _ (VF.mg rfl ⟨(fun _=>⟨_,rfl,.new rfl⟩),(fun h=>absurd h (by decide)),(fun h=>absurd h (by decide))⟩) (hRW.alloc _) ((Ext.rf _).alloc _)))
             ·( obtain⟨z,ez,bz⟩:=((hD 2 (Zg (by kernel_rfl))).g rfl).1 rfl;exact Vb (T:=22) (x:=Operand.tmp 135) (y:=Operand.tmp 136) (t:=0) (d:=some 137) rfl (.slice (some ⟨z,0,none⟩) 3 3) (.int .i64 2) (Eq.trans (b:=uS 2) (by kernel_rfl) ez) (by kernel_rfl) (.pointer (some ⟨z,2,none⟩)) (by go_simp) (hK _ _ (VF.mg rfl ⟨(fun h=>absurd h (by decide)),(fun _=>⟨z,rfl,bz⟩),(fun h=>absurd h (by decide))⟩) hRW (Ext.rf _)))
             ·(obtain⟨z,ez,bz⟩:=((hD 4 (Zg (by kernel_rfl))).g rfl).2.1 rfl;have rX:wS.cell? ⟨z,2,none⟩=some (.int .i64 6):=(bz.cell 2).trans (rfl);exact Ze (T:=3) (x:=Operand.tmp 137) (t:=3) (d:=some 138) rfl (.pointer (some ⟨z,2,none⟩)) (Eq.trans (b:=uS 4) (by kernel_rfl) ez) (.int .i64 6) (by go_simp) (hK _ _ (VF.mk rfl) hRW (Ext.rf _)))
             ·(have e5:uS 5=.int .i64 6:=(hD 5 (Zg (by kernel_rfl))).k rfl;exact Zl (op:=Op.buildSlice 22 1 #[(0,Operand.tmp 138)]) (t:=22) (d:=some 139) rfl _ (by simp only[Zc,Act.put,List.setIfInBounds_toArray,List.set_cons_zero,List.set_cons_succ];unfold Zj;(try go_simp);(try simp only[e5]);(try go_simp);(try rfl)) (hK _ _ (VF.mg rfl ⟨(fun h=>absurd h (by decide)),(fun h=>absurd h (by decide)),(fun _=>⟨_,rfl,.new rfl⟩)⟩) (hRW.alloc _) ((Ext.rf _).alloc _)))
            intro u w9 hR9 hV;have h5:=(hV (5,some 138) (by simp)).k rfl;obtain⟨qz,h6,qb⟩:=((hV (6,some 139) (by simp)).g rfl).2.2 rfl;simp only[Zc,h5,h6];clear hV h5 h6
            try simp only[lay]
            refine Zd 7 (by decide +kernel) (Zi (f:=28) (xs:=#[Operand.tmp 134,Operand.tmp 139]) (ts:=#[57,22]) (t:=70) (d:=some 140) rfl #[.slice T nw (dw-1),.slice (some ⟨qz,0,none⟩) 1 1] (by go_simp) (by kernel_rfl) _ (NU.out _ T _ (hT.out _ (OW4.out.read.ext hR9)) _ _ (RdI.blk qb rfl)) ?_);rintro e w5 ⟨Ln,kL,rfl,oN,x5⟩;refine⟨_,rfl,?_⟩
            try simp only[lay]
            refine Za 8 (.move (.tmp 140)) 70 (some 132) rfl (by kernel_rfl) Hq (by intro _;go_simp;try rfl) ?_;simp only[lay];refine Za 9 (.extract (.tmp 132) 0) 22 (some 141) rfl (by kernel_rfl) Hq (by intro _;go_simp;try rfl) ?_;simp only[lay];refine Za 10 (.extract (.tmp 132) 1) 4 (some 142) rfl (by kernel_rfl) Hq (by intro _;go_simp;try rfl) ?_;simp only[lay];refine Za 11 (.assign (.tmp 141)) 22 (some 16) rfl (by kernel_rfl) Hq (by intro _;go_simp;try rfl) ?_;simp only[lay];refine Za 12 (.assign (.tmp 142)) 4 (some 17) rfl (by kernel_rfl) Hq (by intro _;go_simp;try rfl) ?_;simp only[lay];refine wpAny_done (by kernel_rfl) ?_ _;have X5:=Hd (hR9.tr x5);have MM5:=Hd (MM4.out.ext X5.out);have RS5:=Hd (RS4.out.ext X5.out);clear x5 hR9 qb RS4 MM4 OW4 X5 NU;go_simp
            cases N with
            | none =>
             clear hRN;have e1:=Hd (HF.out rfl);clear HF HS;have BZf:=Hd (BZ2.out.mod MM5.out (by have:=hne.out;omega));have Xf:=Hd (X2.out.mq MM5.out (by have:=hne.out;omega) (by have:=hne.out;omega) (by have:=hne.out;omega));obtain⟨b0,b1,b2,b3,b4,f0,f1,f2,f3,f4⟩:=Zk BZf.out;obtain⟨w99,hWF,BF,YF⟩:=Zo BZf.out Xf.out hgrw.out (.int .i64 0) (.int .i64 0) (.int .i64 0) (.slice none 0 0) (.slice none 0 0);go_wp2_with (fail);rw[hWF.out];clear hWF;clear b0 b1 b2 b3 b4 f0 f1 f2 f3 f4 ;obtain⟨r0,r1,r2,r3,r4,-⟩:=Zk BF.out;refine bodyPost_ret (v:=.tuple #[.agg #[.int .i64 0,.int .i64 0,.int .i64 0,.slice none 0 0,.slice none 0 0],.int .i64 ((k:Int)+1),.int .i64 8]) (by simp[results,Tryz.results17,go_sem, *]) rfl ?_;rw[e1.out];exact⟨_,rfl,RScrO.zero _ _,YF.out⟩
            | some l =>
             obtain⟨n0,rfl⟩:∃ n0,l=[n0]:=by
              have h:=hRN.out l rfl
              match l,h with
              | [n0],_=>exact⟨n0,rfl⟩
             simp only[Option.getD_some] at oN;obtain⟨bL,rfl,zL,zL2,LC⟩:=ZZ oN (by simp);simp only[List.length_cons,List.length_nil,Nat.zero_add,Nat.reduceAdd,Option.isSome_some];have l0:=LC.out 0 n0 rfl;clear oN zL zL2 LC hRN
             by_cases hz:n0=0
             ·subst hz
              have e1:=Hd (HF.out (by simp));clear HF HS;have BZf:=Hd (BZ2.out.mod MM5.out (by have:=hne.out;omega));have Xf:=Hd (X2.out.mq MM5.out (by have:=hne.out;omega) (by have:=hne.out;omega) (by have:=hne.out;omega));obtain⟨b0,b1,b2,b3,b4,f0,f1,f2,f3,f4⟩:=Zk BZf.out;obtain⟨w99,hWF,BF,YF⟩:=Zo BZf.out Xf.out hgrw.out (.int .i64 0) (.int .i64 0) (.int .i64 0) (.slice none 0 0) (.slice none 0 0);go_wp2_with (fail);rw[hWF.out];clear hWF;clear b0 b1 b2 b3 b4 f0 f1 f2 f3 f4 l0;obtain⟨r0,r1,r2,r3,r4,-⟩:=Zk BF.out;refine bodyPost_ret (v:=.tuple #[.agg #[.int .i64 0,.int .i64 0,.int .i64 0,.slice none 0 0,.slice none 0 0],.int .i64 ((k:Int)+1),.int .i64 8]) (by simp[results,Tryz.results17,go_sem, *]) rfl ?_;rw[e1.out];exact⟨_,rfl,RScrO.zero _ _,YF.out⟩
             ·have qz0:(n0==0)=false:=beq_eq_false_iff_ne.2 hz
              obtain⟨HS1,HS2,HS3⟩:=HS.out (Ys s 2 n0,said++[x]) (by simp[hz]);obtain⟨o9,c9⟩:∃ o9,w5.cell? ⟨go,2,none⟩=some (.int .i64 o9):=⟨_,RS5.out.rb.cell 2⟩;have f9:=RS5.out.rb.free 2;obtain⟨S6,M6⟩:=RS5.out.num 2 (by decide) n0;have RS6:=Hd S6;have MM6:=Hd (MM5.out.tr M6);clear S6 M6 hz HF HS RS5 MM5;go_wp2_with (fail);go_roundw
              case rel=>exact⟨k+1,_,_,by go_num,by omega,Hd ⟨_,_,_,_,RS6.out.ext XI⟩,HS2,HS3,HS1,Hd (MM6.out.ext XI)⟩
              case measure=>simp[intOf];omega
           ·have FB2:ZP s said x=false:=by rw[FB.out,decide_eq_false hp];rfl
            rw[FB2] at HF;have hp3:(0:Int)<(s.parts.length:Int):=by have:=List.length_pos_iff.2 hp;omega
            have hp4:0<s.parts.length:=List.length_pos_iff.2 hp;have e1:=Hd (HF.out rfl);clear HF HS;have BZf:=Hd (BZ2.out.mod MMc.out (by have:=hne.out;omega));have Xf:=Hd (X2.out.mq MMc.out (by have:=hne.out;omega) (by have:=hne.out;omega) (by have:=hne.out;omega));obtain⟨b0,b1,b2,b3,b4,f0,f1,f2,f3,f4⟩:=Zk BZf.out;obtain⟨w99,hWF,BF,YF⟩:=Zo BZf.out Xf.out hgrw.out (.int .i64 0) (.int .i64 0) (.int .i64 0) (.slice none 0 0) (.slice none 0 0);go_wp2_with (fail);rw[hWF.out];clear hWF;clear b0 b1 b2 b3 b4 f0 f1 f2 f3 f4 cs c4;obtain⟨r0,r1,r2,r3,r4,-⟩:=Zk BF.out;refine bodyPost_ret (v:=.tuple #[.agg #[.int .i64 0,.int .i64 0,.int .i64 0,.slice none 0 0,.slice none 0 0],.int .i64 ((k:Int)+1),.int .i64 8]) (by simp[results,Tryz.results17,go_sem, *]) rfl ?_;rw[e1.out];exact⟨_,rfl,RScrO.zero _ _,YF.out⟩
         ·skip
          by_cases h3:x=ZB
          ·skip
           have hwv:YM x=3:=by rw[h3];decide +kernel
           rw[hwv];have e0:Zy s said (x::ws)=XZ s said x ws:=Wd s said x ws h3;rw[e0] at HF HS;unfold XZ at HF HS;clear e0 hwv;have NW:=Hd (fun(W:World) (y:Txt) (h:y∈ws)=>(show Calls Tryz.prog 27 #[.string ⟨y.toArray⟩,.int .i64 999999999999999999] W _ from Qf y 999999999999999999 W (by have:=hx y (by simp[h]);omega)));have STEP:=Hd (Wl ws (List.replicate ws.length ZX));have END:=Hd (WZ ws (List.replicate ws.length ZX));have REP:Hid (∀ k,k<ws.length->(List.replicate ws.length ZX)[k]?=some 999999999999999999):=Hd fun k hk=>by rw[List.getElem?_replicate,if_pos hk];rfl
           have ll:Hid ((List.replicate ws.length ZX).length=nw):=Hd (by rw[List.length_replicate,hnw.out]);have START:Hid (Zn ws (List.replicate ws.length ZX)=(Zn (ws.drop 0) ((List.replicate ws.length ZX).drop 0)).map ([] ++ ·)):=Hd (by rw[List.drop_zero,List.drop_zero];cases Zn ws (List.replicate ws.length ZX)<;>simp);have lxw:Hid ((txV (x::ws)).length=nw+1):=Hd (by rw[Xt];show ws.length+1=_;rw[hnw.out]);generalize List.replicate ws.length ZX=MS at *;rw[hnw.out] at REP HF HS;clear hx;have cs:wc.cell? ⟨gs,3,none⟩=some (.bool (decide (x∈said))):=by rw[h3];exact(RSc.out.rs.cell 3).trans (VC (by decide) said)
           have c4:wc.cell? ⟨go,4,none⟩=some (.slice B s.parts.length b):=(RSc.out.rb.cell 4);have FB:Hid (ZP s said x=(decide (s.parts=[]) && !(decide (x∈said)))):=Hd rfl;obtain⟨q,hq⟩:∃ q,decide (x∈said)=q:=⟨_,rfl⟩;rw[hq] at cs FB;have hwI:=Hd h3;clear hq h0 h1 h2 h3
           cases q with
           | true =>
            have FB2:ZP s said x=false:=by rw[FB.out,Bool.not_true,Bool.and_false]
            rw[FB2] at HF;have e1:=Hd (HF.out (by simp));clear HF HS;have BZf:=Hd (BZ2.out.mod MMc.out (by have:=hne.out;omega));have Xf:=Hd (X2.out.mq MMc.out (by have:=hne.out;omega) (by have:=hne.out;omega) (by have:=hne.out;omega));obtain⟨b0,b1,b2,b3,b4,f0,f1,f2,f3,f4⟩:=Zk BZf.out;obtain⟨w99,hWF,BF,YF⟩:=Zo BZf.out Xf.out hgrw.out (.int .i64 0) (.int .i64 0) (.int .i64 0) (.slice none 0 0) (.slice none 0 0);go_wp2_with (fail);rw[hWF.out];clear hWF;clear b0 b1 b2 b3 b4 f0 f1 f2 f3 f4 cs c4;obtain⟨r0,r1,r2,r3,r4,-⟩:=Zk BF.out;refine bodyPost_ret (v:=.tuple #[.agg #[.int .i64 0,.int .i64 0,.int .i64 0,.slice none 0 0,.slice none 0 0],.int .i64 ((k:Int)+1),.int .i64 8]) (by simp[results,Tryz.results17,go_sem, *]) rfl ?_;rw[e1.out];exact⟨_,rfl,RScrO.zero _ _,YF.out⟩
           | false =>
            by_cases hp:s.parts=[]
            ·skip
             have FB2:ZP s said x=true:=by rw[FB.out,decide_eq_true hp];rfl
             have hp0:s.parts.length=0:=by rw[hp];rfl
             rw[FB2] at HF HS;rw[hp0] at c4;replace hp0:=Hd hp0;have fs:=RSc.out.rs.free 3;obtain⟨S4,M4,T4⟩:=RSc.out.say 3 (by decide);rw[show YW 3=x from hwI.out.symm] at S4;have MM4:=Hd (MMc.out.tr M4);have OW4:=Hd (OWc.out.modT T4 (by decide));have sz4:w2.heap.size<=(wc.setCell ⟨gs,3,none⟩ (.bool true)).heap.size:=Mod.size MM4.out;have RS4:=Hd S4;clear S4 M4 T4 hp FB FB2;go_upto_region 25 with(fail);clear cs fs c4 RSc OWc MMc;generalize wc.setCell ⟨gs,3,none⟩ (.bool true)=w4 at *
             by_cases h100:nw<=100
             ·have q1:¬(101:Int)<((nw:Int)+1):=by omega
              have q2:¬101<nw+1:=by omega
              have HF2:Hid (Zn ws MS=none->R=(scr0,(k:Int)+1,8)):=Hd fun h=>HF.out (by rw[if_pos ⟨rfl,h100⟩,h];rfl)
              have HS2:Hid (∀ d,Zn ws MS=some d->_):=Hd fun d (h:Zn ws MS=some d)=>HS.out ({ s with draws:=s.draws++d },said++[x]) (by rw[if_pos ⟨rfl,h100⟩,h];rfl)
              clear HF HS;go_wp2_with (fail);go_loopw [14] (fun kv wx=>∃ (j m6:Nat) (A2:Option Addr) (a2:Nat) (acc:List Int),kv=.int .i64 ((j:Int)+1)/\j<=nw/\Hid (acc.length=j)/\Hid (Zn ws MS=(Zn (ws.drop j) (MS.drop j)).map (acc ++ ·))/\Hid (RsS w2.heap.size go gs { s with draws:=s.draws++acc } (said++[x]) A2 a2 B b wx)/\Hid ((s.draws++acc).length=m6)/\m6<=1000000000+j/\Hid (RdV wx 9 (some ⟨gw,0,none⟩) (txV (x::ws)))/\Hid (MQ w2.heap.size go gs w2 wx)) (fun kv _=>nw+1-(intOf kv).toNat)
              case atStart=>exact⟨0,s.draws.length,A,a,[],rfl,by omega,Hd rfl,START,by rw[List.append_nil];exact Hd (RS4.out.ext XI),by rw[List.append_nil];exact Hd rfl,by omega,Hd (OW4.out.read.ext XI),Hd (MM4.out.ext XI)⟩
              case round =>
               clear RS4 MM4 START sz4;obtain⟨j,m6,A2,a2,acc,rfl,hj,hak,HN,SR,hm6,hmk,TR,MRr⟩:=hrel;have szj:w2.heap.size<=wr.heap.size:=Mod.size MRr.out
               by_cases hlj:j<nw
               ·have hlt3:(j:Int)+1<(nw:Int)+1:=by omega
                have hlt4:j+1<nw+1:=by omega
                obtain⟨y,hy⟩:∃ y,ws[j]?=some y:=⟨_,List.getElem?_eq_getElem (by rw[hnw.out];exact hlj)⟩;have NX:=NW.out;have HSt:=Hd (STEP.out acc j y _ hy (REP.out j hlj) HN.out);obtain⟨ba,oa,v,h1,-,ca,ea⟩:=TR.out.at (j:=j+1) (by rw[lxw.out];omega)
                injection h1 with h1
                injection h1 with h1 h1b
                subst h1;subst h1b;obtain rfl:v=txS y:=by have h:=ea.out;unfold txV at h;rw[List.getElem?_map,List.getElem?_cons_succ,hy] at h;simpa using h.symm
                unfold txS at ca;have ca2:wr.cell? ⟨gw,j+1,none⟩=some (.string ⟨y.toArray⟩):=by rw[Nat.zero_add] at ca;exact ca
                have NX2:=Hd (fun(W:World)=>NX W y (List.mem_of_getElem? hy));have hnr:Hid (∀ z,Va y 999999999999999999=some z->0<=z):=Hd fun z hz=>(Qa hz).1
                obtain⟨qn,hqn⟩:∃ qn,Va y 999999999999999999=qn:=⟨_,rfl⟩;rw[hqn] at NX2 HSt hnr;clear hqn NX NW STEP END HN hy ea REP;have jw:IntKind.i64.wrap ((j:Int)+1)=(j:Int)+1:=IntWalk.i64_in _ (by omega);have jw2:IntKind.i64.wrap ((j:Int)+1+1)=(j:Int)+1+1:=IntWalk.i64_in _ (by omega);have j0:(0:Int)<=(j:Int)+1:=by omega
                have jt:((j:Int)+1).toNat=j+1:=by omega
                cases qn with
                | none =>
                 have NX3:Hid (∀ W,Calls Tryz.prog 27 #[.string ⟨y.toArray⟩,.int .i64 999999999999999999] W fun e w'=>e=.returned (.int .i64 (-1))/\Ext W w'):=Hd NX2.out;have e1:=Hd (HF2.out (by rw[HSt.out]));clear NX2 HSt hnr HF2 HS2 SR TR;go_upto_region 32 with(go_at_call 27;refine(NX3.out _).mono ?_;rintro r w6 ⟨rfl,x6⟩);have MM6:=Hd (MRr.out.ext (Ext.tr (a:=wr) XI x6));clear x6 ca ca2 NX3 MRr;have BZf:=Hd (BZ2.out.mod MM6.out (by have:=hne.out;omega));have Xf:=Hd (X2.out.mq MM6.out (by have:=hne.out;omega) (by have:=hne.out;omega) (by have:=hne.out;omega));obtain⟨b0,b1,b2,b3,b4,f0,f1,f2,f3,f4⟩:=Zk BZf.out;obtain⟨w99,hWF,BF,YF⟩:=Zo BZf.out Xf.out hgrw.out (.int .i64 0) (.int .i64 0) (.int .i64 0) (.slice none 0 0) (.slice none 0 0);go_wp2_with (fail);rw[hWF.out];clear hWF;clear b0 b1 b2 b3 b4 f0 f1 f2 f3 f4 ;obtain⟨r0,r1,r2,r3,r4,-⟩:=Zk BF.out;refine bodyPost_ret (v:=.tuple #[.agg #[.int .i64 0,.int .i64 0,.int .i64 0,.slice none 0 0,.slice none 0 0],.int .i64 ((k:Int)+1),.int .i64 8]) (by simp[results,Tryz.results17,go_sem, *]) rfl ?_;rw[e1.out];exact⟨_,rfl,RScrO.zero _ _,YF.out⟩
                | some q =>
                 have hq0:¬q<0:=by have:=hnr.out q rfl;omega
                 have NX3:Hid (∀ W,Calls Tryz.prog 27 #[.string ⟨y.toArray⟩,.int .i64 999999999999999999] W fun e w'=>e=.returned (.int .i64 q)/\Ext W w'):=Hd NX2.out;have HSt2:Hid (Zn ws MS=(Zn (ws.drop (j+1)) (MS.drop (j+1))).map (acc++[q] ++ ·)):=Hd HSt.out;clear NX2 HSt hnr HF2 HS2;go_upto_region 34 with(go_at_call 27;refine(NX3.out _).mono ?_;rintro r w6 ⟨rfl,x6⟩);have Y2:=Ext.tr (a:=wr) XI x6;have S2:=Hd (SR.out.ext Y2);have T2:=Hd (TR.out.ext Y2);have M2:=Hd (MRr.out.ext Y2);have hsz2:w2.heap.size<=w6.heap.size:=Mod.size M2.out;have b3:w6.cell? ⟨go,3,none⟩=some (.slice A2 m6 a2):=by rw[<-hm6.out];exact S2.out.rb.cell 3
                 clear x6 Y2 SR TR MRr ca ca2;have hsum:s.draws.length+(acc.length+1)=m6+1:=by have:=hm6.out;rw[List.length_append] at this;omega
                 go_wp2_with (at_builtin;go_loud (refine Yn _ rfl _ _ rfl w2.heap.size A2 m6 a2 (s.draws++acc) [q] (some ⟨w6.heap.size,0,none⟩) 1 rfl rfl hm6.out.symm ?_ ?_ ?_ ?_ ?_;(exact S2.out.rd.ext ((Ext.rf _).alloc _));(exact .blk (.new (by simp)) rfl);(rw[hm6.out];first | omega | (simp;done) | (simp;omega));(first | omega | (simp;omega));rintro A7 c7 w7 o7 g7 _;have D7:=RsS.draw (n:=q) (S2.out.ext ((Ext.rf w6).alloc (.cells #[.int .i64 q] 3))) (Xy (S2.out.rd.ext ((Ext.rf w6).alloc (.cells #[.int .i64 q] 3))) g7) o7;have b3:w7.cell? ⟨go,3,none⟩=some (.slice A2 m6 a2):=(((S2.out.rb.ext ((Ext.rf w6).alloc (.cells #[.int .i64 q] 3))).modT (Xy (S2.out.rd.ext ((Ext.rf w6).alloc (.cells #[.int .i64 q] 3))) g7) (by decide)).cell 3).trans (by rw[<-hm6.out];rfl);have f3:=(S2.out.rb.ext ((Ext.rf w6).alloc (.cells #[.int .i64 q] 3))).modT (Xy (S2.out.rd.ext ((Ext.rf w6).alloc (.cells #[.int .i64 q] 3))) g7) (by decide) |>.free 3;replace D7:=Hd D7));have hD:=D7.out;simp only at hD;rw[hm6.out] at hD;obtain⟨D1,D2,D3⟩:=hD;rw[List.append_assoc] at D1;have S7:=Hd D1;have X22:Ext w6 (w6.alloc (.cells #[.int .i64 q] 3)):=(Ext.rf w6).alloc _;have T7:=Hd (T2.out.ext X22 |>.modT D3 (by decide));have M7:=Hd ((M2.out.ext X22).tr D2);clear D1 D2 D3 D7 X22 S2 T2 M2 o7 g7 b3 f3;go_roundw
                 case rel=>exact⟨j+1,m6+1,A7,c7,acc++[q],by go_num,by omega,Hd (by have:=hak.out;simp[this]),HSt2,Hd (S7.out.ext XI),Hd (by rw[<-List.append_assoc,List.length_append,hm6.out];rfl),by omega,Hd (T7.out.ext XI),Hd (M7.out.ext XI)⟩
                 case measure=>simp[intOf];omega
               ·have hlt3:¬(j:Int)+1<(nw:Int)+1:=by omega
                have hlt4:¬j+1<nw+1:=by omega
                obtain rfl:j=nw:=by omega
                obtain⟨HS1,HS3,HS4⟩:=HS2.out acc (END.out acc j (by rw[hnw.out];exact Nat.le_refl _) (by rw[ll.out];exact Nat.le_refl _) HN.out);clear NW STEP END HN REP TR HF2 HS2;go_wp2_with (fail);go_roundw
                case rel=>exact⟨k+1,_,_,by go_num,by omega,Hd ⟨_,_,_,_,SR.out.ext XI⟩,HS3,HS4,HS1,Hd (MRr.out.ext XI)⟩
                case measure=>simp[intOf];omega
             ·have q1:(101:Int)<((nw:Int)+1):=by omega
              have q2:101<nw+1:=by omega
              have e1:=Hd (HF.out (by rw[if_neg (fun h=>h100 h.2)]));clear HF HS;have BZf:=Hd (BZ2.out.mod MM4.out (by have:=hne.out;omega));have Xf:=Hd (X2.out.mq MM4.out (by have:=hne.out;omega) (by have:=hne.out;omega) (by have:=hne.out;omega));obtain⟨b0,b1,b2,b3,b4,f0,f1,f2,f3,f4⟩:=Zk BZf.out;obtain⟨w99,hWF,BF,YF⟩:=Zo BZf.out Xf.out hgrw.out (.int .i64 0) (.int .i64 0) (.int .i64 0) (.slice none 0 0) (.slice none 0 0);go_wp2_with (fail);rw[hWF.out];clear hWF;clear b0 b1 b2 b3 b4 f0 f1 f2 f3 f4 ;obtain⟨r0,r1,r2,r3,r4,-⟩:=Zk BF.out;refine bodyPost_ret (v:=.tuple #[.agg #[.int .i64 0,.int .i64 0,.int .i64 0,.slice none 0 0,.slice none 0 0],.int .i64 ((k:Int)+1),.int .i64 8]) (by simp[results,Tryz.results17,go_sem, *]) rfl ?_;rw[e1.out];exact⟨_,rfl,RScrO.zero _ _,YF.out⟩
            ·have FB2:ZP s said x=false:=by rw[FB.out,decide_eq_false hp];rfl
             rw[FB2] at HF;have hp3:(0:Int)<(s.parts.length:Int):=by have:=List.length_pos_iff.2 hp;omega
             have hp4:0<s.parts.length:=List.length_pos_iff.2 hp;have e1:=Hd (HF.out (by simp));clear HF HS;have BZf:=Hd (BZ2.out.mod MMc.out (by have:=hne.out;omega));have Xf:=Hd (X2.out.mq MMc.out (by have:=hne.out;omega) (by have:=hne.out;omega) (by have:=hne.out;omega));obtain⟨b0,b1,b2,b3,b4,f0,f1,f2,f3,f4⟩:=Zk BZf.out;obtain⟨w99,hWF,BF,YF⟩:=Zo BZf.out Xf.out hgrw.out (.int .i64 0) (.int .i64 0) (.int .i64 0) (.slice none 0 0) (.slice none 0 0);go_wp2_with (fail);rw[hWF.out];clear hWF;clear b0 b1 b2 b3 b4 f0 f1 f2 f3 f4 cs c4;obtain⟨r0,r1,r2,r3,r4,-⟩:=Zk BF.out;refine bodyPost_ret (v:=.tuple #[.agg #[.int .i64 0,.int .i64 0,.int .i64 0,.slice none 0 0,.slice none 0 0],.int .i64 ((k:Int)+1),.int .i64 8]) (by simp[results,Tryz.results17,go_sem, *]) rfl ?_;rw[e1.out];exact⟨_,rfl,RScrO.zero _ _,YF.out⟩
          ·skip
           have hwv:YM x=-1:=by unfold YM;rw[if_neg h0,if_neg h1,if_neg h2,if_neg h3]
           rw[hwv];have e0:Zy s said (x::ws)=Yb s said (x::ws):=Xj h0 h1 h2 h3;rw[e0] at HF HS;unfold Yb at HF HS;clear e0 hwv h0 h1 h2 h3;have c0:wc.cell? ⟨go,0,none⟩=some (.int .i64 s.wk):=(RSc.out.rb.cell 0);have c4:wc.cell? ⟨go,4,none⟩=some (.slice B s.parts.length b):=(RSc.out.rb.cell 4);have zgo:=RSc.out.rb.lt;have PA:=Hd (fun(W:World) (X:Ext wc W)=>(show Calls Tryz.prog 26 #[.slice (some ⟨gw,0,none⟩) (nw+1) dw,.int .i64 s.wk] W (W6 (Xi (x::ws) s.wk) W) by have h:=ZcO x ws gw s.wk W ⟨hi1,by omega⟩ (OWc.out.read.ext X) dw (by have:=hnw.out;omega) (fun y hy=>by have:=hx y hy;omega) (by have:=hnw.out;simp;omega);rw[hnw.out] at h;exact h));unfold W6 at PA;obtain⟨PR,hPR⟩:∃ PR,Xi (x::ws) s.wk=PR:=⟨_,rfl⟩;rw[hPR] at PA HF HS;clear hPR hx;obtain⟨i0,hi,hz0,hz1,hz2⟩:=info_parts Vn;replace hi:=Hd hi;replace hz0:=Hd hz0;replace hz1:=Hd hz1;replace hz2:=Hd hz2;go_wp2_with (fail);refine(PA.out _ XI).mono ?_;rintro e w4 ⟨rfl,x4⟩;have X4:=Hd (Ext.tr (a:=wc) XI x4);clear x4 PA c0
           cases PR with
           | none =>
            have e1:=Hd (HF.out rfl);clear HF HS;have X5:Hid (Ext wc (w4.alloc (.cells #[.int .i64 0,.int .i64 0,.int .i64 0,.int .i64 0,.int .i64 0] 50))):=Hd (X4.out.alloc _);have MM5:=Hd (MMc.out.ext X5.out);unfold Zgd VW;simp only[Option.getD_none,Option.isSome_none];go_upto_region 19 with(fail);generalize w4.alloc (.cells #[.int .i64 0,.int .i64 0,.int .i64 0,.int .i64 0,.int .i64 0] 50)=w5 at *;have c4:w5.cell? ⟨go,4,none⟩=some (.slice B s.parts.length b):=Zb X5.out zgo c4;have BZf:=Hd (BZ2.out.mod MM5.out (by have:=hne.out;omega));have Xf:=Hd (X2.out.mq MM5.out (by have:=hne.out;omega) (by have:=hne.out;omega) (by have:=hne.out;omega));obtain⟨b0,b1,b2,b3,b4,f0,f1,f2,f3,f4⟩:=Zk BZf.out;obtain⟨w99,hWF,BF,YF⟩:=Zo BZf.out Xf.out hgrw.out (.int .i64 0) (.int .i64 0) (.int .i64 0) (.slice none 0 0) (.slice none 0 0);go_wp2_with (fail);rw[hWF.out];clear hWF;clear b0 b1 b2 b3 b4 f0 f1 f2 f3 f4 c4;obtain⟨r0,r1,r2,r3,r4,-⟩:=Zk BF.out;refine bodyPost_ret (v:=.tuple #[.agg #[.int .i64 0,.int .i64 0,.int .i64 0,.slice none 0 0,.slice none 0 0],.int .i64 ((k:Int)+1),.int .i64 8]) (by simp[results,Tryz.results17,go_sem, *]) rfl ?_;rw[e1.out];exact⟨_,rfl,RScrO.zero _ _,YF.out⟩
           | some p =>
            simp only at HF HS;obtain⟨k0,k1,k2,k3,k4⟩:=p;simp only[Option.getD_some,Option.isSome_some];unfold VW;simp only;obtain⟨m,hm5⟩:∃ m,Hid (s.parts.length=m):=⟨_,Hd rfl⟩;have hm50:m<=50:=by have:=P50.out;rw[hm5.out] at this;exact this
            rw[hm5.out] at HF HS c4;have X5:Hid (Ext wc (w4.alloc (.cells #[.int .i64 k0,.int .i64 k1,.int .i64 k2,.int .i64 k3,.int .i64 k4] 50))):=Hd (X4.out.alloc _);have BP:Hid (Blk (w4.alloc (.cells #[.int .i64 k0,.int .i64 k1,.int .i64 k2,.int .i64 k3,.int .i64 k4] 50)) w4.heap.size 50 #[.int .i64 k0,.int .i64 k1,.int .i64 k2,.int .i64 k3,.int .i64 k4]):=Hd (.new rfl);have MM5:=Hd (MMc.out.ext X5.out);have RS5:=Hd (RSc.out.ext X5.out);go_upto_region 19 with(fail);generalize w4.alloc (.cells #[.int .i64 k0,.int .i64 k1,.int .i64 k2,.int .i64 k3,.int .i64 k4] 50)=w5 at *;generalize w4.heap.size=gp at *;have c4:w5.cell? ⟨go,4,none⟩=some (.slice B m b):=Zb X5.out zgo c4;clear X4 X5 RSc MMc
            by_cases h50:m=50
            ·have q1:((m:Int)==50)=true:=beq_iff_eq.2 (by omega)
             have e1:=Hd (HF.out (by rw[if_pos (by omega)]));clear HF HS;have BZf:=Hd (BZ2.out.mod MM5.out (by have:=hne.out;omega));have Xf:=Hd (X2.out.mq MM5.out (by have:=hne.out;omega) (by have:=hne.out;omega) (by have:=hne.out;omega));obtain⟨b0,b1,b2,b3,b4,f0,f1,f2,f3,f4⟩:=Zk BZf.out;obtain⟨w99,hWF,BF,YF⟩:=Zo BZf.out Xf.out hgrw.out (.int .i64 0) (.int .i64 0) (.int .i64 0) (.slice none 0 0) (.slice none 0 0);go_wp2_with (fail);rw[hWF.out];clear hWF;clear b0 b1 b2 b3 b4 f0 f1 f2 f3 f4 c4;obtain⟨r0,r1,r2,r3,r4,-⟩:=Zk BF.out;refine bodyPost_ret (v:=.tuple #[.agg #[.int .i64 0,.int .i64 0,.int .i64 0,.slice none 0 0,.slice none 0 0],.int .i64 ((k:Int)+1),.int .i64 8]) (by simp[results,Tryz.results17,go_sem, *]) rfl ?_;rw[e1.out];exact⟨_,rfl,RScrO.zero _ _,YF.out⟩
            ·have q1:((m:Int)==50)=false:=beq_eq_false_iff_ne.2 (by omega)
             obtain⟨HS1,HS2,HS3⟩:=HS.out ({ s with parts:=s.parts++[⟨k0,k1,k2,k3,k4⟩] },said) (by rw[if_neg (by omega)]);have g0:=(BP.out.cell 0);have g1:=(BP.out.cell 1);have g2:=(BP.out.cell 2);have g3:=(BP.out.cell 3);have g4:=(BP.out.cell 4);simp only[List.getElem?_toArray,List.getElem?_cons_zero,List.getElem?_cons_succ] at g0 g1 g2 g3 g4;have o5:Hid (OwV w5 w2.heap.size 50 5 B m b (ZG s.parts)):=Hd (by have h:=RS5.out.rp;rw[hm5.out] at h;exact h);have sz5:w2.heap.size<=w5.heap.size:=Mod.size MM5.out;have X6:Hid (Ext w5 (w5.alloc (.cells #[.int .i64 k0,.int .i64 k1,.int .i64 k2,.int .i64 k3,.int .i64 k4] 50))):=Hd ((Ext.rf w5).alloc _);clear HF HS h50 BP;go_wp2_with (at_builtin;go_loud (refine Zw _ (e:=50) Tryz.underlying23 hi.out hz0.out hz1.out hz2.out (by simp[Value.cells]) (by omega) rfl _ _ rfl w2.heap.size B m b (ZG s.parts) _ 1 1 [.int .i64 k0,.int .i64 k1,.int .i64 k2,.int .i64 k3,.int .i64 k4] rfl rfl (o5.out.ext X6.out) (RdV.blk (.new rfl)).rdC (by rfl) (by simp[Value.oneCell']) (by simp only[maxLen];omega) (by omega) (Nat.le_trans sz5 X6.out.size) ?_;rintro A7 c7 w7 o7 g7 _;have M7:=(o5.out.ext X6.out).grownT g7;have D7:=RsS.part (p:=⟨k0,k1,k2,k3,k4⟩) (RS5.out.ext X6.out) M7 (by rw[hm5.out];exact o7);have B7:=(RS5.out.rb.ext X6.out).modT M7 (by decide);have c4:w7.cell? ⟨go,4,none⟩=some (.slice B m b):=(B7.cell 4).trans (by rw[<-hm5.out];rfl);have f4:=B7.free 4;replace D7:=Hd D7;clear M7 B7));have hD:=D7.out;rw[hm5.out] at hD;obtain⟨D1,D2⟩:=hD;have RS7:=Hd D1;have MM7:=Hd ((MM5.out.ext X6.out).tr D2);clear D1 D2 D7 c4 f4 g0 g1 g2 g3 g4 o7 g7 o5 X6;go_roundw
             case rel=>exact⟨k+1,_,_,by go_num,by omega,Hd ⟨_,_,_,_,RS7.out.ext XI⟩,HS2,HS3,HS1,Hd (MM7.out.ext XI)⟩
             case measure=>simp[intOf];omega
   ·have hlt2:¬(k:Int)<(n:Int):=by omega
    obtain rfl:k=n:=by omega
    have e1:Hid (R=(s,0,0)):=Hd (by rw[HR.out,List.drop_eq_nil_of_le (by rw[hn.out];exact Nat.le_refl _),YV]);obtain⟨A,a,B,b,RS⟩:=RXr.out;have RSH:=Hd RS;have c0:wr.cell? ⟨go,0,none⟩=some (.int .i64 s.wk):=(RS.rb.cell 0);have c1:wr.cell? ⟨go,1,none⟩=some (.int .i64 s.sl):=(RS.rb.cell 1);have c2:wr.cell? ⟨go,2,none⟩=some (.int .i64 s.lv):=(RS.rb.cell 2);have c3:wr.cell? ⟨go,3,none⟩=some (.slice A s.draws.length a):=(RS.rb.cell 3);have c4:wr.cell? ⟨go,4,none⟩=some (.slice B s.parts.length b):=(RS.rb.cell 4);have BZr:=Hd (BZ2.out.mod MM.out (by have:=hne.out;omega));have Xr:=Hd (X2.out.mq MM.out (by have:=hne.out;omega) (by have:=hne.out;omega) (by have:=hne.out;omega));obtain⟨b0,b1,b2,b3,b4,f0,f1,f2,f3,f4⟩:=Zk BZr.out;obtain⟨w99,hWF,BF,YF⟩:=Zo BZr.out Xr.out hgrw.out (.int .i64 s.wk) (.int .i64 s.sl) (.int .i64 s.lv) (.slice A s.draws.length a) (.slice B s.parts.length b);have PO:Hid (RScrO w.heap.size s (.agg (ZV s A a B b)) ((((((wr.setCell ⟨gr,0,none⟩ (.int .i64 s.wk)).setCell ⟨gr,1,none⟩ (.int .i64 s.sl)).setCell ⟨gr,2,none⟩ (.int .i64 s.lv)).setCell ⟨gr,3,none⟩ (.slice A s.draws.length a)).setCell ⟨gr,4,none⟩ (.slice B s.parts.length b)))):=Hd (by
     have MS:ModT 0 [25] wr ((((((wr.setCell ⟨gr,0,none⟩ (.int .i64 s.wk)).setCell ⟨gr,1,none⟩ (.int .i64 s.sl)).setCell ⟨gr,2,none⟩ (.int .i64 s.lv)).setCell ⟨gr,3,none⟩ (.slice A s.draws.length a)).setCell ⟨gr,4,none⟩ (.slice B s.parts.length b))):=(((((ModT.set wr BZr.out (by simp) (Nat.zero_le _) 0 _).tr (ModT.set _ (BZr.out.set 0 _) (by simp) (Nat.zero_le _) 1 _)).tr (ModT.set _ ((BZr.out.set 0 _).set 1 _) (by simp) (Nat.zero_le _) 2 _)).tr (ModT.set _ (((BZr.out.set 0 _).set 1 _).set 2 _) (by simp) (Nat.zero_le _) 3 _)).tr (ModT.set _ ((((BZr.out.set 0 _).set 1 _).set 2 _).set 3 _) (by simp) (Nat.zero_le _) 4 _));exact⟨A,a,B,b,rfl,(RSH.out.rd.more (by have:=X2.out.size;omega)).modT MS (by decide),(RSH.out.rp.more (by have:=X2.out.size;omega)).modT MS (by decide)⟩)
    clear RS RXr HR MM IN P50;go_wp2_with (fail);rw[hWF.out] at PO ⊢;clear hWF;clear b0 b1 b2 b3 b4 f0 f1 f2 f3 f4 c0 c1 c2 c3 c4;obtain⟨r0,r1,r2,r3,r4,-⟩:=Zk BF.out;refine bodyPost_ret (v:=.tuple #[.agg #[.int .i64 s.wk,.int .i64 s.sl,.int .i64 s.lv,.slice A s.draws.length a,.slice B s.parts.length b],.int .i64 0,.int .i64 0]) (by simp[results,Tryz.results17,go_sem, *]) rfl ?_;rw[e1.out];exact⟨_,rfl,PO.out,YF.out⟩
end
end Go.Proofs.YtocfmioihaefoaaGreatDoor
