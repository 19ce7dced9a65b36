/- parts, packed by a program -/
import Derived.Test.YtnbcmiaaleambaaGreatDoorShowTreesP1
import Derived.Lib.VarintBits
set_option maxRecDepth 100000
set_option maxHeartbeats 16000000
set_option linter.all false
namespace Go.Proofs.YtnbcmiaaleambaaGreatDoor
open Go.ChangeAt Go.ChangeShapes Go.Deep Go.RowKit Go.WideShapes
section
def Zi5 (xs:List Int)(n:Nat)(w:World)(e:Ending)(w':World) : Prop:=∃ A c,e=.returned (.slice A (xs.take n).length c)/\OwI w' w.heap.size A c (xs.take n)/\Ext w w'
theorem Zi6 (A:Option Addr)(c:Nat)(xs:List Int)(w:World)(hx:RdI w A xs)(ix:Ints xs)(lx:xs.length<=c)(lc:c<=maxLen) :
  Calls Tryz.prog 11 #[.slice A xs.length c] w (Zi5 xs 70 w):=by
 unfold maxLen at lc;obtain⟨ps,hp,ip,lp,lp',kp,ep⟩:=ZiV 70 hx ix;simp only[Int.cast_ofNat_Int] at ep;have lpd:ps.length<=c:=by omega
 replace hp:=Hd hp;clear hx ix;go_enter Tryz.func11,Tryz.ntmps11;go_wp2_with (at_builtin;refine ZeH _ rfl _ _ rfl w.heap.size _ ps A c rfl rfl ?_ ?_ ?_ ?_ ?_;(first | exact .new (by simp) | exact .drew (.new (by simp)) | exact .alloc (.new (by simp)) _ | exact .drew (.alloc (.new (by simp)) _) | exact .alloc (.alloc (.new (by simp)) _) _ | exact .drew (.alloc (.alloc (.new (by simp)) _) _) | (repeat (first | assumption | (refine Blk.new ?_;(focus (simp;done))) | apply Blk.drew | apply Blk.drewN | apply Blk.alloc)));(first | exact Nat.le_refl _ | omega | (focus (simp;try omega)));(refine hp.out.ext ?_;exact XI);omega;rintro A7 c7 w7 o7 x7;have y7:=Ext.tr (a:=w) XI x7);have kq:=kp.out;exact bodyPost_ret (v:=.slice A7 ps.length c7) (by simp[results,Tryz.results11,go_sem]) rfl ⟨A7,c7,by rw[<-kq],by rw[<-kq];exact o7,y7⟩
def RowsO (w:World)(base:Nat)(us:List Value)(rows:List (List Int)) : Prop :=
 us.length=rows.length/\∀ (i:Nat) (r:List Int),rows[i]?=some r->∃ (A:Option Addr) (c:Nat),us[i]?=some (.slice A r.length c)/\OwI w base A c r
section
variable {w w':World} {base:Nat} {us:List Value} {rows:List (List Int)}
theorem RowsO.nil (w:World)(base:Nat) : RowsO w base [] []:=⟨rfl,fun i r h=>by simp at h⟩
theorem RowsO.ext (h:RowsO w base us rows)(hx:Ext w w') : RowsO w' base us rows :=
 ⟨h.1,fun i r hr=>by obtain⟨A,c,h1,h3⟩:=h.2 i r hr;exact⟨A,c,h1,h3.ext hx⟩⟩
theorem RowsO.more {base':Nat}(h:RowsO w base us rows)(hb:base'<=base) : RowsO w base' us rows :=
 ⟨h.1,fun i r hr=>by obtain⟨A,c,h1,h3⟩:=h.2 i r hr;exact⟨A,c,h1,h3.more hb⟩⟩
theorem RowsO.modT {base':Nat}{ts:List TypeId}(h:RowsO w base us rows)(k:ModT base' ts w w')(ht:3∉ts) : RowsO w' base us rows :=
 ⟨h.1,fun i r hr=>by obtain⟨A,c,h1,h3⟩:=h.2 i r hr;exact⟨A,c,h1,h3.modT k ht⟩⟩
theorem RowsO.snoc (h:RowsO w base us rows){r:List Int}{A:Option Addr}{c:Nat}(ho:OwI w base A c r) : RowsO w base (us++[.slice A r.length c]) (rows++[r]):=by
 obtain⟨h1,h2⟩:=h;refine⟨by simp[h1],fun i q hq=>?_⟩
 by_cases hi:i<rows.length
 ·rw[List.getElem?_append_left hi] at hq
  obtain⟨A',c',q1,q3⟩:=h2 i q hq;exact⟨A',c',by rw[List.getElem?_append_left (by omega)];exact q1,q3⟩
 ·rw[List.getElem?_append_right (by omega)] at hq
  obtain⟨h0,hq⟩:=List.getElem?_eq_some_iff.1 hq;have:i=rows.length:=by simp at h0;omega
  subst this;simp at hq;subst hq;exact⟨A,c,by rw[List.getElem?_append_right (by omega),h1];simp,ho⟩
end
def RowsD (us:List Value) : Prop:=∀ (i j:Nat) (vi vj:Value),i<j->us[i]?=some vi->us[j]?=some vj->∀ b,vi.ownBlock=some b->vj.ownBlock≠some b
theorem RowsD.nil : RowsD []:=fun i j vi vj _ h=>by simp at h
theorem RowsD.snoc {w W:World}{base:Nat}{us:List Value}{rows:List (List Int)}{A:Option Addr}{c:Nat}{r:List Int}(h:RowsD us)(hR:RowsO w base us rows)(ho:OwI W w.heap.size A c r) : RowsD (us++[.slice A r.length c]):=by
 intro i j vi vj hij hi hj b hb e
 by_cases hjl:j<us.length
 ·rw[List.getElem?_append_left hjl] at hj
  rw[List.getElem?_append_left (by omega)] at hi;exact h i j vi vj hij hi hj b hb e
 ·rw[List.getElem?_append_right (by omega)] at hj
  obtain⟨h0,hj⟩:=List.getElem?_eq_some_iff.1 hj;have hj':j=us.length:=by simp at h0;omega
  subst hj';simp at hj;subst hj;rw[List.getElem?_append_left hij] at hi;obtain⟨r',hr'⟩:∃ r',rows[i]?=some r':=⟨rows[i]'(by rw[<-hR.1];exact hij),List.getElem?_eq_getElem _⟩;obtain⟨A',c',q1,q2⟩:=hR.2 i r' hr';rw[hi] at q1;obtain rfl:=Option.some.inj q1;rw[Wu] at hb e;have h1:=(q2.lt b hb).2;have h2:=(ho.lt b e).1;omega
theorem OwV.grownT {w w':World}{base size n c:Nat}{E:TypeId}{A:Option Addr}{xs:List Value}(h:OwV w base E size A n c xs)(hg:w.grownBy w' (bl A)) : ModT base [E] w w':=by
 refine Mod.grown hg fun g hA=>?_
 rcases h.cases with⟨rfl,_⟩ | ⟨g',cur,rfl,hb,hh,_⟩
 ·simp[bl] at hA
 ·simp[bl] at hA
  subst hA;exact⟨hb,cur,_,hh,by simp⟩
theorem Zd {W W':World}(x:Ext W W'){b o:Nat}{v:Value}(hb:b<W.heap.size)(hc:W.cell? ⟨b,o,none⟩=some v) : W'.cell? ⟨b,o,none⟩=some v:=(x.cells.1 _ o hb).trans hc
def InstO (w:World)(base:Nat)(vs:List Value)(i:InstP) : Prop:=∃ (A:Option Addr) (a:Nat) (B:Option Addr) (b:Nat) (C:Option Addr) (c:Nat) (us:List Value),
 vs=[.int .i64 i.kind,.int .i64 i.n,.int .i64 i.cap,.slice A i.weight.length a,.slice B i.value.length b,.slice C i.cost.length c] /\
 OwI w base A a i.weight/\OwI w base B b i.value/\OwV w base 22 1 C i.cost.length c us/\RowsO w base us i.cost
def InstOD (w:World)(base:Nat)(vs:List Value)(i:InstP) : Prop:=∃ (A:Option Addr) (a:Nat) (B:Option Addr) (b:Nat) (C:Option Addr) (c:Nat) (us:List Value),
 vs=[.int .i64 i.kind,.int .i64 i.n,.int .i64 i.cap,.slice A i.weight.length a,.slice B i.value.length b,.slice C i.cost.length c] /\
 OwI w base A a i.weight/\OwI w base B b i.value/\OwV w base 22 1 C i.cost.length c us/\RowsO w base us i.cost/\RowsD us
theorem InstOD.o {w:World}{base:Nat}{vs:List Value}{i:InstP}(h:InstOD w base vs i) : InstO w base vs i:=by
 obtain⟨A,a,B,b,C,c,us,h1,h2,h3,h4,h5,_⟩:=h;exact⟨A,a,B,b,C,c,us,h1,h2,h3,h4,h5⟩
def ZeN (r:List Int) : List Int:=r.take 70
def Vq (rows:List (List Int))(k:Nat) : List (List Int):=(rows.take k).map ZeN
theorem Zgs {rows:List (List Int)}{k:Nat}(hk:k<=rows.length) : (Vq rows k).length=k:=by simp[Vq];omega
theorem ZeO {rows:List (List Int)}{k:Nat}{r:List Int}(h:rows[k]?=some r) : Vq rows (k+1)=Vq rows k++[ZeN r]:=by
 obtain⟨hk,h⟩:=List.getElem?_eq_some_iff.1 h;rw[Vq,Vq,List.take_succ_eq_append_getElem hk,List.map_append,h]
 rfl
def Vr (i:InstP) : InstP:=⟨i.kind,i.n,i.cap,i.weight.take 70,i.value.take 70,Vq i.cost (min i.cost.length 30)⟩
def ZbO (i:InstP)(w:World)(e:Ending)(w':World) : Prop:=∃ vs,e=.returned (.agg (List.toArray vs))/\InstOD w' w.heap.size vs (Vr i)/\Ext w w'
def ZhC (i:InstP)(w:World)(e:Ending)(w':World) : Prop:=∃ vs,e=.returned (.agg (List.toArray vs))/\InstO w' w.heap.size vs (Vr i)/\Ext w w'
section
variable {P:Program} {ops:Array Oper} {i:Nat} {op:Op} {t:TypeId} {d:Option Tmp} {a:Act} {w w':World} {K:Act->World->Prop} {Q:Exit->Act->World->Prop}
theorem Zi7 {T:TypeId}{x0 x1 x2 x3 x4:Operand}(hi:XU ops i=some (none,.build T #[(0,x0),(1,x1),(2,x2),(3,x3),(4,x4)],t,d))(p0 p1 p2 p3 p4:Value)(h0:a.eval x0=p0)(h1:a.eval x1=p1)(h2:a.eval x2=p2)(h3:a.eval x3=p3)(h4:a.eval x4=p4)(v:Value)(hrun:(Instr.build T #[(0,p0),(1,p1),(2,p2),(3,p3),(4,p4)]).run P w=.ok v w')(hK:K (a.put d v) w') : wpOp P ops Q i K a w :=
 Z5 hi v (by simp[Ze,execOp,h0,h1,h2,h3,h4,hrun]) hK
end
theorem Zi8 {w:World}{g base:Nat}{t:TypeId}{a0 a1 a2 a3 a4 a5:Value}(h:Blk w g t #[a0,a1,a2,a3,a4,a5])(hb:base<=g)(u0 u1 u2 u3 u4 u5:Value) :
  Blk ((((((w.setCell ⟨g,0,none⟩ u0).setCell ⟨g,1,none⟩ u1).setCell ⟨g,2,none⟩ u2).setCell ⟨g,3,none⟩ u3).setCell ⟨g,4,none⟩ u4).setCell ⟨g,5,none⟩ u5) g t #[u0,u1,u2,u3,u4,u5] /\
  ModT base [t] w ((((((w.setCell ⟨g,0,none⟩ u0).setCell ⟨g,1,none⟩ u1).setCell ⟨g,2,none⟩ u2).setCell ⟨g,3,none⟩ u3).setCell ⟨g,4,none⟩ u4).setCell ⟨g,5,none⟩ u5):=by
 have h0:=h.set 0 u0;have h1:=h0.set 1 u1;have h2:=h1.set 2 u2;have h3:=h2.set 3 u3;have h4:=h3.set 4 u4;have h5:=h4.set 5 u5;exact⟨h5,(((((ModT.set w h (by simp) hb 0 u0).tr (ModT.set _ h0 (by simp) hb 1 u1)).tr (ModT.set _ h1 (by simp) hb 2 u2)).tr (ModT.set _ h2 (by simp) hb 3 u3)).tr (ModT.set _ h3 (by simp) hb 4 u4)).tr (ModT.set _ h4 (by simp) hb 5 u5)⟩
theorem QO : (Tryz.prog.info? 22).map (fun i=>(i.zero,i.size,i.bytes))=some (some (.slice none 0 0),1,24):=by kernel_rfl
def ZhD (ys:List Int)(w:World)(e:Ending)(w':World) : Prop:=∃ A c,e=.returned (.slice A ys.length c)/\OwI w' w.heap.size A c ys/\Ext w w'
theorem ZaH {xs ys:List Int}(h:ys=xs.take 70)(A:Option Addr)(c:Nat)(w:World)(hx:RdI w A xs)(ix:Ints xs)(lx:xs.length<=c)(lc:c<=maxLen) :
  Calls Tryz.prog 11 #[.slice A xs.length c] w (ZhD ys w):=by subst h;exact Zi6 A c xs w hx ix lx lc
theorem Zgt (vs:List Value)(i:InstP)(w:World)(H:RInst w vs i) :
  Calls Tryz.prog 4 #[.agg (List.toArray vs)] w (ZbO i w):=by
 obtain⟨A,a,B,b,C,c,rfl,⟨rA,iA,lA,mA⟩,⟨rB,iB,lB,mB⟩,⟨rC,lC,mC⟩⟩:=H;obtain⟨xw,exw⟩:∃ xw:List Int,Hid (xw=i.weight.take 70):=⟨_,rfl⟩;obtain⟨xv,exv⟩:∃ xv:List Int,Hid (xv=i.value.take 70):=⟨_,rfl⟩;obtain⟨i0,hi,hz0,hz1,hz2⟩:=info_parts QO;replace hi:=Hd hi;replace hz0:=Hd hz0;replace hz1:=Hd hz1;replace hz2:=Hd hz2;have X:Ext w ((w.alloc (.cells #[.int .i64 i.kind,.int .i64 i.n,.int .i64 i.cap,.slice A i.weight.length a,.slice B i.value.length b,.slice C i.cost.length c] 25)).alloc (.cells #[.int .i64 0,.int .i64 0,.int .i64 0,.slice none 0 0,.slice none 0 0,.slice none 0 0] 25)):=((Ext.rf _).alloc _).alloc _;have B1:Blk ((w.alloc (.cells #[.int .i64 i.kind,.int .i64 i.n,.int .i64 i.cap,.slice A i.weight.length a,.slice B i.value.length b,.slice C i.cost.length c] 25)).alloc (.cells #[.int .i64 0,.int .i64 0,.int .i64 0,.slice none 0 0,.slice none 0 0,.slice none 0 0] 25)) w.heap.size 25 #[.int .i64 i.kind,.int .i64 i.n,.int .i64 i.cap,.slice A i.weight.length a,.slice B i.value.length b,.slice C i.cost.length c]:=.alloc (.new rfl) _;have B2:Blk ((w.alloc (.cells #[.int .i64 i.kind,.int .i64 i.n,.int .i64 i.cap,.slice A i.weight.length a,.slice B i.value.length b,.slice C i.cost.length c] 25)).alloc (.cells #[.int .i64 0,.int .i64 0,.int .i64 0,.slice none 0 0,.slice none 0 0,.slice none 0 0] 25)) (w.heap.size+1) 25 #[.int .i64 0,.int .i64 0,.int .i64 0,.slice none 0 0,.slice none 0 0,.slice none 0 0]:=.new (by simp);replace X:=Hd X;replace B1:=Hd B1;replace B2:=Hd B2;replace rA:=Hd rA;replace rB:=Hd rB;replace rC:=Hd rC;replace iA:=Hd iA;replace iB:=Hd iB;replace mA:=Hd mA;replace mB:=Hd mB;replace mC:=Hd mC;go_enter Tryz.func4,Tryz.ntmps4;go_wp2_with (fail);generalize (w.alloc (.cells #[.int .i64 i.kind,.int .i64 i.n,.int .i64 i.cap,.slice A i.weight.length a,.slice B i.value.length b,.slice C i.cost.length c] 25)).alloc (.cells #[.int .i64 0,.int .i64 0,.int .i64 0,.slice none 0 0,.slice none 0 0,.slice none 0 0] 25)=wr at *;have z1:=B1.out.lt;have zw:=X.out.size;refine wp_region_any (by kernel_rfl) ?_
 change wpAny _ _ _ _ _ _ _ (World.drew _)
 refine Zc (i:=0) (op:=Op.fieldAddr 25 (Operand.tmp 1) 0) (t:=0) (d:=some 5) (v:=_) rfl (by decide +kernel) (fun _ _ _ h=>h) (by intro _;unfold Ze;go_simp;try with_reducible rfl) ?_
 try simp only[lay]
 refine Zc (i:=2) (op:=Op.fieldAddr 25 (Operand.tmp 1) 1) (t:=0) (d:=some 7) (v:=_) rfl (by decide +kernel) (fun _ _ _ h=>h) (by intro _;unfold Ze;go_simp;try with_reducible rfl) ?_
 try simp only[lay]
 refine Zc (i:=4) (op:=Op.fieldAddr 25 (Operand.tmp 1) 2) (t:=0) (d:=some 9) (v:=_) rfl (by decide +kernel) (fun _ _ _ h=>h) (by intro _;unfold Ze;go_simp;try with_reducible rfl) ?_
 try simp only[lay]
 refine Zc (i:=6) (op:=Op.fieldAddr 25 (Operand.tmp 1) 3) (t:=0) (d:=some 11) (v:=_) rfl (by decide +kernel) (fun _ _ _ h=>h) (by intro _;unfold Ze;go_simp;try with_reducible rfl) ?_
 try simp only[lay]
 refine Zc (i:=9) (op:=Op.fieldAddr 25 (Operand.tmp 1) 4) (t:=0) (d:=some 14) (v:=_) rfl (by decide +kernel) (fun _ _ _ h=>h) (by intro _;unfold Ze;go_simp;try with_reducible rfl) ?_
 try simp only[lay]
 refine Wb (n:=1) [(1,some 6),(3,some 8),(5,some 10),(7,some 12),(8,some 13),(10,some 15),(11,some 16),(12,some 17),(13,some 3)] (Ext wr)
  (VF (fun | 1=>some (.int .i64 i.kind) | 3=>some (.int .i64 i.n) | 5=>some (.int .i64 i.cap) | 7=>some (.slice A i.weight.length a) | 10=>some (.slice B i.value.length b) | _=>none)
   (fun j v W=>(j=8->∃ A' c',v=.slice A' xw.length c'/\OwI W wr.heap.size A' c' xw)/\(j=11->∃ A' c',v=.slice A' xv.length c'/\OwI W wr.heap.size A' c' xv)/\(j=12->∃ A' c' B' d',v=.agg #[.int .i64 i.kind,.int .i64 i.n,.int .i64 i.cap,.slice A' xw.length c',.slice B' xv.length d',.slice none 0 0]/\OwI W wr.heap.size A' c' xw/\OwI W wr.heap.size B' d' xv)/\(j=13->∃ h,v=.pointer (some ⟨h,0,none⟩)/\wr.heap.size<=h/\Blk W h 25 #[.int .i64 0,.int .i64 0,.int .i64 0,.slice none 0 0,.slice none 0 0,.slice none 0 0])))
  Ext #[true,true,true,true,true,true,true,true,true,true,true,true,true,true,false] (by kernel_rfl) (VF.stab ?_) ?_ ?_ ((Ext.rf _).drew)
 ·intro j v W W' _ ⟨g8,g11,g12,g13⟩ hx
  refine⟨fun h=>?_,fun h=>?_,fun h=>?_,fun h=>?_⟩
  ·obtain⟨A',c',q1,q2⟩:=g8 h
   exact⟨A',c',q1,q2.ext hx⟩
  ·obtain⟨A',c',q1,q2⟩:=g11 h
   exact⟨A',c',q1,q2.ext hx⟩
  ·obtain⟨A',c',B',d',q1,q2,q3⟩:=g12 h
   exact⟨A',c',B',d',q1,q2.ext hx,q3.ext hx⟩
  ·obtain⟨hh,q1,q2,q3⟩:=g13 h
   exact⟨hh,q1,q2,q3.ext hx⟩
 ·intro pq hpm u w2 hRW hD K hK
  have b2:=B1.out.ext hRW;have r0:=b2.c0;have r1:=b2.c1;have r2:=b2.c2;have r3:=b2.c3;have r4:=b2.c4;have z2:=hRW.size;have xe:=X.out.tr hRW;simp only[List.mem_cons,List.not_mem_nil,or_false] at hpm;rcases hpm with rfl | rfl | rfl | rfl | rfl | rfl | rfl | rfl | rfl
  ·exact Zv (T:=3) rfl (.pointer (some ⟨w.heap.size,0,none⟩)) (by kernel_rfl) (.int .i64 i.kind) (by go_simp) (hK _ _ (VF.mk rfl) hRW (Ext.rf _))
  ·exact Zv (T:=3) rfl (.pointer (some ⟨w.heap.size,1,none⟩)) (by kernel_rfl) (.int .i64 i.n) (by go_simp) (hK _ _ (VF.mk rfl) hRW (Ext.rf _))
  ·exact Zv (T:=3) rfl (.pointer (some ⟨w.heap.size,2,none⟩)) (by kernel_rfl) (.int .i64 i.cap) (by go_simp) (hK _ _ (VF.mk rfl) hRW (Ext.rf _))
  ·exact Zv (T:=22) rfl (.pointer (some ⟨w.heap.size,3,none⟩)) (by kernel_rfl) (.slice A i.weight.length a) (by go_simp) (hK _ _ (VF.mk rfl) hRW (Ext.rf _))
  ·refine YC rfl #[.slice A i.weight.length a] (by go_simp) (Eq.trans (b:=#[u 7]) (by kernel_rfl) (by rw[(hD 7 (Zp (by kernel_rfl))).k rfl])) _ (ZaH exw.out A a w2 (rA.out.ext xe) iA.out lA mA.out) ?_
   rintro e w3 ⟨A3,c3,rfl,o3,x3⟩;exact⟨_,rfl,hK _ _ (VF.mg rfl ⟨fun _=>⟨A3,c3,rfl,o3.more z2⟩,(fun h=>by cases h),(fun h=>by cases h),(fun h=>by cases h)⟩) (hRW.tr x3) x3⟩
  ·exact Zv (T:=22) rfl (.pointer (some ⟨w.heap.size,4,none⟩)) (by kernel_rfl) (.slice B i.value.length b) (by go_simp) (hK _ _ (VF.mk rfl) hRW (Ext.rf _))
  ·refine YC rfl #[.slice B i.value.length b] (by go_simp) (Eq.trans (b:=#[u 10]) (by kernel_rfl) (by rw[(hD 10 (Zp (by kernel_rfl))).k rfl])) _ (ZaH exv.out B b w2 (rB.out.ext xe) iB.out lB mB.out) ?_
   rintro e w3 ⟨A3,c3,rfl,o3,x3⟩;exact⟨_,rfl,hK _ _ (VF.mg rfl ⟨(fun h=>by cases h),fun _=>⟨A3,c3,rfl,o3.more z2⟩,(fun h=>by cases h),(fun h=>by cases h)⟩) (hRW.tr x3) x3⟩
  ·have h1:=(hD 1 (Zp (by kernel_rfl))).k rfl
   have h3:=(hD 3 (Zp (by kernel_rfl))).k rfl;have h5:=(hD 5 (Zp (by kernel_rfl))).k rfl;obtain⟨A3,c3,h8,o8⟩:=((hD 8 (Zp (by kernel_rfl))).g rfl).1 rfl;obtain⟨B3,d3,h11,o11⟩:=((hD 11 (Zp (by kernel_rfl))).g rfl).2.1 rfl;exact Zi7 rfl _ _ _ _ _ (Eq.trans (b:=u 1) (by kernel_rfl) h1) (Eq.trans (b:=u 3) (by kernel_rfl) h3) (Eq.trans (b:=u 5) (by kernel_rfl) h5) (Eq.trans (b:=u 8) (by kernel_rfl) h8) (Eq.trans (b:=u 11) (by kernel_rfl) h11) (.agg #[.int .i64 i.kind,.int .i64 i.n,.int .i64 i.cap,.slice A3 xw.length c3,.slice B3 xv.length d3,.slice none 0 0]) (by go_simp) (hK _ _ (VF.mg rfl ⟨(fun h=>by cases h),(fun h=>by cases h),fun _=>⟨A3,c3,B3,d3,rfl,o8,o11⟩,(fun h=>by cases h)⟩) hRW (Ext.rf _))
  ·refine Z5 rfl (.pointer (some ⟨w2.heap.size,0,none⟩)) (w':=w2.alloc (.cells #[.int .i64 0,.int .i64 0,.int .i64 0,.slice none 0 0,.slice none 0 0,.slice none 0 0] 25)) ?_ (hK _ _ (VF.mg rfl ⟨(fun h=>by cases h),(fun h=>by cases h),(fun h=>by cases h),fun _=>⟨_,rfl,z2,.new rfl⟩⟩) (hRW.alloc _) ((Ext.rf _).alloc _))
   unfold Ze;go_simp
 ·intro u w3 hRW hV
  have h1:=(hV (1,some 6) (by simp)).k rfl;have h3:=(hV (3,some 8) (by simp)).k rfl;have h5:=(hV (5,some 10) (by simp)).k rfl;have h7:=(hV (7,some 12) (by simp)).k rfl;have h10:=(hV (10,some 15) (by simp)).k rfl;obtain⟨_,_,h8,_⟩:=((hV (8,some 13) (by simp)).g rfl).1 rfl;obtain⟨_,_,h11,_⟩:=((hV (11,some 16) (by simp)).g rfl).2.1 rfl;obtain⟨A3,c3,B3,d3,h12,o8,o11⟩:=((hV (12,some 17) (by simp)).g rfl).2.2.1 rfl;obtain⟨h,h13,zh,b13⟩:=((hV (13,some 3) (by simp)).g rfl).2.2.2 rfl;simp only[Zn,h1,h3,h5,h7,h8,h10,h11,h12,h13];have t0:=b13.c0;have t1:=b13.c1;have t2:=b13.c2;have t3:=b13.c3;have t4:=b13.c4;have t5:=b13.c5;have f0:=b13.free 0;have f1:=b13.free 1;have f2:=b13.free 2;have f3:=b13.free 3;have f4:=b13.free 4;have f5:=b13.free 5;replace b13:=Hd b13;replace o8:=Hd o8;replace o11:=Hd o11;clear h1 h3 h5 h7 h8 h10 h11 h12 h13 hV;refine Zl 14 (by kernel_rfl) (Xq rfl (.pointer (some ⟨h,0,none⟩)) (.agg #[.int .i64 i.kind,.int .i64 i.n,.int .i64 i.cap,.slice A3 xw.length c3,.slice B3 xv.length d3,.slice none 0 0]) (by kernel_rfl) (by kernel_rfl) (by go_simp;rfl) ?_);refine wpAny_done (by kernel_rfl) ?_ _;obtain⟨b14,M14⟩:=Zi8 b13.out (base:=wr.heap.size) zh (.int .i64 i.kind) (.int .i64 i.n) (.int .i64 i.cap) (.slice A3 xw.length c3) (.slice B3 xv.length d3) (.slice none 0 0);have FIN:=Hd (And.intro b14 (And.intro (o8.out.modT M14 (by decide)) (And.intro (o11.out.modT M14 (by decide)) (hRW.modT M14 (Nat.le_refl _)))));clear b14 M14 t0 t1 t2 t3 t4 t5 f0 f1 f2 f3 f4 f5 b13 o8 o11 hRW;generalize ((((((w3.setCell ⟨h,0,none⟩ (.int .i64 i.kind)).setCell ⟨h,1,none⟩ (.int .i64 i.n)).setCell ⟨h,2,none⟩ (.int .i64 i.cap)).setCell ⟨h,3,none⟩ (.slice A3 xw.length c3)).setCell ⟨h,4,none⟩ (.slice B3 xv.length d3)).setCell ⟨h,5,none⟩ (.slice none 0 0))=w5 at FIN ⊢;go_simp;obtain⟨b3,o8,o11,x3⟩:=FIN.out;clear FIN;obtain⟨w3,rfl⟩:=Wq w5;have B1':=Hd (B1.out.ext x3);have B2':=Hd (B2.out.ext x3);have X3:=Hd (X.out.tr x3);have zx:=x3.size;have zb2:=B2.out.lt;replace b3:=Hd b3;replace o8:=Hd (o8.more zw);replace o11:=Hd (o11.more zw);clear X B1 B2 x3 rA rB iA iB mA mB;go_wp2_with (fail);go_loopw [4] (fun v wq=>∃ (k:Nat) (C':Option Addr) (cc:Nat) (us:List Value),v=.int .i64 k/\k<=i.cost.length/\k<=30/\Hid (Blk wq h 25 #[.int .i64 i.kind,.int .i64 i.n,.int .i64 i.cap,.slice A3 xw.length c3,.slice B3 xv.length d3,.slice C' k cc])/\Hid (Blk wq w.heap.size 25 #[.int .i64 i.kind,.int .i64 i.n,.int .i64 i.cap,.slice A i.weight.length a,.slice B i.value.length b,.slice C i.cost.length c])/\Hid (Blk wq (w.heap.size+1) 25 #[.int .i64 0,.int .i64 0,.int .i64 0,.slice none 0 0,.slice none 0 0,.slice none 0 0])/\Hid (OwI wq w.heap.size A3 c3 xw)/\Hid (OwI wq w.heap.size B3 d3 xv)/\Hid (OwV wq w.heap.size 22 1 C' k cc us)/\Hid (RowsO wq w.heap.size us (Vq i.cost k))/\Hid (Ext w wq)/\Hid (RowsD us)) (fun v _=>30-(intOf v).toNat)
  case atStart =>
   exact⟨0,none,0,[],rfl,by omega,by omega,b3,B1',B2',o8,o11,OwV.nil _ _ _ _,RowsO.nil _ _,X3,RowsD.nil⟩
  case round =>
   obtain⟨wo,rfl⟩:=Wq wr;clear b3 B1' B2' X3;obtain⟨k,C',cc,us,rfl,hk,hk30,b4,B1,B2,p8,p11,oV,oR,X,oD⟩:=hrel;have zb:=B1.out.lt;have c5:=B1.out.c5
   by_cases hlt:k<i.cost.length/\k<30
   ·obtain⟨h1,h2⟩:=hlt
    obtain⟨b',off,cs,r,rfl,hb,⟨D,d,rfl,hd,id,ld,ld'⟩,_,hcs,hr⟩:=(rC.out.ext X.out (fun cs j h=>by obtain⟨A,c,q1,q2,q3⟩:=h;exact⟨A,c,q1,q2.ext X.out,q3⟩)).at h1;have a0:=hcs 0 _ rfl;rw[Nat.add_zero,Nat.mul_one] at a0;clear hcs;have hsn:=Hd (ZeO hr.out);clear hr;obtain⟨xr,exr⟩:∃ xr:List Int,Hid (xr=r.take 70):=⟨_,rfl⟩;have d5:=b4.out.c5;have zh2:=b4.out.lt;have hbs:∀ (u:World) (A':Option Addr) (c':Nat),(Instr.buildSlice 23 1 #[(0,.slice A' xr.length c')]).run Tryz.prog u=.ok (.slice (some ⟨u.heap.size,0,none⟩) 1 1) (u.alloc (.cells #[.slice A' xr.length c'] 22)):=fun u A' c'=>by go_simp
    replace hbs:=Hd hbs;replace hd:=Hd hd;replace id:=Hd id;replace ld':=Hd ld';unfold maxLen at mC;have mC':=mC.out;clear mC;go_upto_region 5 with(fail);refine wp_region_any (by kernel_rfl) ?_
    change wpAny _ _ _ _ _ _ _ (World.drew _)
    refine Zc (i:=0) (op:=Op.fieldAddr 25 (Operand.tmp 3) 5) (t:=0) (d:=some 29) (v:=_) rfl (by decide +kernel) (fun _ _ _ h=>h) (by intro _;unfold Ze;go_simp;try with_reducible rfl) ?_
    try simp only[lay]
    refine Zc (i:=2) (op:=Op.fieldAddr 25 (Operand.tmp 1) 5) (t:=0) (d:=some 31) (v:=_) rfl (by decide +kernel) (fun _ _ _ h=>h) (by intro _;unfold Ze;go_simp;try with_reducible rfl) ?_
    try simp only[lay]
    refine Zc (i:=4) (op:=Op.move (Operand.tmp 4)) (t:=3) (d:=some 33) (v:=_) rfl (by decide +kernel) (fun _ _ _ h=>h) (by intro _;unfold Ze;go_simp;try with_reducible rfl) ?_
    try simp only[lay]
    refine ZM (n:=3) [(1,some 30),(3,some 32),(5,some 34),(6,some 35),(7,some 36),(8,some 37)] (Ext wo)
     (VF (fun | 1=>some (.slice C' k cc) | 3=>some (.slice (some ⟨b',off,none⟩) i.cost.length c) | 5=>some (.pointer (some ⟨b',off+k,none⟩)) | 6=>some (.slice D r.length d) | _=>none)
      (fun j v W=>(j=7->∃ A' c',v=.slice A' xr.length c'/\OwI W wo.heap.size A' c' xr)/\(j=8->∃ q A' c',v=.slice (some ⟨q,0,none⟩) 1 1/\Blk W q 22 #[.slice A' xr.length c']/\OwI W wo.heap.size A' c' xr)))
     Ext #[true,true,true,true,true,true,true,true,true,false,false,false] (by kernel_rfl) (VF.stab ?_) ?_ ?_ ((Ext.rf _).drew)
    ·intro j v W W' _ ⟨g6,g14⟩ hx
     refine⟨fun h=>?_,fun h=>?_⟩
     ·obtain⟨A',c',q1,q2⟩:=g6 h
      exact⟨A',c',q1,q2.ext hx⟩
     ·obtain⟨q,A',c',q1,q2,q3⟩:=g14 h
      exact⟨q,A',c',q1,q2.ext hx,q3.ext hx⟩
    ·intro pq hpm u w2 hRW hD K hK
     have r5:=Zd hRW zb c5;have rd:=Zd hRW zh2 d5;have ra:=Zd hRW hb a0;have z2:=hRW.size;simp only[List.mem_cons,List.not_mem_nil,or_false] at hpm;rcases hpm with rfl | rfl | rfl | rfl | rfl | rfl
     ·exact Zv (T:=23) rfl (.pointer (some ⟨h,5,none⟩)) (by kernel_rfl) (.slice C' k cc) (by go_simp) (hK _ _ (VF.mk rfl) hRW (Ext.rf _))
     ·exact Zv (T:=23) rfl (.pointer (some ⟨w.heap.size,5,none⟩)) (by kernel_rfl) (.slice (some ⟨b',off,none⟩) i.cost.length c) (by go_simp) (hK _ _ (VF.mk rfl) hRW (Ext.rf _))
     ·have h3:=(hD 3 (Zp (by kernel_rfl))).k rfl
      exact XY (T:=23) rfl _ (.int .i64 (k:Int)) (Eq.trans (b:=u 3) (by kernel_rfl) h3) (by kernel_rfl) (.pointer (some ⟨b',off+k,none⟩)) (by go_simp) (hK _ _ (VF.mk rfl) hRW (Ext.rf _))
     ·have h5:=(hD 5 (Zp (by kernel_rfl))).k rfl
      exact Zv (T:=22) rfl _ (Eq.trans (b:=u 5) (by kernel_rfl) h5) (.slice D r.length d) (by go_simp) (hK _ _ (VF.mk rfl) hRW (Ext.rf _))
     ·refine YC rfl #[.slice D r.length d] (by go_simp) (Eq.trans (b:=#[u 6]) (by kernel_rfl) (by rw[(hD 6 (Zp (by kernel_rfl))).k rfl])) _ (ZaH exr.out D d w2 (hd.out.ext hRW) id.out ld ld'.out) ?_
      rintro e w3 ⟨A3,c3,rfl,o3,x3⟩;exact⟨_,rfl,hK _ _ (VF.mg rfl ⟨fun _=>⟨A3,c3,rfl,o3.more z2⟩,(fun h=>by cases h)⟩) (hRW.tr x3) x3⟩
     ·obtain⟨A3,c3,h8,o3⟩:=((hD 7 (Zp (by kernel_rfl))).g rfl).1 rfl
      exact Vw rfl _ (Eq.trans (b:=u 7) (by kernel_rfl) h8) _ (hbs.out _ _ _) (hK _ _ (VF.mg rfl ⟨(fun h=>by cases h),fun _=>⟨_,A3,c3,rfl,.new rfl,o3.ext ((Ext.rf _).alloc _)⟩⟩) (hRW.alloc _) ((Ext.rf _).alloc _))
    ·intro u w7 hRW hV
     have h1':=(hV (1,some 30) (by simp)).k rfl;have h3':=(hV (3,some 32) (by simp)).k rfl;have h5':=(hV (5,some 34) (by simp)).k rfl;have h6':=(hV (6,some 35) (by simp)).k rfl;obtain⟨_,_,h7',_⟩:=((hV (7,some 36) (by simp)).g rfl).1 rfl;obtain⟨q,A7,c7,h8',b8,o7⟩:=((hV (8,some 37) (by simp)).g rfl).2 rfl;simp only[Zn,h1',h3',h5',h6',h7',h8'];have oV7:=oV.out.ext hRW;have zwo:=X.out.size;have z7:=hRW.size;obtain⟨A4,c4,w4,hrun,o4,g4,_⟩:=VB w7 (e:=22) Tryz.underlying23 hi.out hz0.out hz1.out hz2.out (by simp[Value.cells]) (by omega) w.heap.size 23 C' k cc us (some ⟨q,0,none⟩) 1 1 [.slice A7 xr.length c7] oV7 ((RdV.blk b8).rdC) (by simp) (by simp[Value.oneCell']) (by simp only[maxLen];omega) (by omega) (by omega);have M4:=oV7.grownT g4;have e4:=(b4.out.ext hRW).modT M4 (by decide);have f5:=e4.free 5;have e5:=e4.c5;have M5:ModT w.heap.size [25] w4 (w4.setCell ⟨h,5,none⟩ (.slice A4 (k+1) c4)):=ModT.set w4 e4 (by simp) (by omega) 5 _;have hne:w.heap.size≠h:=by omega
     have hne1:w.heap.size+1≠h:=by omega
     have b5:=e4.set 5 (.slice A4 (k+1) c4);have B15:=((B1.out.ext hRW).modT M4 (by decide)).far (p:=⟨h,5,none⟩) hne (.slice A4 (k+1) c4);have B25:=((B2.out.ext hRW).modT M4 (by decide)).far (p:=⟨h,5,none⟩) hne1 (.slice A4 (k+1) c4);have q8:=((p8.out.ext hRW).modT M4 (by decide)).modT M5 (by decide);have q11:=((p11.out.ext hRW).modT M4 (by decide)).modT M5 (by decide);have oV5:=o4.modT M5 (by decide);have oR5:=((((oR.out.ext hRW).modT M4 (by decide)).modT M5 (by decide)).snoc (((o7.more zwo).modT M4 (by decide)).modT M5 (by decide)));have oD5:=Hd (oD.out.snoc oR.out o7);have X5:=((X.out.tr hRW).modT M4 (Nat.le_refl _)).modT M5 (Nat.le_refl _);rw[show Vq i.cost k++[xr]=Vq i.cost (k+1) by rw[hsn.out,ZeN,exr.out]] at oR5;have FIN:=Hd (And.intro b5 (And.intro B15 (And.intro B25 (And.intro q8 (And.intro q11 (And.intro oV5 (And.intro oR5 X5)))))));clear b5 B15 B25 q8 q11 oV5 oR5 X5 M5 M4 g4 o4 e4 oV7 h1' h3' h5' h6' h7' h8' hV b8 o7 b4 B1 B2 p8 p11 oV oR X;refine Zl 9 (by kernel_rfl) (WQ rfl (.slice C' k cc) (.slice (some ⟨q,0,none⟩) 1 1) (by kernel_rfl) (by kernel_rfl) _ hrun ?_)
     try simp only[lay]
     refine Zc (i:=10) (op:=Op.fieldAddr 25 (Operand.tmp 3) 5) (t:=0) (d:=some 39) (v:=_) rfl (by decide +kernel) (fun _ _ _ h=>h) (by intro _;unfold Ze;go_simp;try with_reducible rfl) ?_
     try simp only[lay]
     refine Zl 11 (by kernel_rfl) (Xq rfl (.pointer (some ⟨h,5,none⟩)) (.slice A4 (k+1) c4) (by kernel_rfl) (by kernel_rfl) (by go_simp;rfl) ?_);refine wpAny_done (by kernel_rfl) ?_ _;clear hrun hRW;generalize w4.setCell ⟨h,5,none⟩ (.slice A4 (k+1) c4)=w5 at FIN ⊢;go_simp;go_wp2_with (fail);go_roundw
     case rel=>exact⟨k+1,A4,c4,_,by go_num,by omega,by omega,FIN.out.1,FIN.out.2.1,FIN.out.2.2.1,FIN.out.2.2.2.1,FIN.out.2.2.2.2.1,FIN.out.2.2.2.2.2.1,FIN.out.2.2.2.2.2.2.1,FIN.out.2.2.2.2.2.2.2,oD5⟩
     case measure=>simp[intOf];omega
   ·have hmin:min i.cost.length 30=k:=by omega
    have h0:=b4.out.c0;have h1:=b4.out.c1;have h2:=b4.out.c2;have h3:=b4.out.c3;have h4:=b4.out.c4;have h5:=b4.out.c5;have t0:=B2.out.c0;have t1:=B2.out.c1;have t2:=B2.out.c2;have t3:=B2.out.c3;have t4:=B2.out.c4;have t5:=B2.out.c5;have f0:=B2.out.free 0;have f1:=B2.out.free 1;have f2:=B2.out.free 2;have f3:=B2.out.free 3;have f4:=B2.out.free 4;have f5:=B2.out.free 5;obtain⟨b6,M6⟩:=Zi8 B2.out (base:=w.heap.size) (by omega) (.int .i64 i.kind) (.int .i64 i.n) (.int .i64 i.cap) (.slice A3 xw.length c3) (.slice B3 xv.length d3) (.slice C' k cc);have e1:=exw.out;have e2:=exv.out;have e3:Vr i=⟨i.kind,i.n,i.cap,xw,xv,Vq i.cost k⟩:=by rw[Vr,hmin,e1,e2]
    have hlen:(Vq i.cost k).length=k:=Zgs hk;have I6:InstOD ((((((wo.setCell ⟨w.heap.size+1,0,none⟩ (.int .i64 i.kind)).setCell ⟨w.heap.size+1,1,none⟩ (.int .i64 i.n)).setCell ⟨w.heap.size+1,2,none⟩ (.int .i64 i.cap)).setCell ⟨w.heap.size+1,3,none⟩ (.slice A3 xw.length c3)).setCell ⟨w.heap.size+1,4,none⟩ (.slice B3 xv.length d3)).setCell ⟨w.heap.size+1,5,none⟩ (.slice C' k cc)) w.heap.size [.int .i64 i.kind,.int .i64 i.n,.int .i64 i.cap,.slice A3 xw.length c3,.slice B3 xv.length d3,.slice C' k cc] (Vr i):=by
     rw[e3];refine⟨A3,c3,B3,d3,C',cc,us,?_,p8.out.modT M6 (by decide),p11.out.modT M6 (by decide),?_,oR.out.modT M6 (by decide),oD.out⟩
     ·simp only[hlen]
     ·simp only[hlen]
      exact oV.out.modT M6 (by decide)
    have FIN:Hid (ZbO i w (.returned (.agg #[.int .i64 i.kind,.int .i64 i.n,.int .i64 i.cap,.slice A3 xw.length c3,.slice B3 xv.length d3,.slice C' k cc])) ((((((wo.setCell ⟨w.heap.size+1,0,none⟩ (.int .i64 i.kind)).setCell ⟨w.heap.size+1,1,none⟩ (.int .i64 i.n)).setCell ⟨w.heap.size+1,2,none⟩ (.int .i64 i.cap)).setCell ⟨w.heap.size+1,3,none⟩ (.slice A3 xw.length c3)).setCell ⟨w.heap.size+1,4,none⟩ (.slice B3 xv.length d3)).setCell ⟨w.heap.size+1,5,none⟩ (.slice C' k cc))):=⟨_,rfl,I6,X.out.modT M6 (Nat.le_refl _)⟩;clear I6 hlen e1 e2 e3 M6 b6 oV oR p8 p11 hmin
    by_cases h1':k<i.cost.length
    ·have h2':¬k<30:=by omega
     go_wp2_with (fail);exact bodyPost_ret (v:=.agg #[.int .i64 i.kind,.int .i64 i.n,.int .i64 i.cap,.slice A3 xw.length c3,.slice B3 xv.length d3,.slice C' k cc]) (by simp[results,Tryz.results4,go_sem, *]) rfl FIN
    ·go_wp2_with (fail)
     exact bodyPost_ret (v:=.agg #[.int .i64 i.kind,.int .i64 i.n,.int .i64 i.cap,.slice A3 xw.length c3,.slice B3 xv.length d3,.slice C' k cc]) (by simp[results,Tryz.results4,go_sem, *]) rfl FIN
theorem ZhE (vs:List Value)(i:InstP)(w:World)(H:RInst w vs i) :
  Calls Tryz.prog 4 #[.agg (List.toArray vs)] w (ZhC i w) :=
 (Zgt vs i w H).mono fun _ _ ⟨vs,h1,h2,h3⟩=>⟨vs,h1,h2.o,h3⟩
end
section
def Vb (n:Int) : Int:=if n<0 then 1 else if 2147483647<n then 5 else 0
theorem Wz (n:Int)(w:World) : Calls Tryz.prog 75 #[.int .i64 n] w fun e w'=>e=.returned (.int .i64 (Vb n))/\Ext w w':=by
 unfold Vb
 by_cases h1:n<0
 ·rw[if_pos h1]
  go_enter Tryz.func75,Tryz.ntmps75;go_wp2_with (fail);exact bodyPost_ret (v:=.int .i64 1) (by simp[results,Tryz.results75,go_sem]) rfl ⟨rfl,XI⟩
 ·rw[if_neg h1]
  by_cases h2:2147483647<n
  ·rw[if_pos h2]
   go_enter Tryz.func75,Tryz.ntmps75;go_wp2_with (fail);exact bodyPost_ret (v:=.int .i64 5) (by simp[results,Tryz.results75,go_sem]) rfl ⟨rfl,XI⟩
  ·rw[if_neg h2]
   go_enter Tryz.func75,Tryz.ntmps75;go_wp2_with (fail);exact bodyPost_ret (v:=.int .i64 0) (by simp[results,Tryz.results75,go_sem]) rfl ⟨rfl,XI⟩
def XJ (k n:Int) : Int:=if k=1 then(if n<1 then 1 else if 64<n then 5 else 0) else if k=2 then(if n<1 then 1 else if 24<n then 5 else 0) else if k=3 then(if n<1 then 1 else if 24<n then 5 else 0) else 14
theorem Zdq (k n cap:Int)(a b c:Value)(w:World) : Calls Tryz.prog 43 #[.agg #[.int .i64 k,.int .i64 n,.int .i64 cap,a,b,c]] w fun e w'=>e=.returned (.int .i64 (XJ k n))/\Ext w w':=by
 unfold XJ
 by_cases k1:k=1
 ·subst k1
  rw[if_pos rfl]
  by_cases h1:n<1
  ·rw[if_pos h1]
   go_enter Tryz.func43,Tryz.ntmps43;go_wp2_with (fail);exact bodyPost_ret (v:=.int .i64 1) (by simp[results,Tryz.results43,go_sem]) rfl ⟨rfl,XI⟩
  ·rw[if_neg h1]
   by_cases h2:64<n
   ·rw[if_pos h2]
    go_enter Tryz.func43,Tryz.ntmps43;go_wp2_with (fail);exact bodyPost_ret (v:=.int .i64 5) (by simp[results,Tryz.results43,go_sem]) rfl ⟨rfl,XI⟩
   ·rw[if_neg h2]
    go_enter Tryz.func43,Tryz.ntmps43;go_wp2_with (fail);exact bodyPost_ret (v:=.int .i64 0) (by simp[results,Tryz.results43,go_sem]) rfl ⟨rfl,XI⟩
 ·rw[if_neg k1]
  by_cases k2:k=2
  ·subst k2
   rw[if_pos rfl]
   by_cases h1:n<1
   ·rw[if_pos h1]
    go_enter Tryz.func43,Tryz.ntmps43;go_wp2_with (fail);exact bodyPost_ret (v:=.int .i64 1) (by simp[results,Tryz.results43,go_sem]) rfl ⟨rfl,XI⟩
   ·rw[if_neg h1]
    by_cases h2:24<n
    ·rw[if_pos h2]
     go_enter Tryz.func43,Tryz.ntmps43;go_wp2_with (fail);exact bodyPost_ret (v:=.int .i64 5) (by simp[results,Tryz.results43,go_sem]) rfl ⟨rfl,XI⟩
    ·rw[if_neg h2]
     go_enter Tryz.func43,Tryz.ntmps43;go_wp2_with (fail);exact bodyPost_ret (v:=.int .i64 0) (by simp[results,Tryz.results43,go_sem]) rfl ⟨rfl,XI⟩
  ·rw[if_neg k2]
   by_cases k3:k=3
   ·subst k3
    rw[if_pos rfl]
    by_cases h1:n<1
    ·rw[if_pos h1]
     go_enter Tryz.func43,Tryz.ntmps43;go_wp2_with (fail);exact bodyPost_ret (v:=.int .i64 1) (by simp[results,Tryz.results43,go_sem]) rfl ⟨rfl,XI⟩
    ·rw[if_neg h1]
     by_cases h2:24<n
     ·rw[if_pos h2]
      go_enter Tryz.func43,Tryz.ntmps43;go_wp2_with (fail);exact bodyPost_ret (v:=.int .i64 5) (by simp[results,Tryz.results43,go_sem]) rfl ⟨rfl,XI⟩
     ·rw[if_neg h2]
      go_enter Tryz.func43,Tryz.ntmps43;go_wp2_with (fail);exact bodyPost_ret (v:=.int .i64 0) (by simp[results,Tryz.results43,go_sem]) rfl ⟨rfl,XI⟩
   ·rw[if_neg k3]
    go_enter Tryz.func43,Tryz.ntmps43;go_wp2_with (fail);exact bodyPost_ret (v:=.int .i64 14) (by simp[results,Tryz.results43,go_sem]) rfl ⟨rfl,XI⟩
def YY : List Int->Int
 | []=>0
 | x::l=>if Vb x=0 then YY l else Vb x
theorem QP (a b:List Int) : YY (a++b)=if YY a=0 then YY b else YY a:=by
 induction a with
 | nil=>rfl
 | cons x l ih =>
  simp only[List.cons_append,YY];split
  ·exact ih
  ·rename_i h
   first | rfl | rw[if_neg h]
def Vc : List Int->List Int->List Int
 | x::xs,y::ys=>x::y::Vc xs ys
 | _,_=>[]
theorem Jp : ∀ (a b c d:List Int),a.length=b.length->Vc (a++c) (b++d)=Vc a b++Vc c d
 | [],[],_,_,_=>by simp[Vc]
 | x::a,y::b,c,d,h=>by
  have:=Jp a b c d (by simpa using h);simp[Vc,this]
 | [],_::_,_,_,h=>by simp at h
 | _::_,[],_,_,h=>by simp at h
def Yc (cap:Int)(xs ys:List Int)(k:Nat) : Int:=YY (cap::Vc (xs.take k) (ys.take k))
theorem Zdr (cap:Int)(xs ys:List Int) : Yc cap xs ys 0=Vb cap:=by
 simp only[Yc,List.take_zero,Vc,YY];split
 ·rename_i h;exact h.symm
 ·rfl
theorem Zds {cap:Int}{xs ys:List Int}{k:Nat}{x y:Int}(hx:xs[k]?=some x)(hy:ys[k]?=some y)(h0:Yc cap xs ys k=0) :
  Yc cap xs ys (k+1)=if Vb x=0 then Vb y else Vb x:=by
 obtain⟨lx,hx⟩:=List.getElem?_eq_some_iff.1 hx;obtain⟨ly,hy⟩:=List.getElem?_eq_some_iff.1 hy;unfold Yc at *;rw[List.take_succ_eq_append_getElem lx,List.take_succ_eq_append_getElem ly,Jp _ _ _ _ (by simp;omega),<-List.cons_append,QP,if_pos h0,hx,hy];simp only[Vc,YY];split
 ·split
  ·rename_i h;exact h.symm
  ·rfl
 ·rfl
theorem Zdt {cap:Int}{xs ys:List Int}{k:Nat}(hl:xs.length=ys.length)(h:Yc cap xs ys k≠0) : Yc cap xs ys xs.length=Yc cap xs ys k:=by
 have e:Vc xs ys=Vc (xs.take k) (ys.take k)++Vc (xs.drop k) (ys.drop k):=by
  rw[<-Jp _ _ _ _ (by simp[hl]),List.take_append_drop,List.take_append_drop]
 unfold Yc at *;rw[List.take_length,hl,List.take_length,e,<-List.cons_append,QP,if_neg h]
theorem ZbP (A B:Option Addr)(a b:Nat)(k cap:Int)(xs ys:List Int)(C:Value)(w:World)(hA:RdI w A xs)(hB:RdI w B ys)(la:xs.length<=a)(ma:a<=maxLen)(lb:ys.length<=b)(mb:b<=maxLen)(hxy:xs.length=ys.length) :
  Calls Tryz.prog 45 #[.agg #[.int .i64 k,.int .i64 xs.length,.int .i64 cap,.slice A xs.length a,.slice B ys.length b,C]] w fun e w'=>e=.returned (.int .i64 (Yc cap xs ys xs.length))/\Ext w w':=by
 unfold maxLen at ma mb;replace hxy:=Hd hxy;have B1:Hid (Blk (w.alloc (.cells #[.int .i64 k,.int .i64 xs.length,.int .i64 cap,.slice A xs.length a,.slice B ys.length b,C] 25)) w.heap.size 25 #[.int .i64 k,.int .i64 xs.length,.int .i64 cap,.slice A xs.length a,.slice B ys.length b,C]):=.new rfl;have X:Hid (Ext w (w.alloc (.cells #[.int .i64 k,.int .i64 xs.length,.int .i64 cap,.slice A xs.length a,.slice B ys.length b,C] 25))):=(Ext.rf _).alloc _;have hC:=Hd (Wz cap);go_enter Tryz.func45,Tryz.ntmps45;go_wp2_with (fail);refine(Wz cap _).mono ?_;rintro e w2 ⟨rfl,x2⟩;go_wp2_with (fail);go_loopw [3,4] (fun e i wr=>∃ j:Nat,i=.int .i64 j/\e=.int .i64 (Yc cap xs ys j)/\j<=xs.length/\Ext w wr/\Hid (Blk wr w.heap.size 25 #[.int .i64 k,.int .i64 xs.length,.int .i64 cap,.slice A xs.length a,.slice B ys.length b,C])) (fun _ i _=>xs.length-(intOf i).toNat)
 case atStart=>exact⟨0,rfl,by rw[Zdr],by omega,Ext.tr (a:=w) XI x2,B1.out.ext x2⟩
 case round =>
  obtain⟨wo,rfl⟩:=Wq wr;obtain⟨j,rfl,rfl,hj,Y,B2⟩:=hrel;have c1:=B2.out.c1;have c3:=B2.out.c3;have c4:=B2.out.c4;have cA:=hA.ext Y;have cB:=hB.ext Y
  by_cases he:Yc cap xs ys j=0
  ·have he':(Yc cap xs ys j==0)=true:=by rw[beq_iff_eq];exact he
   have HE:=Hd he;clear he
   by_cases hlt:j<xs.length
   ·obtain⟨bb,off,x,rfl,_,hc1,hx1,_⟩:=cA.at hlt
    obtain⟨bb',off',y,rfl,_,hc2,hy1,_⟩:=cB.at (k:=j) (by have:=hxy.out;omega);have hlt2:j<ys.length:=by have:=hxy.out;omega
    have S:=Hd (Zds hx1.out hy1.out HE.out);go_wp2_with (fail);refine(Wz x _).mono ?_;rintro e w3 ⟨rfl,x3⟩;have Y3:=Ext.tr Y x3;have B3:=B2.out.ext x3;have c4':=B3.c4;have hc2':=(x3.cells.1 _ (off'+j) (by assumption)).trans hc2
    by_cases hn:Vb x=0
    ·have hn':(Vb x==0)=true:=by rw[beq_iff_eq];exact hn
     have HN:=Hd hn;clear hn;go_wp2_with (fail);refine(Wz y _).mono ?_;rintro e w4 ⟨rfl,x4⟩;have Y4:=Ext.tr Y3 x4;have B4:=Hd (B3.ext x4);have HR:Hid (Yc cap xs ys (j+1)=Vb y):=by
      have h1:=S.out;rw[if_pos HN.out] at h1;exact h1
     clear c1 c3 c4 c4' hc1 hc2 hc2' he' hn';go_wp2;go_roundw
     case rel=>exact⟨j+1,by go_num,by rw[HR.out],by omega,Y4,B4⟩
     case measure=>simp[intOf];omega
    ·have hn':(Vb x==0)=false:=by rw[beq_eq_false_iff_ne];exact hn
     have HR:Hid (Yc cap xs ys (j+1)=Vb x):=by
      have h1:=S.out;rw[if_neg hn] at h1;exact h1
     clear hn;have B4:=Hd B3;clear c1 c3 c4 c4' hc1 hc2 hc2' he' B3;go_wp2;go_roundw
     case rel=>exact⟨j+1,by go_num,by rw[HR.out],by omega,Y3,B4⟩
     case measure=>simp[intOf];omega
   ·obtain rfl:j=xs.length:=by omega
    clear cA cB c3 c4;go_wp2;go_ret;exact⟨rfl,Y⟩
  ·have he':(Yc cap xs ys j==0)=false:=by rw[beq_eq_false_iff_ne];exact he
   have HE:Hid (Yc cap xs ys xs.length=Yc cap xs ys j):=Zdt hxy.out he;clear he cA cB c3 c4
   by_cases hlt:j<xs.length
   ·go_wp2
    go_ret;exact⟨Z3 HE.out.symm,Y⟩
   ·go_wp2
    go_ret;exact⟨Z3 HE.out.symm,Y⟩
def Ug (k:Int)(r c:Nat) : List Int->Int
 | []=>0
 | n::l=>if Vb n=0 then(if k=3/\r=c/\n≠0 then 8 else Ug k r (c+1) l) else Vb n
def Xk (k:Int)(r:Nat) : List (List Int)->Int
 | []=>0
 | row::l=>if Ug k r 0 row=0 then Xk k (r+1) l else Ug k r 0 row
theorem RdE.ints {w:World}{A:Option Addr}{l:List (List Int)}(h:RdE 1 RInts w A l){r:Nat}(hr:r<l.length) :
  ∃ b off B row c,A=some ⟨b,off,none⟩/\b<w.heap.size/\w.cell? ⟨b,off+r,none⟩=some (.slice B row.length c)/\Hid (l[r]?=some row)/\Hid (l.drop r=row::l.drop (r+1))/\RdI w B row/\Ints row/\row.length<=c/\c<=9223372036854775807:=by
 obtain⟨b,off,cs,row,rfl,hb,⟨B,c,rfl,h1,h2,h3,h4⟩,_,hc,he⟩:=h.at hr;have hc0:=hc 0 _ rfl;unfold maxLen at h4;have he':=he.out;refine⟨b,off,B,row,c,rfl,hb,by simpa using hc0,he,?_,h1,h2,h3,h4⟩;obtain⟨hl,hv⟩:=List.getElem?_eq_some_iff.1 he';exact(by rw[List.drop_eq_getElem_cons hl,hv]:l.drop r=row::l.drop (r+1))
theorem Zdu (k n cap:Int)(A B:Value)(C:Option Addr)(c:Nat)(l:List (List Int))(w:World)(hC:RdE 1 RInts w C l)(lc:l.length<=c)(mc:c<=maxLen) :
  Calls Tryz.prog 46 #[.agg #[.int .i64 k,.int .i64 n,.int .i64 cap,A,B,.slice C l.length c]] w fun e w'=>e=.returned (.int .i64 (Xk k 0 l))/\Ext w w':=by
 unfold maxLen at mc;have B1:Hid (Blk (w.alloc (.cells #[.int .i64 k,.int .i64 n,.int .i64 cap,A,B,.slice C l.length c] 25)) w.heap.size 25 #[.int .i64 k,.int .i64 n,.int .i64 cap,A,B,.slice C l.length c]):=.new rfl;go_enter Tryz.func46,Tryz.ntmps46;go_wp2_with (fail);go_loopw [11] (fun i wr=>∃ r:Nat,i=.int .i64 r/\r<=l.length/\Hid (Xk k 0 l=Xk k r (l.drop r))/\Ext w wr/\Hid (Blk wr w.heap.size 25 #[.int .i64 k,.int .i64 n,.int .i64 cap,A,B,.slice C l.length c])) (fun i _=>l.length-(intOf i).toNat)
 case atStart=>exact⟨0,rfl,by omega,by exact rfl,XI,B1⟩
 case round =>
  obtain⟨wo,rfl⟩:=Wq wr;obtain⟨r,rfl,hr,HT,Y,B2⟩:=hrel
  by_cases hlt:r<l.length
  ·obtain⟨b,off,D,row,d,rfl,_,hc1,_,HD,rr,ir,ld,md⟩:=(hC.ext Y fun _ _ h=>h.ext Y).ints hlt
   go_wp2_with (fail);go_loopw [18] (fun i wr=>∃ j:Nat,i=.int .i64 j/\j<=row.length/\Hid (Ug k r 0 row=Ug k r j (row.drop j))/\Ext w wr/\Ext wo wr/\Hid (Blk wr w.heap.size 25 #[.int .i64 k,.int .i64 n,.int .i64 cap,A,B,.slice (some ⟨b,off,none⟩) l.length c])) (fun i _=>row.length-(intOf i).toNat)
   case atStart=>exact⟨0,rfl,by omega,by exact rfl,Y,Ext.rf _,B2⟩
   case round =>
    obtain⟨j,rfl,hj,HJ,Y2,X2,B3⟩:=hrel
    by_cases hlj:j<row.length
    ·obtain⟨bb,off',x,rfl,_,hc2,_,hd2⟩:=(rr.ext X2).at hlj
     go_wp2_with (fail);refine(Wz x _).mono ?_;rintro e w3 ⟨rfl,x3⟩;have Y3:=Ext.tr Y2 x3;have X3:=Ext.tr X2 x3;have B4:=Hd (B3.out.ext x3);have k0:=B4.out.c0
     by_cases hn:Vb x=0
     ·have hn':(Vb x != 0)=false:=by simpa using hn
      have HN:=Hd hn;clear hn hc1 hc2
      by_cases k3:k=3
      ·subst k3
       by_cases hrj:r=j
       ·subst hrj
        by_cases hx:x=0
        ·have hx':(x != 0)=false:=by simpa using hx
         have HR:Hid (Ug 3 r 0 row=Ug 3 r (r+1) (row.drop (r+1))):=by
          have h1:=HJ.out;rw[hd2.out,Ug,if_pos HN.out,if_neg (by simp[hx])] at h1;exact h1
         clear hx;go_wp2;go_roundw
         case rel=>exact⟨r+1,by go_num,by omega,HR,Y3,X3,B4⟩
         case measure=>simp[intOf];omega
        ·have hx':(x != 0)=true:=by simpa using hx
         have HR:Hid (Xk 3 0 l=8):=by
          have h1:=HJ.out;rw[hd2.out,Ug,if_pos HN.out,if_pos ⟨rfl,rfl,hx⟩] at h1;have h2:=HT.out;rw[HD.out,Xk,h1] at h2;exact h2
         clear hx;go_wp2;go_ret;exact⟨Z3 HR.out.symm,Y3⟩
       ·have hrj':((r:Int)==(j:Int))=false:=by rw[beq_eq_false_iff_ne];omega
        have HR:Hid (Ug 3 r 0 row=Ug 3 r (j+1) (row.drop (j+1))):=by
         have h1:=HJ.out;rw[hd2.out,Ug,if_pos HN.out,if_neg (by simp[hrj])] at h1;exact h1
        go_wp2;go_roundw
        case rel=>exact⟨j+1,by go_num,by omega,HR,Y3,X3,B4⟩
        case measure=>simp[intOf];omega
      ·have k3':(k==3)=false:=by rw[beq_eq_false_iff_ne];exact k3
       have HR:Hid (Ug k r 0 row=Ug k r (j+1) (row.drop (j+1))):=by
        have h1:=HJ.out;rw[hd2.out,Ug,if_pos HN.out,if_neg (by simp[k3])] at h1;exact h1
       clear k3;go_wp2;go_roundw
       case rel=>exact⟨j+1,by go_num,by omega,HR,Y3,X3,B4⟩
       case measure=>simp[intOf];omega
     ·have hn':(Vb x != 0)=true:=by simpa using hn
      have HR:Hid (Xk k 0 l=Vb x):=by
       have h1:=HJ.out;rw[hd2.out,Ug,if_neg hn] at h1;have h2:=HT.out;rw[HD.out,Xk,h1,if_neg hn] at h2;exact h2
      clear hn hc1 hc2;go_wp2;go_ret;exact⟨Z3 HR.out.symm,Y3⟩
    ·have hd2:=Xp (xs:=row) (k:=j) (by omega)
     have HR:Hid (Xk k 0 l=Xk k (r+1) (l.drop (r+1))):=by
      have h1:=HJ.out;rw[hd2.out,Ug] at h1;have h2:=HT.out;rw[HD.out,Xk,if_pos h1] at h2;exact h2
     clear hc1;go_wp2;go_roundw
     case rel=>exact⟨r+1,by go_num,by omega,HR,Y2,B3⟩
     case measure=>simp[intOf];omega
  ·have hd:=Xp (xs:=l) (k:=r) (by omega)
   have HR:Hid (Xk k 0 l=0):=by
    have h1:=HT.out;rw[hd.out,Xk] at h1;exact h1
   clear hd;go_wp2;go_ret;exact⟨Z3 HR.out.symm,Y⟩
def WV {α:Type}(p:α->Bool)(k:Nat) : List α->Int
 | []=>-1
 | x::l=>if p x then(k:Int) else WV p (k+1) l
theorem ZaI {α:Type}(p:α->Bool) : ∀ (k:Nat) (l:List α),decide (0<=WV p k l)=l.any p
 | k,[]=>by simp[WV]
 | k,x::l=>by
  unfold WV
  cases h:p x with
  | true=>simp[h]
  | false=>simpa [h] using ZaI p (k+1) l
def ZhF {α:Type}(g:Nat)(lb:Array Value)(enc:α->Value)(p:α->Bool)(xs:List α)(w:World) : Prop :=
 ∀ (W:World) (x:α),x∈xs->Ext w W->Calls Tryz.prog g (#[enc x]++lb) W fun e w'=>e=.returned (.bool (p x))/\Ext W w'
theorem ZhG (g:Nat)(lb:Array Value)(p:Nat->Bool)(eg:∀ args w,(callFunc g args).run Tryz.prog w=.ok (.enter g args) w)(C:Option Addr)(c:Nat)(l:List (List Int))(w:World)(hC:RdE 1 RInts w C l)(lx:l.length<=maxLen)
  (hp:∀ (W:World) (B:Option Addr) (r:List Int) (d:Nat),r∈l->Ext w W->Calls Tryz.prog g (#[.slice B r.length d]++lb) W fun e w'=>e=.returned (.bool (p r.length))/\Ext W w') :
  Calls Tryz.prog 102 #[.slice C l.length c,.func (.func g) #[] lb] w fun e w'=>e=.returned (.int .i64 (WV (fun r:List Int=>p r.length) 0 l))/\Ext w w':=by
 unfold maxLen at lx;go_enter Tryz.func102,Tryz.ntmps102;go_wp2_with (fail);go_loopw [8] (fun i wr=>∃ j:Nat,i=.int .i64 j/\j<=l.length/\Hid (WV (fun r:List Int=>p r.length) 0 l=WV (fun r:List Int=>p r.length) j (l.drop j))/\Ext w wr) (fun i _=>l.length-(intOf i).toNat)
 case atStart=>exact⟨0,rfl,by omega,by exact rfl,Ext.rf _⟩
 case round =>
  obtain⟨j,rfl,hj,HJ,Y⟩:=hrel
  by_cases hlt:j<l.length
  ·obtain⟨b,off,D,row,d,rfl,_,hc1,hx,hd,rr,ir,ld,md⟩:=(hC.ext Y fun _ _ h=>h.ext Y).ints hlt
   have hcall:=hp wr D row d (List.mem_of_getElem? hx.out) Y;clear hp
   cases hq:p row.length with
   | true =>
    rw[hq] at hcall;have HR:Hid (WV (fun r:List Int=>p r.length) 0 l=j):=by
     have h1:=HJ.out;rw[hd.out,WV,if_pos hq] at h1;exact h1
    clear hq;go_wp2_with (go_at_fn g;refine hcall.mono ?_;rintro e w' ⟨rfl,x'⟩);go_ret;exact⟨Z3 HR.out.symm,Ext.tr Y x'⟩
   | false =>
    rw[hq] at hcall;have HR:Hid (WV (fun r:List Int=>p r.length) 0 l=WV (fun r:List Int=>p r.length) (j+1) (l.drop (j+1))):=by
     have h1:=HJ.out;rw[hd.out,WV,if_neg (by simp[hq])] at h1;exact h1
    clear hq;go_wp2_with (go_at_fn g;refine hcall.mono ?_;rintro e w' ⟨rfl,x'⟩);go_roundw
    case rel=>exact⟨j+1,by go_num,by omega,HR,Ext.tr Y x'⟩
    case measure=>simp[intOf];omega
  ·have hd:=Xp (xs:=l) (k:=j) (by omega)
   have HR:Hid (WV (fun r:List Int=>p r.length) 0 l=-1):=by
    have h1:=HJ.out;rw[hd.out,WV] at h1;exact h1
   clear hd hp;go_wp2;go_ret;exact⟨Z3 HR.out.symm,Y⟩
theorem Zdv (g:Nat)(lb:Array Value)(p:Nat->Bool)(eg:∀ args w,(callFunc g args).run Tryz.prog w=.ok (.enter g args) w)(C:Option Addr)(c:Nat)(l:List (List Int))(w:World)(hC:RdE 1 RInts w C l)(lx:l.length<=maxLen)
  (hp:∀ (W:World) (B:Option Addr) (r:List Int) (d:Nat),r∈l->Ext w W->Calls Tryz.prog g (#[.slice B r.length d]++lb) W fun e w'=>e=.returned (.bool (p r.length))/\Ext W w') :
  Calls Tryz.prog 73 #[.slice C l.length c,.func (.func g) #[] lb] w fun e w'=>e=.returned (.bool (l.any fun r=>p r.length))/\Ext w w':=by
 have H:=Hd (ZaI (fun r:List Int=>p r.length) 0 l);go_enter Tryz.func73,Tryz.ntmps73;go_wp2_with (fail);refine(ZhG g lb p eg C c l _ hC lx hp).mono ?_;rintro e w' ⟨rfl,x'⟩;clear hp;go_wp2;go_ret;exact⟨XX H.out,x'⟩
theorem Zdw (B:Option Addr)(m d:Nat)(g:Nat)(n:Int)(cs:Array Value)(w:World)(hg:Blk w g 25 cs)(hn:cs[1]?=some (.int .i64 n)) :
  Calls Tryz.prog 74 (#[.slice B m d]++#[.pointer (some ⟨g,0,none⟩)]) w fun e w'=>e=.returned (.bool ((m:Int) != n))/\Ext w w':=by
 have c1:w.cell? ⟨g,1,none⟩=some (.int .i64 n):=(hg.cell 1).trans hn;replace hg:=Hd hg;replace hn:=Hd hn;go_enter Tryz.func74,Tryz.ntmps74;go_wp2;go_ret;exact⟨rfl,Ext.rf _⟩
theorem JV : ∀ args w,(callFunc 74 args).run Tryz.prog w=.ok (.enter 74 args) w:=enters_of Tryz.func74 (by kernel_rfl) rfl
def Vd (i:InstP) : Bool :=
 if i.kind=1 then((i.weight.length:Int)==i.n)&&((i.value.length:Int)==i.n)&&((i.cost.length:Int)==0)
 else(((i.cost.length:Int)==i.n)&&(i.cap==0)&&decide (i.weight.length+i.value.length=0)) && !(i.cost.any fun r=>(r.length:Int) != i.n)
def Zk (i:InstP) : Int :=
 if XJ i.kind i.n=0 then(if Vd i=true then(if i.kind=1 then Yc i.cap i.weight i.value i.weight.length else Xk i.kind 0 i.cost) else 8) else XJ i.kind i.n
theorem ZaJ (n cap:Int)(A B C:Option Addr)(a b c:Nat)(xs ys:List Int)(l:List (List Int))(w:World) :
  Calls Tryz.prog 44 #[.agg #[.int .i64 1,.int .i64 n,.int .i64 cap,.slice A xs.length a,.slice B ys.length b,.slice C l.length c]] w fun e w'=>e=.returned (.bool (((xs.length:Int)==n)&&((ys.length:Int)==n)&&((l.length:Int)==0)))/\Ext w w':=by
 cases h1:((xs.length:Int)==n)
 ·go_enter Tryz.func44,Tryz.ntmps44
  go_wp2;go_ret;exact⟨rfl,XI⟩
 ·cases h2:((ys.length:Int)==n)
  ·go_enter Tryz.func44,Tryz.ntmps44
   go_wp2;go_ret;exact⟨rfl,XI⟩
  ·cases h3:((l.length:Int)==0)
   ·go_enter Tryz.func44,Tryz.ntmps44
    go_wp2;go_ret;exact⟨rfl,XI⟩
   ·go_enter Tryz.func44,Tryz.ntmps44
    go_wp2;go_ret;exact⟨rfl,XI⟩
theorem ZeP (k n cap:Int)(A B C:Option Addr)(a b c:Nat)(xs ys:List Int)(l:List (List Int))(w:World)(hk:k≠1)(hC:RdE 1 RInts w C l)(lc:l.length<=c)(mc:c<=maxLen)(lx:xs.length<=1000000000)(ly:ys.length<=1000000000) :
  Calls Tryz.prog 44 #[.agg #[.int .i64 k,.int .i64 n,.int .i64 cap,.slice A xs.length a,.slice B ys.length b,.slice C l.length c]] w fun e w'=>e=.returned (.bool ((((l.length:Int)==n)&&(cap==0)&&decide (xs.length+ys.length=0)) && !(l.any fun r=>(r.length:Int) != n)))/\Ext w w':=by
 have B1:Hid (Blk (w.alloc (.cells #[.int .i64 k,.int .i64 n,.int .i64 cap,.slice A xs.length a,.slice B ys.length b,.slice C l.length c] 25)) w.heap.size 25 #[.int .i64 k,.int .i64 n,.int .i64 cap,.slice A xs.length a,.slice B ys.length b,.slice C l.length c]):=.new rfl;have hk':(k==1)=false:=by simpa using hk
 have lm:l.length<=maxLen:=by omega
 replace hC:=Hd hC;replace mc:=Hd mc;replace lm:=Hd lm;clear hk
 cases h1:((l.length:Int)==n)
 ·have h1':((l.length:Int) != n)=true:=by simp only[bne,h1];rfl
  go_enter Tryz.func44,Tryz.ntmps44;go_wp2;go_ret;exact⟨rfl,XI⟩
 ·have h1':((l.length:Int) != n)=false:=by simp only[bne,h1];rfl
  cases h2:(cap==0)
  ·have h2':(cap != 0)=true:=by simp only[bne,h2];rfl
   go_enter Tryz.func44,Tryz.ntmps44;go_wp2;go_ret;exact⟨rfl,XI⟩
  ·have h2':(cap != 0)=false:=by simp only[bne,h2];rfl
   by_cases hs:xs.length+ys.length=0
   ·have hs1:decide (xs.length+ys.length=0)=true:=by simpa using hs
    rw[hs1];have l0:xs.length=0:=by omega
    have l1:ys.length=0:=by omega
    rw[l0,l1] at B1 ⊢;clear hs hs1 l0 l1 lx ly;go_enter Tryz.func44,Tryz.ntmps44;go_wp2_with (fail);refine(Zdv _ _ (fun m=>(m:Int) != n) JV C c l _ (hC.out.ext ((Ext.rf _).alloc _) fun _ _ h=>h.ext ((Ext.rf _).alloc _)) lm.out ?_).mono ?_
    ·intro W D r d _ hx
     exact Zdw D r.length d w.heap.size n _ W (B1.out.ext hx) rfl
    rintro e w' ⟨rfl,x'⟩;go_wp2;go_ret;exact⟨by simp,Ext.tr (a:=w) XI x'⟩
   ·have hs1:decide (xs.length+ys.length=0)=false:=by simpa using hs
    rw[hs1];have hs2:(0:Int)<(xs.length:Int)+(ys.length:Int):=by omega
    clear hs hs1;go_enter Tryz.func44,Tryz.ntmps44;go_wp2;go_ret;exact⟨rfl,XI⟩
theorem Qi {k n:Int}(h:XJ k n=0) : k=1\/k=2\/k=3:=by
 unfold XJ at h;split at h
 ·exact .inl ‹_›
 ·split at h
  ·exact .inr (.inl ‹_›)
  ·split at h
   ·exact .inr (.inr ‹_›)
   ·cases h
theorem Yy (i:InstP)(vs:List Value)(w:World)(H:RInst w vs i)(lw:i.weight.length<=1000000000)(lv:i.value.length<=1000000000) :
  Calls Tryz.prog 19 #[.agg (List.toArray vs)] w fun e w'=>e=.returned (.int .i64 (Zk i))/\Ext w w':=by
 obtain⟨k,n,cap,xs,ys,l⟩:=i;obtain⟨A,a,B,b,C,c,rfl,⟨rA,iA,lA,mA⟩,⟨rB,iB,lB,mB⟩,⟨rC,lC,mC⟩⟩:=H;simp only at *;have B1:Hid (Blk (w.alloc (.cells #[.int .i64 k,.int .i64 n,.int .i64 cap,.slice A xs.length a,.slice B ys.length b,.slice C l.length c] 25)) w.heap.size 25 #[.int .i64 k,.int .i64 n,.int .i64 cap,.slice A xs.length a,.slice B ys.length b,.slice C l.length c]):=.new rfl;replace rA:=Hd rA;replace rB:=Hd rB;replace rC:=Hd rC;replace iA:=Hd iA;replace iB:=Hd iB;replace mA:=Hd mA;replace mB:=Hd mB;replace mC:=Hd mC;have X1:Ext w (w.alloc (.cells #[.int .i64 k,.int .i64 n,.int .i64 cap,.slice A xs.length a,.slice B ys.length b,.slice C l.length c] 25)):=(Ext.rf _).alloc _;replace X1:=Hd X1;go_enter Tryz.func19,Tryz.ntmps19;go_wp2_with (fail);refine(Zdq k n cap _ _ _ _).mono ?_;rintro e w2 ⟨rfl,x2⟩;have X2:=Hd (Ext.tr X1.out x2);have B2:=Hd (B1.out.ext x2);have d0:=B2.out.c0;have d1:=B2.out.c1;have d2:=B2.out.c2;have d3:=B2.out.c3;have d4:=B2.out.c4;have d5:=B2.out.c5
 by_cases hs:XJ k n=0
 ·have hs':(XJ k n != 0)=false:=by simpa using hs
  have qHS:Zk ⟨k,n,cap,xs,ys,l⟩=(if Vd ⟨k,n,cap,xs,ys,l⟩=true then(if k=1 then Yc cap xs ys xs.length else Xk k 0 l) else 8):=by
   unfold Zk;simp only[if_pos hs]
  have HS:=Hd qHS;clear qHS;have kk:=Qi hs;replace hs:=Hd hs;clear x2
  by_cases k1:k=1
  ·subst k1
   have qHS2:Zk ⟨1,n,cap,xs,ys,l⟩=(if (((xs.length:Int)==n)&&((ys.length:Int)==n)&&((l.length:Int)==0))=true then Yc cap xs ys xs.length else 8):=by
    have h1:=HS.out;unfold Vd at h1
    simpa only [if_true] using h1
   have HS2:=Hd qHS2;clear qHS2;clear HS;go_wp2_with (fail);refine(ZaJ n cap A B C a b c xs ys l _).mono ?_;rintro e w3 ⟨rfl,x3⟩;have X3:=Hd (Ext.tr X2.out x3);have B3:=Hd (B2.out.ext x3);have e0:=B3.out.c0;have e1:=B3.out.c1;have e2:=B3.out.c2;have e3:=B3.out.c3;have e4:=B3.out.c4;have e5:=B3.out.c5;clear d0 d1 d2 d3 d4 d5 x3 kk
   cases hh:(((xs.length:Int)==n)&&((ys.length:Int)==n)&&((l.length:Int)==0)) with
   | false =>
    have qHC:Zk ⟨1,n,cap,xs,ys,l⟩=8:=by
     have h1:=HS2.out;rw[hh,if_neg (by decide)] at h1;exact h1
    have HC:=Hd qHC;clear qHC;clear hh;go_wp2;go_ret;exact⟨Z3 HC.out.symm,X3.out⟩
   | true =>
    have qHC:Zk ⟨1,n,cap,xs,ys,l⟩=Yc cap xs ys xs.length:=by
     have h1:=HS2.out;rw[hh,if_pos rfl] at h1;exact h1
    have HC:=Hd qHC;clear qHC;simp only[Bool.and_eq_true,beq_iff_eq] at hh;obtain⟨⟨rfl,hy⟩,hz⟩:=hh;clear HS2;have hyx:Hid (xs.length=ys.length):=by(have:xs.length=ys.length:=by omega);exact this
    clear hy hz;go_wp2_with (fail);refine(ZbP A B a b 1 cap xs ys _ _ (rA.out.ext X3.out) (rB.out.ext X3.out) lA mA.out lB mB.out hyx.out).mono ?_;rintro e w4 ⟨rfl,x4⟩;go_wp2;go_ret;exact⟨Z3 HC.out.symm,Ext.tr X3.out x4⟩
  ·have k1':(k==1)=false:=by simpa using k1
   have qHS2:Zk ⟨k,n,cap,xs,ys,l⟩=(if ((((l.length:Int)==n)&&(cap==0)&&decide (xs.length+ys.length=0)) && !(l.any fun r=>(r.length:Int) != n))=true then Xk k 0 l else 8):=by
    have h1:=HS.out;unfold Vd at h1
    simpa only [if_neg k1] using h1
   have HS2:=Hd qHS2;clear qHS2;clear HS;go_wp2_with (fail);refine(ZeP k n cap A B C a b c xs ys l _ k1 (rC.out.ext X2.out fun _ _ h=>h.ext X2.out) lC mC.out lw lv).mono ?_;rintro e w3 ⟨rfl,x3⟩;have X3:=Hd (Ext.tr X2.out x3);have B3:=Hd (B2.out.ext x3);have e0:=B3.out.c0;have e1:=B3.out.c1;have e2:=B3.out.c2;have e3:=B3.out.c3;have e4:=B3.out.c4;have e5:=B3.out.c5;clear d0 d1 d2 d3 d4 d5 x3 kk k1;generalize ((((l.length:Int)==n)&&(cap==0)&&decide (xs.length+ys.length=0)) && !(l.any fun r=>(r.length:Int) != n))=hh at HS2 ⊢
   cases hh with
   | false =>
    have HC:Hid (Zk ⟨k,n,cap,xs,ys,l⟩=8):=HS2.out;clear HS2;go_wp2;go_ret;exact⟨Z3 HC.out.symm,X3.out⟩
   | true =>
    have HC:Hid (Zk ⟨k,n,cap,xs,ys,l⟩=Xk k 0 l):=HS2.out;clear HS2;go_wp2_with (fail);refine(Zdu k n cap _ _ C c l _ (rC.out.ext X3.out fun _ _ h=>h.ext X3.out) lC mC.out).mono ?_;rintro e w4 ⟨rfl,x4⟩;go_wp2;go_ret;exact⟨Z3 HC.out.symm,Ext.tr X3.out x4⟩
 ·have hs':(XJ k n != 0)=true:=by simpa using hs
  have qHC:Zk ⟨k,n,cap,xs,ys,l⟩=XJ k n:=by
   unfold Zk;simp only[if_neg hs]
  have HC:=Hd qHC;clear qHC;clear hs;go_wp2;go_ret;exact⟨Z3 HC.out.symm,X2.out⟩
theorem QQ {w:World}{D:Option Addr}{co:List (List Int)}(rok:RowsOk co)(hC:RdE 1 RInts w D co){r c:Nat}(hr:r<co.length)(hc:c<co.length) :
  ∃ cb cof rb ro d',D=some ⟨cb,cof,none⟩/\w.cell? ⟨cb,cof+r,none⟩=some (.slice (some ⟨rb,ro,none⟩) co.length d')/\w.cell? ⟨rb,ro+c,none⟩=some (.int .i64 (Za co r c)):=by
 obtain⟨cb,cof,D',row,d',rfl,zb,cD,er,_,rD,iD,ld,md⟩:=hC.ints hr;have lrow:=rok.row row (List.mem_of_getElem? er.out);obtain⟨rb,ro,x,rfl,zx,cx,ex,_⟩:=rD.at (k:=c) (by omega);refine⟨cb,cof,rb,ro,d',rfl,by rw[cD,lrow],?_⟩;rw[cx];unfold Za;rw[getD_some er.out,getD_some ex.out]
theorem ZcL {w:World}{cb cof:Nat}{co:List (List Int)}(rok:RowsOk co)(hC:RdE 1 RInts w (some ⟨cb,cof,none⟩) co){r c:Nat}(hr:r<co.length)(hc:c<co.length) :
  ∃ rb ro d',w.cell? ⟨cb,cof+r,none⟩=some (.slice (some ⟨rb,ro,none⟩) co.length d')/\w.cell? ⟨rb,ro+c,none⟩=some (.int .i64 (Za co r c)):=by
 obtain⟨cb',cof',rb,ro,d',h,h1,h2⟩:=QQ rok hC hr hc;obtain⟨rfl,rfl⟩:cb=cb'/\cof=cof':=by simpa using h
 exact⟨rb,ro,d',h1,h2⟩
theorem Uy {rows:List (List Int)}(ok:RowsOk rows)(a b:Nat)(ha:a<rows.length)(hb:b<rows.length) : 0<=Za rows a b/\Za rows a b<=2147483647:=by
 have e1:rows[a]?=some rows[a]:=List.getElem?_eq_getElem ha;have e2:=ok.row _ (List.getElem_mem ha);have e3:(rows[a])[b]?=some (rows[a])[b]:=List.getElem?_eq_getElem (by omega);unfold Za;rw[getD_some e1,getD_some e3];exact ok.num _ (List.getElem_mem ha) _ (List.getElem_mem _)
def InstInts (i:InstP) : Prop:=Ints i.weight/\Ints i.value/\∀ r∈i.cost,Ints r
theorem RInst.ints {w:World}{vs:List Value}{i:InstP}(h:RInst w vs i) : InstInts i:=by
 obtain⟨A,a,B,b,C,c,rfl,⟨_,h2,_⟩,⟨_,h4,_⟩,⟨h5,_⟩⟩:=h;refine⟨h2,h4,fun r hr=>?_⟩;obtain⟨k,hk,rfl⟩:=List.mem_iff_getElem.1 hr;obtain⟨_,_,_,row,_,_,_,_,he,_,_,hi,_⟩:=h5.ints hk;have h:=he.out;rw[List.getElem?_eq_getElem hk] at h;rw[Option.some.inj h];exact hi
theorem InstInts.copy {i:InstP}(h:InstInts i) : InstInts (Vr i):=by
 refine⟨h.1.take _,h.2.1.take _,fun r hr=>?_⟩;simp only[Vr,Vq,List.mem_map] at hr;obtain⟨q,hq,rfl⟩:=hr;exact(h.2.2 q (List.mem_of_mem_take hq)).take _
theorem InstO.rinst {w:World}{base:Nat}{vs:List Value}{i:InstP}(h:InstO w base vs i)(hi:InstInts i) : RInst w vs i:=by
 obtain⟨A,a,B,b,C,c,us,rfl,h1,h2,h3,h4⟩:=h;refine⟨A,a,B,b,C,c,rfl,⟨h1.read,hi.1,h1.le.1,h1.le.2⟩,⟨h2.read,hi.2.1,h2.le.1,h2.le.2⟩,?_,h3.le.1,h3.le.2⟩;rcases h3.read with h0 | ⟨b',off,cur,hA,hb,hc⟩
 ·left
  have:=h4.1;rw[h0] at this;exact List.eq_nil_of_length_eq_zero this.symm
 ·refine .inr ⟨b',off,hA,(Array.getElem?_eq_some_iff.1 hb).1,fun k r hr=>?_⟩
  obtain⟨A',c',hu,ho⟩:=h4.2 k r hr;refine⟨[.slice A' r.length c'],⟨A',c',rfl,ho.read,hi.2.2 r (List.mem_of_getElem? hr),ho.le.1,ho.le.2⟩,rfl,fun j v hj=>?_⟩
  cases j with
  | zero =>
   simp at hj;subst hj;rw[cell_of_row w b' _ cur _ (0,0) hb]
   simpa using hc k _ hu
  | succ j=>simp at hj
theorem InstO.ext {w w':World}{base:Nat}{vs:List Value}{i:InstP}(h:InstO w base vs i)(x:Ext w w') : InstO w' base vs i:=by
 obtain⟨A,a,B,b,C,c,us,rfl,h1,h2,h3,h4⟩:=h;exact⟨A,a,B,b,C,c,us,rfl,h1.ext x,h2.ext x,h3.ext x,h4.ext x⟩
theorem InstO.modT {w w':World}{base base':Nat}{ts:List TypeId}{vs:List Value}{i:InstP}(h:InstO w base vs i)(k:ModT base' ts w w')(h1:3∉ts)(h2:22∉ts) : InstO w' base vs i:=by
 obtain⟨A,a,B,b,C,c,us,rfl,g1,g2,g3,g4⟩:=h;exact⟨A,a,B,b,C,c,us,rfl,g1.modT k h1,g2.modT k h1,g3.modT k h2,g4.modT k h1⟩
theorem ZaK (i:InstP) : (Vr i).weight.length<=70/\(Vr i).value.length<=70/\(Vr i).cost.length<=30:=by
 refine⟨List.length_take_le _ _,List.length_take_le _ _,?_⟩;simp[Vr,Vq];omega
theorem ZhH {w w2:World}{a0 a1 a2 a3 a4 a5 u0 u1 u2 u3 u4 u5:Value}{j:InstP}{base:Nat}
  (hB:Blk w2 w.heap.size 25 #[a0,a1,a2,a3,a4,a5]) (x:Ext w w2) (hO:InstO w2 base [u0,u1,u2,u3,u4,u5] j) :
  Ext w ((((((w2.setCell ⟨w.heap.size,0,none⟩ u0).setCell ⟨w.heap.size,1,none⟩ u1).setCell ⟨w.heap.size,2,none⟩ u2).setCell ⟨w.heap.size,3,none⟩ u3).setCell ⟨w.heap.size,4,none⟩ u4).setCell ⟨w.heap.size,5,none⟩ u5) /\
  Blk ((((((w2.setCell ⟨w.heap.size,0,none⟩ u0).setCell ⟨w.heap.size,1,none⟩ u1).setCell ⟨w.heap.size,2,none⟩ u2).setCell ⟨w.heap.size,3,none⟩ u3).setCell ⟨w.heap.size,4,none⟩ u4).setCell ⟨w.heap.size,5,none⟩ u5) w.heap.size 25 #[u0,u1,u2,u3,u4,u5] /\
  InstO ((((((w2.setCell ⟨w.heap.size,0,none⟩ u0).setCell ⟨w.heap.size,1,none⟩ u1).setCell ⟨w.heap.size,2,none⟩ u2).setCell ⟨w.heap.size,3,none⟩ u3).setCell ⟨w.heap.size,4,none⟩ u4).setCell ⟨w.heap.size,5,none⟩ u5) base [u0,u1,u2,u3,u4,u5] j:=by
 obtain⟨h1,h2⟩:=Zi8 hB (base:=w.heap.size) (Nat.le_refl _) u0 u1 u2 u3 u4 u5;exact⟨x.modT h2 (Nat.le_refl _),h1,hO.modT h2 (by decide) (by decide)⟩
theorem InstO.six {w:World}{base:Nat}{vs:List Value}{i:InstP}(h:InstO w base vs i) : ∃ A3 l3 c3 A4 l4 c4 A5 l5 c5,vs=[.int .i64 i.kind,.int .i64 i.n,.int .i64 i.cap,.slice A3 l3 c3,.slice A4 l4 c4,.slice A5 l5 c5]:=by
 obtain⟨A,a,B,b,C,c,us,rfl,_⟩:=h;exact⟨_,_,_,_,_,_,_,_,_,rfl⟩
def ZjL (j:InstP)(w:World)(e:Ending)(w':World) : Prop:=∃ vs,e=.returned (.agg (List.toArray vs))/\InstO w' w.heap.size vs j/\Ext w w'
theorem Zi9 {i j:InstP}(hj:j=Vr i)(vs:List Value)(w:World)(H:RInst w vs i) : Calls Tryz.prog 4 #[.agg (List.toArray vs)] w (ZjL j w):=by subst hj;exact ZhE vs i w H
structure SquareOk (i:InstP) : Prop where
 n1:1<=i.n
 n2:i.n<=24
 len:(i.cost.length:Int)=i.n
 row:∀ r∈i.cost,(r.length:Int)=i.n
 num:∀ r∈i.cost,∀ x∈r,0<=x/\x<=2147483647
 w:i.weight=[]
 v:i.value=[]
theorem Zgu {n:Int}(h:Vb n=0) : 0<=n/\n<=2147483647:=by
 unfold Vb at h;split at h
 ·cases h
 ·split at h
  ·cases h
  ·omega
theorem ZbQ : ∀ {l:List Int} {k:Int} {r c:Nat},Ug k r c l=0->∀ x∈l,0<=x/\x<=2147483647
 | [],_,_,_,_,x,hx=>by cases hx
 | n::l,k,r,c,h,x,hx=>by
  unfold Ug at h;split at h
  ·rename_i hn
   split at h
   ·cases h
   ·rcases List.mem_cons.1 hx with rfl | hx
    ·exact Zgu hn
    ·exact ZbQ h x hx
  ·rename_i hn
   exact absurd h hn
theorem ZaL : ∀ {l:List (List Int)} {k:Int} {r:Nat},Xk k r l=0->∀ q∈l,∀ x∈q,0<=x/\x<=2147483647
 | [],_,_,_,q,hq=>by cases hq
 | row::l,k,r,h,q,hq=>by
  unfold Xk at h;split at h
  ·rename_i hr
   rcases List.mem_cons.1 hq with rfl | hq
   ·exact ZbQ hr
   ·exact ZaL h q hq
  ·rename_i hr
   exact absurd h hr
theorem Zt {i:InstP}(h:Zk i=0)(hk:i.kind≠1) : SquareOk i:=by
 unfold Zk at h
 by_cases hs:XJ i.kind i.n=0
 ·rw[if_pos hs] at h
  by_cases hsh:Vd i=true
  ·rw[if_pos hsh,if_neg hk] at h
   unfold Vd at hsh;rw[if_neg hk] at hsh;simp only[Bool.and_eq_true,beq_iff_eq,decide_eq_true_eq,Bool.not_eq_true',List.any_eq_false,bne_iff_ne,ne_eq,Decidable.not_not] at hsh;obtain⟨⟨⟨h1,h2⟩,h3⟩,h4⟩:=hsh;unfold XJ at hs;rw[if_neg hk] at hs;have hn:1<=i.n/\i.n<=24:=by
    split at hs
    ·split at hs
     ·cases hs
     ·split at hs
      ·cases hs
      ·omega
    ·split at hs
     ·split at hs
      ·cases hs
      ·split at hs
       ·cases hs
       ·omega
     ·cases hs
   exact⟨hn.1,hn.2,h1,h4,ZaL h,List.eq_nil_of_length_eq_zero (by omega),List.eq_nil_of_length_eq_zero (by omega)⟩
  ·rw[if_neg hsh] at h
   cases h
 ·rw[if_neg hs] at h
  exact absurd h hs
def Yd (m:Nat) : List Int->Option Nat
 | []=>some m
 | c::p=>if 0<=c/\c<64/\m.testBit c.toNat=true then Yd (YG m c.toNat) p else none
def Ye (n:Nat)(p:List Int) : Option Nat:=if n<p.length then none else Yd (2^n-1) p
theorem Zag (m i:Nat) : YG m i<18446744073709551616:=Qf _ _
def SubN (n m:Nat) : Prop:=m<18446744073709551616/\∀ x∈Zb m,x<n
theorem YM {n:Nat}(h:n<=24) : SubN n (2^n-1):=by
 refine⟨?_,fun x hx=>?_⟩
 ·have:2^n<=2^24:=Nat.pow_le_pow_right (by omega) h
  omega
 ·rw[We (by omega)] at hx
  exact List.mem_range.1 hx
theorem SubN.clr {n m:Nat}(h:SubN n m)(i:Nat) : SubN n (YG m i):=by
 refine⟨Zag _ _,fun x hx=>h.2 x ?_⟩;rw[Wc h.1] at hx;exact(List.mem_filter.1 hx).1
theorem Jq {n:Nat} : ∀ {p:List Int} {m q:Nat},SubN n m->Yd m p=some q->SubN n q
 | [],m,q,h,e=>by
  simp only[Yd,Option.some.injEq] at e;subst e;exact h
 | c::p,m,q,h,e=>by
  unfold Yd at e;split at e
  ·exact Jq (h.clr _) e
  ·cases e
theorem ZP {i:InstP}(h:SquareOk i) : RowsOk i.cost:=by
 have h1:=h.n1;have h2:=h.n2;have h3:=h.len;refine⟨by omega,by omega,fun r hr=>?_,h.num⟩;have:=h.row r hr;omega
def orP (m:Nat) : List Nat->Nat
 | []=>m
 | x::l=>orP (m ||| 2^x) l
theorem ZcM : ∀ (l:List Nat) (m j:Nat),(orP m l).testBit j=(m.testBit j || decide (j∈l))
 | [],m,j=>by simp[orP]
 | x::l,m,j=>by
  rw[orP,ZcM l,Nat.testBit_or,Nat.testBit_two_pow]
  by_cases e:x=j
  ·subst e;simp
  ·have e':¬j=x:=fun h=>e h.symm
   simp[e,e']
theorem Zdx : ∀ (l:List Nat) (m x:Nat),orP m (l++[x])=orP m l ||| 2^x
 | [],m,x=>rfl
 | y::l,m,x=>by rw[List.cons_append,orP,Zdx l,orP]
theorem ZjM {l:List Nat}(h:∀ x∈l,x<64) : orP 0 l<18446744073709551616:=by
 refine Nat.lt_pow_two_of_testBit (n:=64) _ fun i hi=>?_
 rw[ZcM];simp;intro hm;have:=h i hm;omega
theorem ZhI {l:List Nat}{n:Nat}(h:l.Perm (List.range n)) : orP 0 l=2^n-1:=by
 refine Nat.eq_of_testBit_eq fun j=>?_
 rw[ZcM,Nat.testBit_two_pow_sub_one];have:j∈l↔j<n:=by rw[h.mem_iff,List.mem_range]
 simp[this]
theorem Zja (x y:Int)(u:World) : (Op.equalIn 10000 161 (.agg #[.int .u64 x,.int .u64 0]) (.agg #[.int .u64 y,.int .u64 0])).run Tryz.prog u=.ok (x==y) u:=by
 unfold Op.equalIn;simp only[Sem.run_bind,run_underlying Tryz.underlying161,Result.andThen_ok];have e9:List.range' 0 2 1=[0,1]:=rfl;simp only[Std.Legacy.Range.forIn_eq_forIn_range',Std.Legacy.Range.size,Nat.sub_zero,Nat.add_one_sub_one,Nat.div_one,e9,List.forIn_cons,List.forIn_nil]
 by_cases hx:x=y
 ·subst hx
  go_simp
 ·have hx':(x==y)=false:=by simpa using hx
  go_simp
theorem Zgv (A:Option Addr)(c:Nat)(l:List Nat)(hl:∀ x∈l,x<64)(hn:l.length<=1000)(w:World)(hA:RdI w A (Zf l)) :
  Calls Tryz.prog 115 #[.slice A l.length c] w fun e w'=>e=.returned (ZS (orP 0 l))/\Ext w w':=by
 have B0:Hid (Blk ((w.alloc (.cells #[.int .u64 0,.int .u64 0] 161)).alloc (.cells #[.int .u64 0,.int .u64 0] 161)) w.heap.size 161 #[.int .u64 0,.int .u64 0]):=Blk.alloc (.new rfl) _;have B1:Hid (Blk ((w.alloc (.cells #[.int .u64 0,.int .u64 0] 161)).alloc (.cells #[.int .u64 0,.int .u64 0] 161)) (w.heap.size+1) 161 #[.int .u64 ((orP 0 (l.take 0):Nat):Int),.int .u64 0]):=.new (by simp);have X0:Hid (Ext w ((w.alloc (.cells #[.int .u64 0,.int .u64 0] 161)).alloc (.cells #[.int .u64 0,.int .u64 0] 161))):=((Ext.rf w).alloc _).alloc _;have WI:=fun(m i:Nat) (h:m<18446744073709551616) (hi:i<64) (W:World)=>ZaE m i h hi W
 unfold ZS at WI ⊢;replace WI:=Hd WI;replace hA:=Hd hA;replace hl:=Hd hl;go_enter Tryz.func115,Tryz.ntmps115;go_wp2_with (fail);go_loopw [8] (fun i wr=>∃ k:Nat,i=.int .i64 k/\k<=l.length/\Hid (Blk wr (w.heap.size+1) 161 #[.int .u64 ((orP 0 (l.take k):Nat):Int),.int .u64 0])/\Hid (Blk wr w.heap.size 161 #[.int .u64 0,.int .u64 0])/\Hid (Ext w wr)) (fun i _=>l.length-(intOf i).toNat)
 case atStart=>exact⟨0,rfl,by omega,B1,B0,X0⟩
 case round =>
  clear B0 B1 X0;obtain⟨wo,rfl⟩:=Wq wr;obtain⟨k,rfl,hk,B1,B0,X0⟩:=hrel
  by_cases hlt:k<l.length
  ·obtain⟨b,off,x,rfl,zb,cx,ex,_⟩:=(hA.out.ext X0.out).at (k:=k) (by rw[Zh];exact hlt)
   obtain⟨y,hy⟩:∃ y,Hid (l[k]?=some y):=⟨l[k],List.getElem?_eq_getElem hlt⟩;obtain rfl:x=(y:Int):=by
    have h1:=ex.out;simp only[Zf,List.getElem?_map,hy.out,Option.map_some,Option.some.injEq] at h1;exact h1.symm
   have hy64:=hl.out y (List.mem_of_getElem? hy.out);have hm:=ZjM (l:=l.take k) (fun x hx=>hl.out x (List.mem_of_mem_take hx));have HS:orP 0 (l.take (k+1))=orP 0 (l.take k) ||| 2^y:=by
    rw[List.take_add_one,hy.out];exact Zdx _ _ _
   have HW:=Hd (WI.out (orP 0 (l.take k)) y hm hy64);rw[<-HS] at HW;clear HS hm hy64 ex;generalize orP 0 (l.take k)=m at *;obtain⟨m2,hm2⟩:∃ m2,Hid (orP 0 (l.take (k+1))=m2):=⟨_,rfl⟩;rw[hm2.out] at HW;have c0:=B1.out.c0;have c1:=B1.out.c1;have q1:(k:Int)<(l.length:Int):=by omega
   go_wp2_with (fail);refine(HW.out _).mono ?_;rintro e w1 ⟨rfl,x1⟩;have b1:=B1.out.ext x1;have d0:=b1.c0;have d1:=b1.c1;have f0:=b1.free 0;have f1:=b1.free 1;have B1':=Hd ((b1.set 0 (.int .u64 m2)).set 1 (.int .u64 0));have B0':=Hd (((B0.out.ext x1).far (p:=⟨w.heap.size+1,0,none⟩) (by simp) (.int .u64 m2)).far (p:=⟨w.heap.size+1,1,none⟩) (by simp) (.int .u64 0));have X1:=Hd (((X0.out.tr x1).setNew (p:=⟨w.heap.size+1,0,none⟩) (by simp) (.int .u64 m2)).setNew (p:=⟨w.heap.size+1,1,none⟩) (by simp) (.int .u64 0));clear b1 x1 B0 B1 X0 c0 c1;go_wp2_with (fail);go_roundw
   case rel=>exact⟨k+1,by go_num,by omega,by rw[hm2.out];exact B1',B0',X1⟩
   case measure=>simp[intOf];omega
  ·obtain rfl:k=l.length:=by omega
   rw[List.take_length] at B1;obtain⟨m,hm⟩:∃ m,Hid (orP 0 l=m):=⟨_,rfl⟩;rw[hm.out] at B1;have c0:=B1.out.c0;have c1:=B1.out.c1;have r0:=B0.out.c0;have r1:=B0.out.c1;have g0:=B0.out.free 0;have g1:=B0.out.free 1;go_wp2_with (fail);refine bodyPost_ret (v:=.agg #[.int .u64 m,.int .u64 0]) (by simp[results,Tryz.results115,go_sem, *]) rfl ⟨by rw[hm.out],?_⟩;exact(X0.out.setNew (p:=⟨w.heap.size,0,none⟩) (by simp) _).setNew (p:=⟨w.heap.size,1,none⟩) (by simp) _
theorem ZbR (A:Option Addr)(c n:Nat)(l:List Nat)(hl:l.Perm (List.range n))(hn:n<64)(w:World)(hA:RdI w A (Zf l)) :
  Calls Tryz.prog 100 #[.slice A n c,.int .i64 n] w fun e w'=>e=.returned (.bool true)/\Ext w w':=by
 have lk:l.length=n:=by rw[hl.length_eq,List.length_range]
 have OF:=fun(W:World) (x:Ext w W)=>Zgv A c l (fun x hx=>by have:=List.mem_range.1 (hl.mem_iff.1 hx);omega) (by omega) W (hA.ext x)
 have FU:=fun(W:World)=>Ux n hn W
 rw[ZhI hl,lk] at OF;clear lk hl hA;unfold ZS at OF FU;generalize 2^n-1=m at *;have EQ:=fun u:World=>Zja (m:Int) (m:Int) u
 simp only[beq_self_eq_true] at EQ;have en:((n:Int)==(n:Int))=true:=by simp
 replace OF:=Hd OF;replace FU:=Hd FU;go_enter Tryz.func100,Tryz.ntmps100;go_wp2_with (fail);refine(OF.out _ XI).mono ?_;rintro e w1 ⟨rfl,x1⟩;go_wp2_with (fail);refine(FU.out _).mono ?_;rintro e w2 ⟨rfl,x2⟩;have X2:=Hd (Ext.tr (Ext.tr (a:=w) XI x1) x2);clear x1 x2;go_wp2_with (fail);go_ret;exact⟨rfl,X2.out⟩
def Uz (rows:List (List Int))(l:List Nat)(k:Nat) : Int:=Zg ((List.range k).map fun j=>Za rows j (l.getD j 0))
theorem ZeQ (rows:List (List Int))(l:List Nat)(k:Nat) : Uz rows l (k+1)=Uz rows l k+Za rows k (l.getD k 0):=by
 unfold Uz;rw[List.range_succ,List.map_append,JR];simp[Zg]
theorem ZeR (i:InstP)(us:List Value)(P:Option Addr)(c:Nat)(l:List Nat)(w:World)(H:RInst w us i)(hc:Zk i=0)(hk:i.kind=2)(hP:RdI w P (Zf l))(hl:l.Perm (List.range i.cost.length)) :
  Calls Tryz.prog 70 #[.agg (List.toArray us),.slice P i.cost.length c] w fun e w'=>e=.returned (.tuple #[.int .i64 (ZK i.cost (Zf l)),.int .i64 0])/\Ext w w':=by
 have sq:=Zt hc (by omega);have rok:=ZP sq;have CH:=fun(W:World) (x:Ext w W)=>Yy i us W (H.ext x) (by rw[sq.w];simp) (by rw[sq.v];simp)
 have lk:l.length=i.cost.length:=by rw[hl.length_eq,List.length_range]
 have OY:=fun(W:World) (x:Ext w W)=>ZbR P c i.cost.length l hl (by have:=rok.n2;omega) W (hP.ext x)
 have CF:Hid (ZK i.cost (Zf l)=Uz i.cost l i.cost.length):=Hd (by rw[Uv lk.symm,lk];rfl);have hln:=sq.len;rw[hc] at CH;obtain⟨kind,nn,cap,xw,xv,co⟩:=i;obtain⟨A,a,B,b,D,d,rfl,-,-,hC,-⟩:=H;simp only at *;subst hk;have n1:=rok.n1;have n2:=rok.n2;obtain⟨n,hn⟩:∃ n,co.length=n:=⟨_,rfl⟩;rw[hn] at CH OY CF lk hln hl n1 n2 ⊢;have lt:∀ k,k<n->l.getD k 0<n:=fun k hk=>by
  have h1:l[k]?=some (l[k]'(by omega)):=List.getElem?_eq_getElem _;rw[getD_some h1];exact List.mem_range.1 (hl.mem_iff.1 (List.getElem_mem _))
 have CA:=fun(W:World) (x:Ext w W) (r c:Nat) (hr:r<n) (hc:c<n)=>QQ rok (hC.ext x fun _ _ h=>h.ext x) (r:=r) (c:=c) (by omega) (by omega)
 rw[hn] at CA;have EB:=fun r c (hr:r<n) (hc:c<n)=>Uy rok r c (by omega) (by omega)
 have B1:Hid (Blk (w.alloc (.cells #[.int .i64 2,.int .i64 nn,.int .i64 cap,.slice A xw.length a,.slice B xv.length b,.slice D n d] 25)) w.heap.size 25 #[.int .i64 2,.int .i64 nn,.int .i64 cap,.slice A xw.length a,.slice B xv.length b,.slice D n d]):=.new rfl;subst hln;replace CH:=Hd CH;replace OY:=Hd OY;replace CA:=Hd CA;replace EB:=Hd EB;replace hP:=Hd hP;replace lk:=Hd lk;replace lt:=Hd lt;replace hn:=Hd hn;clear hc hl hC rok sq;go_enter Tryz.func70,Tryz.ntmps70;go_wp2_with (fail);refine(CH.out _ XI).mono ?_;rintro e w1 ⟨rfl,x1⟩;have X1:=Hd (Ext.tr (a:=w) XI x1);have b1:=Hd (B1.out.ext x1);have t0:=b1.out.c0;have t1:=b1.out.c1;clear x1 B1;go_wp2_with (fail);refine(OY.out _ (X1.out.tr XI)).mono ?_;rintro e w2 ⟨rfl,x2⟩;have X2:=Hd (X1.out.tr (Ext.tr XI x2));have b2:=Hd (b1.out.ext (Ext.tr XI x2));have s0:=b2.out.c0;clear x2 b1 X1 t0 t1;go_wp2_with (fail);go_loopw [7,44] (fun sv i wr=>∃ k:Nat,i=.int .i64 k/\sv=.int .i64 (Uz co l k)/\k<=n/\Hid (0<=Uz co l k/\Uz co l k<=k*2147483647)/\Hid (Ext w2 wr)) (fun _ i _=>n-(intOf i).toNat)
 case atStart=>exact⟨0,rfl,rfl,by omega,⟨Int.le_refl _,by simp[Uz,Zg]⟩,Ext.rf _⟩
 case round =>
  clear s0;obtain⟨wo,rfl⟩:=Wq wr;obtain⟨k,rfl,rfl,hk,BD,X3⟩:=hrel
  by_cases hlt:k<n
  ·obtain⟨y,hy⟩:∃ y,Hid (l.getD k 0=y):=⟨_,rfl⟩
   have yn:y<n:=by rw[<-hy.out];exact lt.out k hlt
   obtain⟨pb,po,x,rfl,zp,cp,ex,_⟩:=((hP.out.ext X2.out).ext X3.out).at (k:=k) (by rw[Zh,lk.out];exact hlt);obtain rfl:x=(y:Int):=by
    have h1:=ex.out;have h2:l[k]?=some (l[k]'(by rw[lk.out];exact hlt)):=List.getElem?_eq_getElem _;have h3:=hy.out;rw[getD_some h2] at h3;simp only[Zf,List.getElem?_map,h2,Option.map_some,Option.some.injEq,h3] at h1;exact h1.symm
   obtain⟨cb,cof,rb,ro,d',rfl,k1,k2⟩:=CA.out wo (X2.out.tr X3.out) k y hlt yn;have eb:=EB.out k y hlt yn;have HK:Hid (Uz co l (k+1)=Uz co l k+Za co k y):=Hd (by rw[ZeQ,hy.out]);have b3:=b2.out.ext X3.out;have s0:=b3.c0;have s5:=b3.c5;obtain⟨b0,b1⟩:=BD.out;generalize Uz co l k=su at *;generalize Za co k y=cv at *;have wv:IntKind.i64.wrap (su+cv)=su+cv:=IntWalk.i64_in _ (by omega);have q1:(k:Int)<(n:Int):=by omega
   have q2:(y:Int)<(n:Int):=by omega
   have bd2:0<=su+cv/\su+cv<=((k+1:Nat):Int)*2147483647:=by omega
   replace bd2:=Hd bd2;clear b0 b1 eb BD b3 ex;go_wp2_with (fail);go_roundw
   case rel=>exact⟨k+1,by go_num,by rw[HK.out],by omega,by rw[HK.out];exact bd2,X3.out.tr XI⟩
   case measure=>simp[intOf];omega
  ·obtain rfl:k=n:=by omega
   go_wp2_with (fail);go_ret2;exact⟨by rw[CF.out];rfl,X2.out.tr X3.out⟩
def Vs (x:List Int)(n:Nat) : Bool:=decide (x.length=n/\∀ k,k<n->x.count (k:Int)=1)
theorem UA : ∀ {r x:List Int},r.Nodup->(∀ y∈r,y∈x)->r.length=x.length->r.Perm x
 | [],x,_,_,hl=>by rw[List.eq_nil_of_length_eq_zero hl.symm]
 | a::r,x,hd,hs,hl=>by
  obtain⟨h1,h2⟩:=List.nodup_cons.1 hd;have ha:a∈x:=hs a (by simp);have hp:=List.perm_cons_erase ha;have ih:=UA (r:=r) (x:=x.erase a) h2 (fun y hy=>by
   have hne:y≠a:=fun e=>h1 (e ▸ hy)
   exact(List.mem_erase_of_ne hne).2 (hs y (by simp[hy]))) (by
   have:=hp.length_eq;simp only[List.length_cons] at this hl;omega)
  exact(ih.cons a).trans hp.symm
theorem UB {k:Int} : ∀ {l:List Int},l.Nodup->k∈l->l.count k=1
 | [],_,h=>by cases h
 | x::l,hd,h=>by
  have hd':=List.nodup_cons.1 hd
  by_cases e:x=k
  ·subst e
   rw[List.count_cons_self,List.count_eq_zero.2 hd'.1]
  ·rw[List.count_cons_of_ne e]
   rcases List.mem_cons.1 h with h | h
   ·exact absurd h.symm e
   ·exact UB hd'.2 h
theorem VJ {x:List Int}{n:Nat} : Vs x n=true↔∃ l:List Nat,x=Zf l/\l.Perm (List.range n):=by
 unfold Vs;rw[decide_eq_true_iff]
 constructor
 ·rintro ⟨h1,h2⟩
  have hsub:Zf (List.range n) ⊆ x:=fun y hy=>by
   obtain⟨k,hk,rfl⟩:=List.mem_map.1 hy;have:=h2 k (List.mem_range.1 hk);exact List.count_pos_iff.1 (by omega)
  have hnd:(Zf (List.range n)).Nodup:=by
   unfold Zf;refine List.pairwise_map.2 (List.nodup_range.imp ?_);intro a b hab e;exact hab (by omega)
  have hp:(Zf (List.range n)).Perm x:=UA hnd (fun y hy=>hsub hy) (by rw[Zh,List.length_range];omega);refine⟨x.map Int.toNat,?_,?_⟩
  ·unfold Zf
   rw[List.map_map];refine(List.map_id x).symm.trans (List.map_congr_left fun y hy=>?_);obtain⟨k,_,rfl⟩:=List.mem_map.1 (hp.mem_iff.2 hy);simp
  ·have:=hp.symm.map Int.toNat
   refine this.trans ?_;unfold Zf;rw[List.map_map];have e:(List.range n).map (Int.toNat ∘ fun n:Nat=>(n:Int))=List.range n:=by
    refine(List.map_congr_left fun k _=>?_).trans (List.map_id _);simp
   rw[e]
 ·rintro ⟨l,rfl,hl⟩
  refine⟨by rw[Zh,hl.length_eq,List.length_range],fun k hk=>?_⟩;have h1:(Zf l).Perm (Zf (List.range n)):=hl.map _;rw[h1.count_eq];have hm:(k:Int)∈Zf (List.range n):=List.mem_map.2 ⟨k,List.mem_range.2 hk,rfl⟩;have hnd:(Zf (List.range n)).Nodup:=by
   unfold Zf;refine List.pairwise_map.2 (List.nodup_range.imp ?_);intro a b hab e;exact hab (by omega)
  exact UB hnd hm
def QR (m q:Nat) : Value:=.agg #[.int .u64 m,.int .u64 q]
theorem Zjb (m q i:Nat)(hm:m<18446744073709551616)(hi:i<64)(w:World) : Calls Tryz.prog 135 #[QR m q,.int .i64 i] w fun e w'=>e=.returned (QR (m ||| 2^i) q)/\Ext w w':=by
 unfold QR;have K:=bits_or_u64_nat m (2^i) hm (Nat.pow_lt_pow_right (by omega) hi);have sh:=QL i hi;generalize 2^i=b2 at *;generalize m ||| b2=z at *
 replace K:=Hd K;replace sh:=Hd sh;have B1':Blk ((w.alloc (.cells #[.int .u64 m,.int .u64 q] 161)).alloc (.cells #[.int .u64 0,.int .u64 0] 161)) w.heap.size 161 #[.int .u64 m,.int .u64 q]:=.alloc (.new rfl) _;have B2:Blk ((w.alloc (.cells #[.int .u64 m,.int .u64 q] 161)).alloc (.cells #[.int .u64 0,.int .u64 0] 161)) (w.heap.size+1) 161 #[.int .u64 0,.int .u64 0]:=.new (by simp);have B1:Blk (w.alloc (.cells #[.int .u64 m,.int .u64 q] 161)) w.heap.size 161 #[.int .u64 m,.int .u64 q]:=.new rfl;go_enter Tryz.func135,Tryz.ntmps135;go_wp2_with (fail);refine(YX _ _).mono ?_;rintro e w1 ⟨rfl,x1⟩;have e1:(decide (0<=(i:Int))&&decide ((i:Int)<128))=true:=by simp;omega
 rw[e1];have c0:w1.cell? ⟨w.heap.size,0,none⟩=some (.int .u64 m):=(B1'.ext x1).cell 0;have c1:w1.cell? ⟨w.heap.size,1,none⟩=some (.int .u64 q):=(B1'.ext x1).cell 1;have f0:=(B1'.ext x1).free 0;have r0:w1.cell? ⟨w.heap.size+1,0,none⟩=some (.int .u64 0):=(B2.ext x1).cell 0;have r1:w1.cell? ⟨w.heap.size+1,1,none⟩=some (.int .u64 0):=(B2.ext x1).cell 1;have g0:=(B2.ext x1).free 0;have g1:=(B2.ext x1).free 1;have X1:=Hd (Ext.tr (a:=w) XI x1);replace K:=K.out;replace sh:=sh.out;have wz:IntKind.i64.wrap 0=0:=by decide
 have q1:(i:Int) / 64=0:=by omega
 have q2:(i:Int).tmod 64=(i:Int):=by rw[Int.tmod_eq_emod_of_nonneg (by omega)];omega
 have bA:=B1'.ext x1;have bR:=B2.ext x1;clear x1 B1' B2 e1 c1 f0 r0 r1 g0 g1;have bA2:=Hd (bA.set 0 (.int .u64 z));have bR2:=Hd (bR.far (p:=⟨w.heap.size,0,none⟩) (by simp) (.int .u64 z));have X2:=Hd (X1.out.setNew (p:=⟨w.heap.size,0,none⟩) (Nat.le_refl _) (.int .u64 z));have fA:w1.frozen? ⟨w.heap.size,0,none⟩=false:=bA.free 0;go_upto_region 2 with(fail);refine wp_region_any (by kernel_rfl) ?_
 change wpAny _ _ _ _ _ _ _ (World.drew _)
 refine Zc (i:=0) (op:=Op.move (Operand.tmp 1)) (t:=3) (d:=some 7) (v:=_) rfl (by decide +kernel) (fun _ _ _ h=>h) (by intro _;unfold Ze;go_simp;try with_reducible rfl) ?_
 try simp only[lay]
 refine Zc (i:=1) (op:=Op.binOp BinOp.quo 3 (Operand.tmp 7) (Operand.const (Value.int IntKind.i64 64)) 3) (t:=3) (d:=some 8) (v:=_) rfl (by decide +kernel) (fun _ _ _ h=>h) (by intro _;unfold Ze;go_simp;try with_reducible rfl) ?_
 try simp only[lay]
 refine Zc (i:=2) (op:=Op.indexAddr 161 (Operand.tmp 2) (Operand.tmp 8)) (t:=0) (d:=some 9) (v:=_) rfl (by decide +kernel) (fun _ _ _ h=>h) (by intro _;unfold Ze;go_simp;try with_reducible rfl) ?_
 try simp only[lay]
 refine Zc (i:=4) (op:=Op.move (Operand.tmp 1)) (t:=3) (d:=some 11) (v:=_) rfl (by decide +kernel) (fun _ _ _ h=>h) (by intro _;unfold Ze;go_simp;try with_reducible rfl) ?_
 try simp only[lay]
 refine Zc (i:=5) (op:=Op.binOp BinOp.rem 3 (Operand.tmp 11) (Operand.const (Value.int IntKind.i64 64)) 3) (t:=3) (d:=some 12) (v:=_) rfl (by decide +kernel) (fun _ _ _ h=>h) (by intro _;unfold Ze;go_simp;try with_reducible rfl) ?_
 try simp only[lay]
 refine Zc (i:=6) (op:=Op.binOp BinOp.shl 141 (Operand.const (Value.int IntKind.u64 1)) (Operand.tmp 12) 3) (t:=141) (d:=some 13) (v:=_) rfl (by decide +kernel) (fun _ _ _ h=>h) (by intro _;unfold Ze;go_simp;try with_reducible rfl) ?_
 try simp only[lay]
 refine Zl 3 (by decide +kernel) (Zv (T:=141) (x:=Operand.tmp 9) (t:=141) (d:=some 10) rfl (.pointer (some ⟨w.heap.size,0,none⟩)) (by kernel_rfl) (.int .u64 m) (by go_simp) ?_)
 try simp only[lay]
 refine Zc (i:=7) (op:=Op.binOp BinOp.or 141 (Operand.tmp 10) (Operand.tmp 13) 141) (t:=141) (d:=some 14) (v:=_) rfl (by decide +kernel) (fun _ _ _ h=>h) (by intro _;unfold Ze;go_simp;try with_reducible rfl) ?_
 try simp only[lay]
 refine Zc (i:=8) (op:=Op.indexAddr 161 (Operand.tmp 2) (Operand.tmp 8)) (t:=0) (d:=some 15) (v:=_) rfl (by decide +kernel) (fun _ _ _ h=>h) (by intro _;unfold Ze;go_simp;try with_reducible rfl) ?_
 try simp only[lay]
 refine Zl 9 (by decide +kernel) (Xq rfl (.pointer (some ⟨w.heap.size,0,none⟩)) (.int .u64 z) (by kernel_rfl) (by kernel_rfl) (by go_simp;rfl) ?_);refine wpAny_done (by kernel_rfl) ?_ _;clear c0 fA bA bR X1 hm K sh;generalize w1.setCell ⟨w.heap.size,0,none⟩ (.int .u64 z)=w2 at *;clear w1;have c0:=bA2.out.c0;have c1:=bA2.out.c1;have r0:=bR2.out.c0;have r1:=bR2.out.c1;have g0:=bR2.out.free 0;have g1:=bR2.out.free 1;go_simp;go_wp2_with (fail);refine bodyPost_ret (v:=.agg #[.int .u64 z,.int .u64 q]) (by simp[results,Tryz.results135,go_sem, *]) rfl ⟨rfl,?_⟩;exact((X2.out.setNew (p:=⟨w.heap.size+1,0,none⟩) (by simp) _).setNew (p:=⟨w.heap.size+1,1,none⟩) (by simp) _).drew
theorem Zjc (q m i:Nat)(x:Int)(hx:x=((64+i:Nat):Int))(hm:m<18446744073709551616)(hi:i<64)(w:World) : Calls Tryz.prog 135 #[QR q m,.int .i64 x] w fun e w'=>e=.returned (QR q (m ||| 2^i))/\Ext w w':=by
 unfold QR;have K:=bits_or_u64_nat m (2^i) hm (Nat.pow_lt_pow_right (by omega) hi);have sh:=QL i hi;generalize 2^i=b2 at *;generalize m ||| b2=z at *
 replace K:=Hd K;replace sh:=Hd sh;have B1':Blk ((w.alloc (.cells #[.int .u64 q,.int .u64 m] 161)).alloc (.cells #[.int .u64 0,.int .u64 0] 161)) w.heap.size 161 #[.int .u64 q,.int .u64 m]:=.alloc (.new rfl) _;have B2:Blk ((w.alloc (.cells #[.int .u64 q,.int .u64 m] 161)).alloc (.cells #[.int .u64 0,.int .u64 0] 161)) (w.heap.size+1) 161 #[.int .u64 0,.int .u64 0]:=.new (by simp);have B1:Blk (w.alloc (.cells #[.int .u64 q,.int .u64 m] 161)) w.heap.size 161 #[.int .u64 q,.int .u64 m]:=.new rfl;replace hx:=Hd hx;go_enter Tryz.func135,Tryz.ntmps135;go_wp2_with (fail);refine(YX _ _).mono ?_;rintro e w1 ⟨rfl,x1⟩;have e1:(decide (0<=x)&&decide (x<128))=true:=by have:=hx.out;simp;omega
 rw[e1];have c0:w1.cell? ⟨w.heap.size,0,none⟩=some (.int .u64 q):=(B1'.ext x1).cell 0;have c1:w1.cell? ⟨w.heap.size,1,none⟩=some (.int .u64 m):=(B1'.ext x1).cell 1;have f0:=(B1'.ext x1).free 1;have r0:w1.cell? ⟨w.heap.size+1,0,none⟩=some (.int .u64 0):=(B2.ext x1).cell 0;have r1:w1.cell? ⟨w.heap.size+1,1,none⟩=some (.int .u64 0):=(B2.ext x1).cell 1;have g0:=(B2.ext x1).free 0;have g1:=(B2.ext x1).free 1;have X1:=Hd (Ext.tr (a:=w) XI x1);replace K:=K.out;replace sh:=sh.out;have wz:IntKind.i64.wrap 1=1:=by decide
 have q1:x.tdiv 64=1:=by have:=hx.out;rw[Int.tdiv_eq_ediv_of_nonneg (by omega)];omega
 have q2:(x).tmod 64=(i:Int):=by have:=hx.out;rw[Int.tmod_eq_emod_of_nonneg (by omega)];omega
 have bA:=B1'.ext x1;have bR:=B2.ext x1;clear x1 B1' B2 e1 c0 f0 r0 r1 g0 g1;have bA2:=Hd (bA.set 1 (.int .u64 z));have bR2:=Hd (bR.far (p:=⟨w.heap.size,1,none⟩) (by simp) (.int .u64 z));have X2:=Hd (X1.out.setNew (p:=⟨w.heap.size,1,none⟩) (Nat.le_refl _) (.int .u64 z));have fA:w1.frozen? ⟨w.heap.size,1,none⟩=false:=bA.free 1;go_upto_region 2 with(fail);refine wp_region_any (by kernel_rfl) ?_
 change wpAny _ _ _ _ _ _ _ (World.drew _)
 refine Zc (i:=0) (op:=Op.move (Operand.tmp 1)) (t:=3) (d:=some 7) (v:=_) rfl (by decide +kernel) (fun _ _ _ h=>h) (by intro _;unfold Ze;go_simp;try with_reducible rfl) ?_
 try simp only[lay]
 refine Zc (i:=1) (op:=Op.binOp BinOp.quo 3 (Operand.tmp 7) (Operand.const (Value.int IntKind.i64 64)) 3) (t:=3) (d:=some 8) (v:=_) rfl (by decide +kernel) (fun _ _ _ h=>h) (by intro _;unfold Ze;go_simp;try with_reducible rfl) ?_
 try simp only[lay]
 refine Zc (i:=2) (op:=Op.indexAddr 161 (Operand.tmp 2) (Operand.tmp 8)) (t:=0) (d:=some 9) (v:=_) rfl (by decide +kernel) (fun _ _ _ h=>h) (by intro _;unfold Ze;go_simp;try with_reducible rfl) ?_
 try simp only[lay]
 refine Zc (i:=4) (op:=Op.move (Operand.tmp 1)) (t:=3) (d:=some 11) (v:=_) rfl (by decide +kernel) (fun _ _ _ h=>h) (by intro _;unfold Ze;go_simp;try with_reducible rfl) ?_
 try simp only[lay]
 refine Zc (i:=5) (op:=Op.binOp BinOp.rem 3 (Operand.tmp 11) (Operand.const (Value.int IntKind.i64 64)) 3) (t:=3) (d:=some 12) (v:=_) rfl (by decide +kernel) (fun _ _ _ h=>h) (by intro _;unfold Ze;go_simp;try with_reducible rfl) ?_
 try simp only[lay]
 refine Zc (i:=6) (op:=Op.binOp BinOp.shl 141 (Operand.const (Value.int IntKind.u64 1)) (Operand.tmp 12) 3) (t:=141) (d:=some 13) (v:=_) rfl (by decide +kernel) (fun _ _ _ h=>h) (by intro _;unfold Ze;go_simp;try with_reducible rfl) ?_
 try simp only[lay]
 refine Zl 3 (by decide +kernel) (Zv (T:=141) (x:=Operand.tmp 9) (t:=141) (d:=some 10) rfl (.pointer (some ⟨w.heap.size,1,none⟩)) (by kernel_rfl) (.int .u64 m) (by go_simp) ?_)
 try simp only[lay]
 refine Zc (i:=7) (op:=Op.binOp BinOp.or 141 (Operand.tmp 10) (Operand.tmp 13) 141) (t:=141) (d:=some 14) (v:=_) rfl (by decide +kernel) (fun _ _ _ h=>h) (by intro _;unfold Ze;go_simp;try with_reducible rfl) ?_
 try simp only[lay]
 refine Zc (i:=8) (op:=Op.indexAddr 161 (Operand.tmp 2) (Operand.tmp 8)) (t:=0) (d:=some 15) (v:=_) rfl (by decide +kernel) (fun _ _ _ h=>h) (by intro _;unfold Ze;go_simp;try with_reducible rfl) ?_
 try simp only[lay]
 refine Zl 9 (by decide +kernel) (Xq rfl (.pointer (some ⟨w.heap.size,1,none⟩)) (.int .u64 z) (by kernel_rfl) (by kernel_rfl) (by go_simp;rfl) ?_);refine wpAny_done (by kernel_rfl) ?_ _;clear c1 fA bA bR X1 hm K sh;generalize w1.setCell ⟨w.heap.size,1,none⟩ (.int .u64 z)=w2 at *;clear w1;have c0:=bA2.out.c0;have c1:=bA2.out.c1;have r0:=bR2.out.c0;have r1:=bR2.out.c1;have g0:=bR2.out.free 0;have g1:=bR2.out.free 1;go_simp;go_wp2_with (fail);refine bodyPost_ret (v:=.agg #[.int .u64 q,.int .u64 z]) (by simp[results,Tryz.results135,go_sem, *]) rfl ⟨rfl,?_⟩;exact((X2.out.setNew (p:=⟨w.heap.size+1,0,none⟩) (by simp) _).setNew (p:=⟨w.heap.size+1,1,none⟩) (by simp) _).drew
theorem ZhJ (m q:Nat)(x:Int)(hx:¬(0<=x/\x<128))(w:World) : Calls Tryz.prog 135 #[QR m q,.int .i64 x] w fun e w'=>e=.returned (QR m q)/\Ext w w':=by
 unfold QR;have B1':Blk ((w.alloc (.cells #[.int .u64 m,.int .u64 q] 161)).alloc (.cells #[.int .u64 0,.int .u64 0] 161)) w.heap.size 161 #[.int .u64 m,.int .u64 q]:=.alloc (.new rfl) _;have B2:Blk ((w.alloc (.cells #[.int .u64 m,.int .u64 q] 161)).alloc (.cells #[.int .u64 0,.int .u64 0] 161)) (w.heap.size+1) 161 #[.int .u64 0,.int .u64 0]:=.new (by simp);have e1:(decide (0<=x)&&decide (x<128))=false:=by
  rw[Bool.eq_false_iff];simp;omega
 go_enter Tryz.func135,Tryz.ntmps135;go_wp2_with (fail);refine(YX _ _).mono ?_;rintro e w1 ⟨rfl,x1⟩;rw[e1];have c0:w1.cell? ⟨w.heap.size,0,none⟩=some (.int .u64 m):=(B1'.ext x1).cell 0;have c1:w1.cell? ⟨w.heap.size,1,none⟩=some (.int .u64 q):=(B1'.ext x1).cell 1;have r0:w1.cell? ⟨w.heap.size+1,0,none⟩=some (.int .u64 0):=(B2.ext x1).cell 0;have r1:w1.cell? ⟨w.heap.size+1,1,none⟩=some (.int .u64 0):=(B2.ext x1).cell 1;have g0:=(B2.ext x1).free 0;have g1:=(B2.ext x1).free 1;have X1:=Hd (Ext.tr (a:=w) XI x1);clear x1 B1' B2 e1;go_wp2_with (fail);refine bodyPost_ret (v:=.agg #[.int .u64 m,.int .u64 q]) (by simp[results,Tryz.results135,go_sem, *]) rfl ⟨rfl,?_⟩;exact(X1.out.setNew (p:=⟨w.heap.size+1,0,none⟩) (by simp) _).setNew (p:=⟨w.heap.size+1,1,none⟩) (by simp) _
def UC (s:Nat×Nat)(x:Int) : Nat×Nat:=if 0<=x/\x<64 then(s.1 ||| 2^x.toNat,s.2) else if 64<=x/\x<128 then(s.1,s.2 ||| 2^(x.toNat-64)) else s
def ofP (l:List Int) : Nat×Nat:=l.foldl UC (0,0)
theorem ZhK (l:List Int)(x:Int) : ofP (l++[x])=UC (ofP l) x:=by
 unfold ofP;rw[List.foldl_append]
 rfl
theorem Zjd {s:Nat×Nat}(h:s.1<18446744073709551616/\s.2<18446744073709551616)(x:Int) : (UC s x).1<18446744073709551616/\(UC s x).2<18446744073709551616:=by
 unfold UC;split
 ·rename_i hx
  exact⟨Nat.or_lt_two_pow (n:=64) h.1 (Nat.pow_lt_pow_right (by omega) (by omega)),h.2⟩
 ·split
  ·exact⟨h.1,Nat.or_lt_two_pow (n:=64) h.2 (Nat.pow_lt_pow_right (by omega) (by omega))⟩
  ·exact h
theorem ZfZ : ∀ (l:List Int) (s:Nat×Nat),s.1<18446744073709551616/\s.2<18446744073709551616->(l.foldl UC s).1<18446744073709551616/\(l.foldl UC s).2<18446744073709551616
 | [],_,h=>h
 | x::l,s,h=>ZfZ l _ (Zjd h x)
theorem ZhL (l:List Int) : (ofP l).1<18446744073709551616/\(ofP l).2<18446744073709551616:=ZfZ l _ ⟨by decide,by decide⟩
theorem ZbS : ∀ (l:List Int) (s:Nat×Nat) (j:Nat),j<64->(l.foldl UC s).1.testBit j=(s.1.testBit j || decide ((j:Int)∈l))
 | [],s,j,_=>by simp
 | x::l,s,j,hj=>by
  rw[List.foldl_cons,ZbS l _ j hj];have e:(UC s x).1.testBit j=(s.1.testBit j || decide ((j:Int)=x)):=by
   unfold UC;split
   ·rw[Nat.testBit_or,Nat.testBit_two_pow]
    congr 1
    rw[decide_eq_decide];omega
   ·have h:¬(j:Int)=x:=by omega
    split<;>simp[h]
  rw[e]
  by_cases h1:(j:Int)=x<;>simp[h1]
theorem ZbT : ∀ (l:List Int) (s:Nat×Nat) (j:Nat),j<64->(l.foldl UC s).2.testBit j=(s.2.testBit j || decide (((64+j:Nat):Int)∈l))
 | [],s,j,_=>by simp
 | x::l,s,j,hj=>by
  rw[List.foldl_cons,ZbT l _ j hj];have e:(UC s x).2.testBit j=(s.2.testBit j || decide (((64+j:Nat):Int)=x)):=by
   unfold UC;split
   ·have h:¬((64+j:Nat):Int)=x:=by omega
    simp only[h,decide_false,Bool.or_false]
   ·split
    ·rw[Nat.testBit_or,Nat.testBit_two_pow]
     congr 1
     rw[decide_eq_decide];omega
    ·have h:¬((64+j:Nat):Int)=x:=by omega
     simp only[h,decide_false,Bool.or_false]
  rw[e]
  by_cases h1:((64+j:Nat):Int)=x
  ·rw[h1];simp
  ·have h2:decide (((64+j:Nat):Int)∈x::l)=decide (((64+j:Nat):Int)∈l):=by
    rw[decide_eq_decide,List.mem_cons];exact⟨fun h=>h.resolve_left h1,.inr⟩
   rw[h2];simp only[h1,decide_false,Bool.or_false]
theorem ZhM {x:List Int}{n:Nat}(hl:x.length=n)(hn:n<64) : (((ofP x).1:Int)==((2^n-1:Nat):Int)&&((ofP x).2:Int)==0)=Vs x n:=by
 rw[Bool.eq_iff_iff,VJ,Bool.and_eq_true,beq_iff_eq,beq_iff_eq];have b1:=ZbS x (0,0);have b2:=ZbT x (0,0);have lt:=ZhL x
 change ∀ j,j<64->(ofP x).1.testBit j=_ at b1
 change ∀ j,j<64->(ofP x).2.testBit j=_ at b2
 constructor
 ·rintro ⟨h1,-⟩
  have h1':(ofP x).1=2^n-1:=by omega
  rw[h1'] at b1;have hmem:∀ k:Nat,k<n->(k:Int)∈x:=fun k hk=>by
   have h:=b1 k (by omega);rw[Nat.testBit_two_pow_sub_one] at h;simp only[Nat.zero_testBit,Bool.false_or,hk,decide_true] at h;exact of_decide_eq_true h.symm
  have hnd:(Zf (List.range n)).Nodup:=by
   unfold Zf;refine List.pairwise_map.2 (List.nodup_range.imp ?_);intro a b hab e;exact hab (by omega)
  have hp:(Zf (List.range n)).Perm x:=UA hnd (fun y hy=>by
   obtain⟨k,hk,rfl⟩:=List.mem_map.1 hy;exact hmem k (List.mem_range.1 hk)) (by rw[Zh,List.length_range,hl])
  refine VJ.1 ?_;unfold Vs;rw[decide_eq_true_iff];exact⟨hl,fun k hk=>UB (hp.nodup hnd) (hmem k hk)⟩
 ·rintro ⟨l,rfl,hp⟩
  have hm:∀ k:Nat,((k:Int)∈Zf l)↔k<n:=fun k=>by
   rw[<-List.mem_range,<-hp.mem_iff];unfold Zf;rw[List.mem_map]
   constructor
   ·rintro ⟨a,ha,e⟩
    have:a=k:=by omega
    exact this ▸ ha
   ·exact fun h=>⟨k,h,rfl⟩
  constructor
  ·have e:(ofP (Zf l)).1=2^n-1:=by
    refine Nat.eq_of_testBit_eq fun j=>?_
    rw[Nat.testBit_two_pow_sub_one]
    by_cases hj:j<64
    ·rw[b1 j hj]
     simp only[Nat.zero_testBit,Bool.false_or];rw[decide_eq_decide];exact hm j
    ·have h:¬j<n:=by omega
     rw[Nat.testBit_lt_two_pow (Nat.lt_of_lt_of_le lt.1 (Nat.pow_le_pow_right (n:=2) (by omega) (by omega:64<=j)))];simp[h]
   rw[e]
  ·have e:(ofP (Zf l)).2=0:=by
    refine Nat.eq_of_testBit_eq fun j=>?_
    rw[Nat.zero_testBit]
    by_cases hj:j<64
    ·rw[b2 j hj]
     simp only[Nat.zero_testBit,Bool.false_or];refine decide_eq_false ?_;rw[hm];omega
    ·exact Nat.testBit_lt_two_pow (Nat.lt_of_lt_of_le lt.2 (Nat.pow_le_pow_right (n:=2) (by omega) (by omega:64<=j)))
   rw[e]
   rfl
theorem ZhN (s:Nat×Nat)(h:s.1<18446744073709551616/\s.2<18446744073709551616)(x:Int)(w:World) : Calls Tryz.prog 135 #[QR s.1 s.2,.int .i64 x] w fun e w'=>e=.returned (QR (UC s x).1 (UC s x).2)/\Ext w w':=by
 unfold UC
 by_cases h1:0<=x/\x<64
 ·rw[if_pos h1]
  obtain⟨i,rfl⟩:∃ i:Nat,x=(i:Int):=⟨x.toNat,by omega⟩;exact Zjb s.1 s.2 i h.1 (by omega) w
 ·rw[if_neg h1]
  by_cases h2:64<=x/\x<128
  ·rw[if_pos h2]
   obtain⟨i,rfl⟩:∃ i:Nat,x=((64+i:Nat):Int):=⟨x.toNat-64,by omega⟩;have e:((64+i:Nat):Int).toNat-64=i:=by omega
   rw[e];exact Zjc s.1 s.2 i _ rfl h.2 (by omega) w
  ·rw[if_neg h2]
   exact ZhJ s.1 s.2 x (by omega) w
theorem Zje (a b x y:Int)(u:World) : (Op.equalIn 10000 161 (.agg #[.int .u64 a,.int .u64 b]) (.agg #[.int .u64 x,.int .u64 y])).run Tryz.prog u=.ok (a==x&&b==y) u:=by
 unfold Op.equalIn;simp only[Sem.run_bind,run_underlying Tryz.underlying161,Result.andThen_ok];have e9:List.range' 0 2 1=[0,1]:=rfl;simp only[Std.Legacy.Range.forIn_eq_forIn_range',Std.Legacy.Range.size,Nat.sub_zero,Nat.add_one_sub_one,Nat.div_one,e9,List.forIn_cons,List.forIn_nil]
 by_cases hx:a=x
 ·subst hx
  by_cases hy:b=y
  ·subst hy
   go_simp
  ·have hy':(b==y)=false:=by simpa using hy
   go_simp
 ·have hx':(a==x)=false:=by simpa using hx
  go_simp
theorem ZjN (A:Option Addr)(c:Nat)(l:List Int)(hn:l.length<=1000)(w:World)(hA:RdI w A l) :
  Calls Tryz.prog 115 #[.slice A l.length c] w fun e w'=>e=.returned (QR (ofP l).1 (ofP l).2)/\Ext w w':=by
 have B0:Hid (Blk ((w.alloc (.cells #[.int .u64 0,.int .u64 0] 161)).alloc (.cells #[.int .u64 0,.int .u64 0] 161)) w.heap.size 161 #[.int .u64 0,.int .u64 0]):=Blk.alloc (.new rfl) _;have B1:Hid (Blk ((w.alloc (.cells #[.int .u64 0,.int .u64 0] 161)).alloc (.cells #[.int .u64 0,.int .u64 0] 161)) (w.heap.size+1) 161 #[.int .u64 ((ofP (l.take 0)).1:Int),.int .u64 ((ofP (l.take 0)).2:Int)]):=.new (by simp);have X0:Hid (Ext w ((w.alloc (.cells #[.int .u64 0,.int .u64 0] 161)).alloc (.cells #[.int .u64 0,.int .u64 0] 161))):=((Ext.rf w).alloc _).alloc _;have WI:=fun(s:Nat×Nat) (h:s.1<18446744073709551616/\s.2<18446744073709551616) (x:Int) (W:World)=>ZhN s h x W
 unfold QR at WI ⊢;replace WI:=Hd WI;replace hA:=Hd hA;go_enter Tryz.func115,Tryz.ntmps115;go_wp2_with (fail);go_loopw [8] (fun i wr=>∃ k:Nat,i=.int .i64 k/\k<=l.length/\Hid (Blk wr (w.heap.size+1) 161 #[.int .u64 ((ofP (l.take k)).1:Int),.int .u64 ((ofP (l.take k)).2:Int)])/\Hid (Blk wr w.heap.size 161 #[.int .u64 0,.int .u64 0])/\Hid (Ext w wr)) (fun i _=>l.length-(intOf i).toNat)
 case atStart=>exact⟨0,rfl,by omega,B1,B0,X0⟩
 case round =>
  clear B0 B1 X0;obtain⟨wo,rfl⟩:=Wq wr;obtain⟨k,rfl,hk,B1,B0,X0⟩:=hrel
  by_cases hlt:k<l.length
  ·obtain⟨b,off,x,rfl,zb,cx,ex,_⟩:=(hA.out.ext X0.out).at (k:=k) hlt
   have hm:=ZhL (l.take k);have HS:ofP (l.take (k+1))=UC (ofP (l.take k)) x:=by
    rw[List.take_add_one,ex.out];exact ZhK _ _
   have HW:=Hd (WI.out (ofP (l.take k)) hm x);rw[<-HS] at HW;clear HS hm ex;obtain⟨m,hm1⟩:∃ m,Hid ((ofP (l.take k)).1=m):=⟨_,rfl⟩;obtain⟨q,hq1⟩:∃ q,Hid ((ofP (l.take k)).2=q):=⟨_,rfl⟩;obtain⟨m2,hm2⟩:∃ m2,Hid ((ofP (l.take (k+1))).1=m2):=⟨_,rfl⟩;obtain⟨p2,hp2⟩:∃ p2,Hid ((ofP (l.take (k+1))).2=p2):=⟨_,rfl⟩;rw[hm1.out,hq1.out,hm2.out,hp2.out] at HW;rw[hm1.out,hq1.out] at B1;have c0:=B1.out.c0;have c1:=B1.out.c1;have q1:(k:Int)<(l.length:Int):=by omega
   go_wp2_with (fail);refine(HW.out _).mono ?_;rintro e w1 ⟨rfl,x1⟩;have b1:=B1.out.ext x1;have d0:=b1.c0;have d1:=b1.c1;have f0:=b1.free 0;have f1:=b1.free 1;have B1':=Hd ((b1.set 0 (.int .u64 m2)).set 1 (.int .u64 p2));have B0':=Hd (((B0.out.ext x1).far (p:=⟨w.heap.size+1,0,none⟩) (by simp) (.int .u64 m2)).far (p:=⟨w.heap.size+1,1,none⟩) (by simp) (.int .u64 p2));have X1:=Hd (((X0.out.tr x1).setNew (p:=⟨w.heap.size+1,0,none⟩) (by simp) (.int .u64 m2)).setNew (p:=⟨w.heap.size+1,1,none⟩) (by simp) (.int .u64 p2));clear b1 x1 B0 B1 X0 c0 c1;go_wp2_with (fail);go_roundw
   case rel=>exact⟨k+1,by go_num,by omega,by rw[hm2.out,hp2.out];exact B1',B0',X1⟩
   case measure=>simp[intOf];omega
  ·obtain rfl:k=l.length:=by omega
   rw[List.take_length] at B1;obtain⟨m,hm⟩:∃ m,Hid ((ofP l).1=m):=⟨_,rfl⟩;obtain⟨q,hq⟩:∃ q,Hid ((ofP l).2=q):=⟨_,rfl⟩;rw[hm.out,hq.out] at B1;have c0:=B1.out.c0;have c1:=B1.out.c1;have r0:=B0.out.c0;have r1:=B0.out.c1;have g0:=B0.out.free 0;have g1:=B0.out.free 1;go_wp2_with (fail);refine bodyPost_ret (v:=.agg #[.int .u64 m,.int .u64 q]) (by simp[results,Tryz.results115,go_sem, *]) rfl ⟨by rw[hm.out,hq.out],?_⟩;exact(X0.out.setNew (p:=⟨w.heap.size,0,none⟩) (by simp) _).setNew (p:=⟨w.heap.size,1,none⟩) (by simp) _
theorem Zgw (A:Option Addr)(c n:Nat)(x:List Int)(hx:x.length<=1000)(hn:n<64)(w:World)(hA:RdI w A x) :
  Calls Tryz.prog 100 #[.slice A x.length c,.int .i64 n] w fun e w'=>e=.returned (.bool (Vs x n))/\Ext w w':=by
 by_cases hl:x.length=n
 ·have OF:=fun(W:World) (x':Ext w W)=>ZjN A c x hx W (hA.ext x')
  have FU:=fun(W:World)=>Ux n hn W
  have EQ:=ZhM hl hn;have en:((n:Int)==(n:Int))=true:=by simp
  rw[hl] at OF ⊢;clear hl hA hx;unfold ZS QR at *;generalize 2^n-1=m at *;generalize (ofP x).1=s1 at *;generalize (ofP x).2=s2 at *;have EQ2:=fun u:World=>Zje (s1:Int) (s2:Int) (m:Int) 0 u
  rw[EQ] at EQ2;clear EQ;generalize Vs x n=pb at *;replace OF:=Hd OF;replace FU:=Hd FU;go_enter Tryz.func100,Tryz.ntmps100;go_wp2_with (fail);refine(OF.out _ XI).mono ?_;rintro e w1 ⟨rfl,x1⟩;go_wp2_with (fail);refine(FU.out _).mono ?_;rintro e w2 ⟨rfl,x2⟩;have X2:=Hd (Ext.tr (Ext.tr (a:=w) XI x1) x2);clear x1 x2;go_wp2_with (fail);go_ret;exact⟨rfl,X2.out⟩
 ·have PB:Vs x n=false:=by
   unfold Vs;exact decide_eq_false fun h=>hl h.1
  have en:((x.length:Int)==(n:Int))=false:=by
   rw[beq_eq_false_iff_ne];omega
  rw[PB];clear PB hl;go_enter Tryz.func100,Tryz.ntmps100;go_wp2_with (fail);go_ret;exact⟨rfl,XI⟩
theorem ZhO (g:Nat)(lb:Array Value)(p:Int->Bool)(eg:∀ args w,(callFunc g args).run Tryz.prog w=.ok (.enter g args) w)(A:Option Addr)(c:Nat)(xs:List Int)(w:World)(hA:RdI w A xs)(lx:xs.length<=maxLen)(hp:ZhF g lb (Value.int .i64) p xs w) :
  Calls Tryz.prog 103 #[.slice A xs.length c,.func (.func g) #[] lb] w fun e w'=>e=.returned (.int .i64 (WV p 0 xs))/\Ext w w':=by
 unfold maxLen at lx;go_enter Tryz.func103,Tryz.ntmps103;go_wp2_with (fail);go_loopw [8] (fun i wr=>∃ j:Nat,i=.int .i64 j/\j<=xs.length/\Hid (WV p 0 xs=WV p j (xs.drop j))/\Ext w wr) (fun i _=>xs.length-(intOf i).toNat)
 case atStart=>exact⟨0,rfl,by omega,by exact rfl,Ext.rf _⟩
 case round =>
  obtain⟨j,rfl,hj,HJ,Y⟩:=hrel
  by_cases hlt:j<xs.length
  ·obtain⟨b,off,x,rfl,_,hc,hx,hd⟩:=(hA.ext Y).at hlt
   have hcall:=hp wr x (List.mem_of_getElem? hx.out) Y;clear hp
   cases hq:p x with
   | true =>
    rw[hq] at hcall;have HR:Hid (WV p 0 xs=j):=by
     have h1:=HJ.out;rw[hd.out,WV,if_pos hq] at h1;exact h1
    clear hq;go_wp2_with (go_at_fn g;refine hcall.mono ?_;rintro e w' ⟨rfl,x'⟩);go_ret;exact⟨Z3 HR.out.symm,Ext.tr Y x'⟩
   | false =>
    rw[hq] at hcall;have HR:Hid (WV p 0 xs=WV p (j+1) (xs.drop (j+1))):=by
     have h1:=HJ.out;rw[hd.out,WV,if_neg (by simp[hq])] at h1;exact h1
    clear hq;go_wp2_with (go_at_fn g;refine hcall.mono ?_;rintro e w' ⟨rfl,x'⟩);go_roundw
    case rel=>exact⟨j+1,by go_num,by omega,HR,Ext.tr Y x'⟩
    case measure=>simp[intOf];omega
  ·have hd:=Xp (xs:=xs) (k:=j) (by omega)
   have HR:Hid (WV p 0 xs=-1):=by
    have h1:=HJ.out;rw[hd.out,WV] at h1;exact h1
   clear hd hp;go_wp2;go_ret;exact⟨Z3 HR.out.symm,Y⟩
theorem ZhP (g:Nat)(lb:Array Value)(p:Int->Bool)(eg:∀ args w,(callFunc g args).run Tryz.prog w=.ok (.enter g args) w)(A:Option Addr)(c:Nat)(xs:List Int)(w:World)(hA:RdI w A xs)(lx:xs.length<=maxLen)(hp:ZhF g lb (Value.int .i64) p xs w) :
  Calls Tryz.prog 76 #[.slice A xs.length c,.func (.func g) #[] lb] w fun e w'=>e=.returned (.bool (xs.any p))/\Ext w w':=by
 have H:=Hd (ZaI p 0 xs);go_enter Tryz.func76,Tryz.ntmps76;go_wp2_with (fail);refine(ZhO g lb p eg A c xs _ hA lx hp).mono ?_;rintro e w' ⟨rfl,x'⟩;clear hp;go_wp2;go_ret;exact⟨XX H.out,x'⟩
theorem Zgx (n:Int)(w:World) : Calls Tryz.prog 77 #[.int .i64 n] w fun e w'=>e=.returned (.bool (decide (n<0)))/\Ext w w':=by
 go_enter Tryz.func77,Tryz.ntmps77;go_wp2;go_ret;exact⟨rfl,Ext.rf _⟩
theorem ZcN : ∀ args w,(callFunc 77 args).run Tryz.prog w=.ok (.enter 77 args) w:=enters_of Tryz.func77 (by kernel_rfl) rfl
theorem Zdy (A:Option Addr)(c:Nat)(xs:List Int)(w:World)(hA:RdI w A xs)(lx:xs.length<=maxLen) :
  Calls Tryz.prog 76 #[.slice A xs.length c,.func (.func 77) #[] #[]] w fun e w'=>e=.returned (.bool (xs.any fun n=>decide (n<0)))/\Ext w w' :=
 ZhP _ #[] (fun n=>decide (n<0)) ZcN A c xs w hA lx fun W x _ _=>Zgx x W
theorem Jr (x:Int)(h₀:0<=x)(h₁:x<18446744073709551616) : bits .and .u64 x 4294967295=x%4294967296:=bits_mask .u64 64 (by decide) wraps_u64 32 (by decide) x h₀ h₁
theorem Uh {a b:Int}(ha:0<=a)(ha':a<=2147483647)(hb:0<=b)(hb':b<=2147483647) : 0<=a*b/\a*b<=4611686014132420609:=by
 refine⟨Int.mul_nonneg ha hb,?_⟩;have h1:a*b<=2147483647*b:=Int.mul_le_mul_of_nonneg_right ha' hb;omega
theorem ZbU (a b:Int)(w:World)(ha:0<=a)(ha':a<=2147483647)(hb:0<=b)(hb':b<=2147483647) :
  Calls Tryz.prog 96 #[.int .u64 a,.int .u64 b] w fun e w'=>e=.returned (.tuple #[.int .u64 0,.int .u64 (a*b)])/\Ext w w':=by
 have ea:Hid (bits BinOp.and IntKind.u64 a 4294967295=a):=by
  have h:=Jr a ha (by omega);rw[Int.emod_eq_of_lt ha (by omega)] at h;exact h
 have eb:Hid (bits BinOp.and IntKind.u64 b 4294967295=b):=by
  have h:=Jr b hb (by omega);rw[Int.emod_eq_of_lt hb (by omega)] at h;exact h
 have da:Hid (a / 4294967296=0):=Hd (by omega);have db:Hid (b / 4294967296=0):=Hd (by omega);have hm:=Uh ha ha' hb hb';have wm:Hid (IntKind.u64.wrap (a*b)=a*b):=wraps_u64 _ hm.1 (by omega);have dm:Hid (∃ q:Int,0<=q/\q<4294967296/\a*b / 4294967296=q):=by
  have h:∃ q:Int,0<=q/\q<4294967296/\a*b / 4294967296=q:=⟨_,by omega,by omega,rfl⟩;exact h
 have w0:Hid (IntKind.u64.wrap 0=0):=Hd (by decide);clear hm;go_enter Tryz.func96,Tryz.ntmps96;go_wp2;refine bodyPost_ret (v:=.tuple #[.int .u64 0,.int .u64 (a*b)]) ?_ rfl ⟨rfl,Ext.rf _⟩;obtain⟨q,hq0,hq1,hq⟩:=dm.out;have w1:=ea.out;have w2:=eb.out;have w3:=da.out;have w4:=db.out;have w5:=wm.out;have w6:=w0.out;have wq:=wraps_u64 q hq0 (by omega);have dq:q / 4294967296=0:=by omega
 have aq:bits BinOp.and IntKind.u64 q 4294967295=q:=by
  have h:=Jr q hq0 (by omega);rw[Int.emod_eq_of_lt hq0 hq1] at h;exact h
 simp only[w1,w2,w3,w4,w5,w6,hq,Int.zero_mul,Int.mul_zero,Int.add_zero,Int.zero_add,wq,dq,aq];simp[results,Tryz.results96,go_sem]
theorem ZaM (a:Int)(w:World)(ha:0<=a)(ha':a<=2147483647) :
  Calls Tryz.prog 117 #[.int .i64 a] w fun e w'=>e=.returned (.int .u64 a)/\Ext w w':=by
 have wm:IntKind.u64.wrap a=a:=wraps_u64 _ ha (by omega);go_enter Tryz.func117,Tryz.ntmps117;go_wp2;go_ret;exact⟨rfl,Ext.rf _⟩
def Wg (a b:Int) : Int:=if a=0\/b=0 then 0 else 1
theorem JW (a b:Int)(w:World)(ha:0<=a)(ha':a<=2147483647)(hb:0<=b)(hb':b<=2147483647) :
  Calls Tryz.prog 104 #[.int .i64 a,.int .i64 b] w fun e w'=>e=.returned (.tuple #[.int .i64 (Wg a b),.agg #[.int .u64 0,.int .u64 (a*b)]])/\Ext w w':=by
 have na:decide (a<0)=false:=by simpa using ha
 have nb:decide (b<0)=false:=by simpa using hb
 have B0:Hid (Blk (w.alloc (.cells #[.int .u64 0,.int .u64 0] 149)) w.heap.size 149 #[.int .u64 0,.int .u64 0]):=.new rfl;go_enter Tryz.func104,Tryz.ntmps104;go_wp2_with (fail);refine(ZaM a _ ha ha').mono ?_;rintro e w1 ⟨rfl,x1⟩;go_wp2_with (fail);refine(ZaM b _ hb hb').mono ?_;rintro e w2 ⟨rfl,x2⟩;go_wp2_with (fail);refine(ZbU a b _ ha ha' hb hb').mono ?_;rintro e w3 ⟨rfl,x3⟩;have X3:Ext w w3:=Ext.tr (Ext.tr (Ext.tr ((Ext.rf w).alloc _) x1) x2) x3;have B3:=Hd (((B0.out.ext x1).ext x2).ext x3);have X4:=Hd ((X3.setNew (p:=⟨w.heap.size,0,none⟩) (Nat.le_refl _) (.int .u64 0)).setNew (p:=⟨w.heap.size,1,none⟩) (Nat.le_refl _) (.int .u64 (a*b)));have c0:=B3.out.c0;have c1:=B3.out.c1;have f0:=B3.out.free 0;have f1:=B3.out.free 1;clear X3
 by_cases a0:a=0
 ·subst a0
  have e1:Hid (Wg 0 b=0):=rfl;have e2:Hid ((0:Int)*b=0):=Int.zero_mul b;have X5:Hid (Ext w ((w3.setCell ⟨w.heap.size,0,none⟩ (.int .u64 0)).setCell ⟨w.heap.size,1,none⟩ (.int .u64 0))):=by
   have h:=X4.out;rw[e2.out] at h;exact h
  clear X4;go_wp2;exact bodyPost_ret (v:=.tuple #[.int .i64 0,.agg #[.int .u64 0,.int .u64 0]]) (by simp[results,Tryz.results104,go_sem, *]) rfl ⟨by rw[e1.out,e2.out],X5.out⟩
 ·have a0':(a==0)=false:=by simpa using a0
  by_cases b0:b=0
  ·subst b0
   have e1:Hid (Wg a 0=0):=Hd (by simp[Wg]);have e2:Hid (a*(0:Int)=0):=Int.mul_zero a;have X5:Hid (Ext w ((w3.setCell ⟨w.heap.size,0,none⟩ (.int .u64 0)).setCell ⟨w.heap.size,1,none⟩ (.int .u64 0))):=by
    have h:=X4.out;rw[e2.out] at h;exact h
   clear X4 a0;go_wp2;exact bodyPost_ret (v:=.tuple #[.int .i64 0,.agg #[.int .u64 0,.int .u64 0]]) (by simp[results,Tryz.results104,go_sem, *]) rfl ⟨by rw[e1.out,e2.out],X5.out⟩
  ·have b0':(b==0)=false:=by simpa using b0
   have e1:Hid (Wg a b=1):=Hd (by simp[Wg,a0,b0]);clear a0 b0;go_wp2;exact bodyPost_ret (v:=.tuple #[.int .i64 1,.agg #[.int .u64 0,.int .u64 (a*b)]]) (by simp[results,Tryz.results104,go_sem, *]) rfl ⟨by rw[e1.out],X4.out⟩
def ZcO (x y:Int) : Int:=if x=y then 0 else if x<y then -1 else 1
theorem Zgy (x y:Int)(w:World) : Calls Tryz.prog 105 #[.agg #[.int .u64 0,.int .u64 x],.agg #[.int .u64 0,.int .u64 y]] w fun e w'=>e=.returned (.int .i64 (ZcO x y))/\Ext w w':=by
 unfold ZcO
 by_cases h:x=y
 ·subst h
  rw[if_pos rfl];go_enter Tryz.func105,Tryz.ntmps105;go_wp2;go_ret;exact⟨rfl,XI⟩
 ·rw[if_neg h]
  by_cases h1:x<y
  ·rw[if_pos h1]
   have h':(x==y)=false:=by simpa using h
   clear h;go_enter Tryz.func105,Tryz.ntmps105;go_wp2;go_ret;exact⟨rfl,XI⟩
  ·rw[if_neg h1]
   have h':(x==y)=false:=by simpa using h
   clear h;go_enter Tryz.func105,Tryz.ntmps105;go_wp2;go_ret;exact⟨rfl,XI⟩
theorem Ui (a b:Int) : Wg a b=0\/Wg a b=1:=by unfold Wg;split<;>simp
def Qj (a b c d:Int) : Int:=if Wg a b<Wg c d then -1 else if Wg c d<Wg a b then 1 else Wg a b*ZcO (a*b) (c*d)
theorem Zgz (a b c d:Int)(w:World)(ha:0<=a/\a<=2147483647)(hb:0<=b/\b<=2147483647)(hc:0<=c/\c<=2147483647)(hd:0<=d/\d<=2147483647) :
  Calls Tryz.prog 81 #[.int .i64 a,.int .i64 b,.int .i64 c,.int .i64 d] w fun e w'=>e=.returned (.int .i64 (Qj a b c d))/\Ext w w':=by
 have s1:=Ui a b;have s2:=Ui c d;have HC:Hid (Qj a b c d=if Wg a b<Wg c d then -1 else if Wg c d<Wg a b then 1 else Wg a b*ZcO (a*b) (c*d)):=rfl;have HO:-1<=ZcO (a*b) (c*d)/\ZcO (a*b) (c*d)<=1:=by unfold ZcO;split<;>(try split)<;>omega
 have P1:=JW a b;have P2:=JW c d;have M1:=Uh ha.1 ha.2 hb.1 hb.2;have M2:=Uh hc.1 hc.2 hd.1 hd.2;generalize Qj a b c d=res at *;generalize Wg a b=s at *;generalize Wg c d=t at *;generalize a*b=p at *;generalize c*d=q at *;replace P1:=Hd P1;replace P2:=Hd P2;have O1:=Hd (Zgy p q);generalize ZcO p q=r at *;go_enter Tryz.func81,Tryz.ntmps81;go_wp2_with (fail);refine(P1.out _ ha.1 ha.2 hb.1 hb.2).mono ?_;rintro e w1 ⟨rfl,x1⟩;go_wp2_with (fail);refine(P2.out _ hc.1 hc.2 hd.1 hd.2).mono ?_;rintro e w2 ⟨rfl,x2⟩;have B1:Blk (w1.alloc (.cells #[.int .u64 0,.int .u64 p] 149)) w1.heap.size 149 #[.int .u64 0,.int .u64 p]:=.new rfl;have B2:=Hd (B1.ext x2);have c0:=B2.out.c0;have c1:=B2.out.c1;have lt1:w1.heap.size<w2.heap.size:=B2.out.lt;have X2:Ext w w2:=Ext.tr (Ext.tr x1 ((Ext.rf _).alloc _)) x2;clear B1;rcases s1 with rfl | rfl
 ·rcases s2 with rfl | rfl
  ·go_wp2_with (fail)
   refine(O1.out _).mono ?_;rintro e w3 ⟨rfl,x3⟩;go_wp2;go_ret;exact⟨Z3 (by rw[HC.out];simp),Ext.tr (a:=w) (by(repeat (first | assumption | exact Ext.rf _ | apply Ext.drew | apply Ext.drewN | apply Ext.alloc))) x3⟩
  ·go_wp2_with (fail)
   go_ret;exact⟨Z3 (by rw[HC.out];simp),by(repeat (first | assumption | exact Ext.rf _ | apply Ext.drew | apply Ext.drewN | apply Ext.alloc))⟩
 ·rcases s2 with rfl | rfl
  ·go_wp2_with (fail)
   go_ret;exact⟨Z3 (by rw[HC.out];simp),by(repeat (first | assumption | exact Ext.rf _ | apply Ext.drew | apply Ext.drewN | apply Ext.alloc))⟩
  ·go_wp2_with (fail)
   refine(O1.out _).mono ?_;rintro e w3 ⟨rfl,x3⟩;go_wp2;go_ret;exact⟨Z3 (by rw[HC.out];simp),Ext.tr (a:=w) (by(repeat (first | assumption | exact Ext.rf _ | apply Ext.drew | apply Ext.drewN | apply Ext.alloc))) x3⟩
theorem ZeS {a b c d:Int}(ha:0<=a)(hb:0<=b)(hc:0<=c)(hd:0<=d) : 0<Qj a b c d↔c*d<a*b:=by
 have hp:=Int.mul_nonneg ha hb;have hq:=Int.mul_nonneg hc hd;have z1:Wg a b=0↔a*b=0:=by unfold Wg;rw[Int.mul_eq_zero];split<;>simp_all
 have z2:Wg c d=0↔c*d=0:=by unfold Wg;rw[Int.mul_eq_zero];split<;>simp_all
 have s1:=Ui a b;have s2:=Ui c d;unfold Qj;generalize Wg a b=s at *;generalize Wg c d=t at *;generalize a*b=p at *;generalize c*d=q at *;rcases s1 with rfl | rfl<;>rcases s2 with rfl | rfl<;>simp at * <;> (try unfold ZcO)<;>(try (split<;>(try split)))<;>omega
def Small31 (xs:List Int) : Prop:=∀ x∈xs,0<=x/\x<=2147483647
theorem Small31.get {xs:List Int}(h:Small31 xs){k:Nat}{x:Int}(hk:xs[k]?=some x) : 0<=x/\x<=2147483647:=h x (List.mem_of_getElem? hk)
theorem ZgA {n:Int}(h:Vb n=0) : 0<=n/\n<=2147483647:=by
 unfold Vb at h;split at h
 ·cases h
 ·split at h
  ·cases h
  ·omega
theorem U9 : ∀ {l:List Int},YY l=0->∀ x∈l,0<=x/\x<=2147483647
 | [],_,x,hx=>by cases hx
 | y::l,h,x,hx=>by
  unfold YY at h;split at h
  ·rename_i h0
   rcases List.mem_cons.1 hx with rfl | hx
   ·exact ZgA h0
   ·exact U9 h x hx
  ·exact absurd h ‹_›
theorem ZbV : ∀ {xs ys:List Int},xs.length=ys.length->(∀ x∈xs,x∈Vc xs ys)/\(∀ y∈ys,y∈Vc xs ys)
 | [],[],_=>by simp
 | x::xs,y::ys,h=>by
  obtain⟨h1,h2⟩:=ZbV (xs:=xs) (ys:=ys) (by simpa using h);simp only[Vc];refine⟨fun z hz=>?_,fun z hz=>?_⟩
  ·rcases List.mem_cons.1 hz with rfl | hz
   ·simp
   ·simp[h1 z hz]
  ·rcases List.mem_cons.1 hz with rfl | hz
   ·simp
   ·simp[h2 z hz]
 | [],_::_,h=>by simp at h
 | _::_,[],h=>by simp at h
structure KnapOk (i:InstP) : Prop where
 n1:1<=i.n
 n2:i.n<=64
 w:(i.weight.length:Int)=i.n
 v:(i.value.length:Int)=i.n
 cap:0<=i.cap/\i.cap<=2147483647
 sw:Small31 i.weight
 sv:Small31 i.value
 cost:i.cost=[]
theorem Yj {i:InstP}(h:Zk i=0)(hk:i.kind=1) : KnapOk i:=by
 unfold Zk at h
 by_cases hs:XJ i.kind i.n=0
 ·rw[if_pos hs] at h
  by_cases hsh:Vd i=true
  ·rw[if_pos hsh,if_pos hk] at h
   unfold Vd at hsh;rw[if_pos hk] at hsh;simp only[Bool.and_eq_true,beq_iff_eq] at hsh;obtain⟨⟨h1,h2⟩,h3⟩:=hsh;unfold XJ at hs;rw[if_pos hk] at hs;have hn:1<=i.n/\i.n<=64:=by
    split at hs
    ·cases hs
    ·split at hs
     ·cases hs
     ·omega
   have hl:i.weight.length=i.value.length:=by omega
   unfold Yc at h;rw[List.take_length,hl,List.take_length] at h;have hb:=U9 h;obtain⟨m1,m2⟩:=ZbV hl;exact⟨hn.1,hn.2,h1,h2,hb _ (by simp),fun x hx=>hb x (by simp[m1 x hx]),fun x hx=>hb x (by simp[m2 x hx]),List.eq_nil_of_length_eq_zero (by omega)⟩
  ·rw[if_neg hsh] at h
   cases h
 ·rw[if_neg hs] at h
  exact absurd h hs
def BoxI (w:World)(g:Nat)(xs:List Int) : Prop:=∃ A c,Blk w g 22 #[.slice A xs.length c]/\RdI w A xs/\xs.length<=9223372036854775807
theorem BoxI.ext {w w':World}{g:Nat}{xs:List Int}(h:BoxI w g xs)(x:Ext w w') : BoxI w' g xs:=by
 obtain⟨A,c,h1,h2,h3⟩:=h;exact⟨A,c,h1.ext x,h2.ext x,h3⟩
theorem ZgB (vs ws:List Int)(gv gw a b:Nat)(w:World)(hv:BoxI w gv vs)(hw:BoxI w gw ws)(sv:Small31 vs)(sw:Small31 ws)(ha:a<vs.length)(hb:b<vs.length)(ha':a<ws.length)(hb':b<ws.length) :
  Calls Tryz.prog 80 (#[.int .i64 a,.int .i64 b]++#[.pointer (some ⟨gw,0,none⟩),.pointer (some ⟨gv,0,none⟩)]) w fun e w'=>e=.returned (.bool (YE vs ws a b))/\Ext w w':=by
 obtain⟨A,c,B1,rv,lv⟩:=hv;obtain⟨B,d,B2,rw',lw⟩:=hw;obtain⟨g1,o1,va,rfl,z1,c1,e1,_⟩:=rv.at ha;obtain⟨g1',o1',vb,h1',z1',c2,e2,_⟩:=rv.at hb;obtain⟨rfl,rfl⟩:g1=g1'/\o1=o1':=by injection h1' with h;injection h with h3 h4;exact⟨h3,h4⟩
 obtain⟨g2,o2,wa,rfl,z2,c3,e3,_⟩:=rw'.at ha';obtain⟨g2',o2',wb,h2',z2',c4,e4,_⟩:=rw'.at hb';obtain⟨rfl,rfl⟩:g2=g2'/\o2=o2':=by injection h2' with h;injection h with h3 h4;exact⟨h3,h4⟩
 have bva:=sv.get e1.out;have bvb:=sv.get e2.out;have bwa:=sw.get e3.out;have bwb:=sw.get e4.out;have HA:Hid (YE vs ws a b=if wb=0 then false else if wa=0 then true else decide (vb*wa<va*wb)):=Hd (by
  unfold YE;rw[getD_some e1.out,getD_some e2.out,getD_some e3.out,getD_some e4.out])
 have d1:=B1.c0;have d2:=B2.c0;have y1:=B1.lt;have y2:=B2.lt;clear h1' h2' rv rw' B1 B2 sv sw
 by_cases hwb:wb=0
 ·subst hwb
  have HR:Hid (YE vs ws a b=false):=by
   have h:=HA.out;rw[if_pos rfl] at h;exact h
  go_enter Tryz.func80,Tryz.ntmps80;go_wp2;go_ret;exact⟨XX HR.out.symm,Ext.rf _⟩
 ·have hwb':(wb==0)=false:=by simpa using hwb
  by_cases hwa:wa=0
  ·subst hwa
   have HR:Hid (YE vs ws a b=true):=by
    have h:=HA.out;rw[if_neg hwb,if_pos rfl] at h;exact h
   clear hwb;go_enter Tryz.func80,Tryz.ntmps80;go_wp2;go_ret;exact⟨XX HR.out.symm,Ext.rf _⟩
  ·have hwa':(wa==0)=false:=by simpa using hwa
   have HR:Hid (YE vs ws a b=decide (0<Qj va wb vb wa)):=by
    have h:=HA.out;rw[if_neg hwb,if_neg hwa] at h;have h2:decide (vb*wa<va*wb)=decide (0<Qj va wb vb wa):=by
     rw[decide_eq_decide];exact(ZeS bva.1 bwb.1 bvb.1 bwa.1).symm
    rw[h2] at h;exact h
   clear hwb hwa;go_enter Tryz.func80,Tryz.ntmps80;go_wp2_with (fail);go_region_held3 (fun w'=>w'.cell? ⟨gv,0,none⟩=some (.slice (some ⟨g1,o1,none⟩) vs.length c)/\w'.cell? ⟨gw,0,none⟩=some (.slice (some ⟨g2,o2,none⟩) ws.length d)/\w'.cell? ⟨g1,o1+a,none⟩=some (.int .i64 va)/\w'.cell? ⟨g1,o1+b,none⟩=some (.int .i64 vb)/\w'.cell? ⟨g2,o2+a,none⟩=some (.int .i64 wa)/\w'.cell? ⟨g2,o2+b,none⟩=some (.int .i64 wb)) (go_keep)
    (first
     | (go_at_call 81;refine(Zgz va wb vb wa _ bva bwb bvb bwa).mono ?_;rintro e w2 ⟨rfl,x2⟩;have X2:=Ext.tr (a:=w) XI x2;have k1:=Zd X2 y1 d1;have k2:=Zd X2 y2 d2;have k3:=Zd X2 z1 c1;have k4:=Zd X2 z1 c2;have k5:=Zd X2 z2 c3;have k6:=Zd X2 z2 c4))
   all_goals go_wp2
   all_goals go_ret
   all_goals exact⟨XX HR.out.symm,by(repeat (first | assumption | exact Ext.rf _ | apply Ext.drew | apply Ext.drewN | apply Ext.alloc))⟩
theorem ZcP : ∀ args w,(callFunc 80 args).run Tryz.prog w=.ok (.enter 80 args) w:=enters_of Tryz.func80 (by kernel_rfl) rfl
def nl (l:List Nat) : List Int:=l.map fun n:Nat=>(n:Int)
theorem ZT (l:List Nat) : (nl l).length=l.length:=by simp[nl]
theorem ZaN {l:List Nat}{k n:Nat}(h:l[k]?=some n) : (nl l)[k]?=some (n:Int):=by simp[nl,h]
theorem ZcQ (a b:List Nat) : nl (a++b)=nl a++nl b:=by simp[nl]
def XK (n k:Nat) : List Int:=(List.range n).map fun i=>if i<k then(i:Int) else 0
theorem ZeT (n k:Nat) : (XK n k).length=n:=by simp[XK]
theorem Zdz (n:Nat) : XK n 0=List.replicate n 0:=by
 simp[XK,List.map_const']
theorem ZdA (n k:Nat) : XK n (k+1)=(XK n k).set k k:=by
 refine List.ext_getElem (by simp[XK]) fun i h1 h2=>?_
 rw[List.getElem_set];simp only[XK,List.getElem_map,List.getElem_range]
 by_cases h:k=i
 ·subst h;simp
 ·rw[if_neg h]
  by_cases h3:i<k
  ·rw[if_pos h3,if_pos (by omega)]
  ·rw[if_neg h3,if_neg (by omega)]
theorem ZdB (n:Nat) : XK n n=nl (List.range n):=by
 refine List.ext_getElem (by simp[XK,nl]) fun i h1 h2=>?_
 simp only[XK,nl,List.getElem_map,List.getElem_range];rw[if_pos (by simpa [XK] using h1)]
def ZhQ (l:List Int)(base:Nat)(w:World)(e:Ending)(w':World) : Prop:=∃ A c,e=.returned (.slice A l.length c)/\OwI w' base A c l/\Ext w w'
theorem ZgC (n:Nat)(w:World)(hn:n<=1000000000) : Calls Tryz.prog 79 #[.int .i64 n] w (ZhQ (nl (List.range n)) w.heap.size w):=by
 go_enter Tryz.func79,Tryz.ntmps79;go_wp2_with (at_make;refine W7 _ rfl _ _ rfl w.heap.size _ _ n rfl rfl rfl rfl (by omega) (Nat.le_refl _) ?_;rintro w1 hown hg);have X1:=Hd ((Ext.rf w).grownNone hg);replace hown:=Hd hown;clear hg;go_loopw [9] (fun i wr=>∃ k:Nat,i=.int .i64 k/\k<=n/\Hid (OwI wr w.heap.size (some ⟨w.heap.size,0,none⟩) n (XK n k))/\Ext w wr) (fun i _=>n-(intOf i).toNat)
 case atStart=>exact⟨0,rfl,by omega,by rw[Zdz];exact hown,X1.out⟩
 case round =>
  obtain⟨k,rfl,hk,HO,Y⟩:=hrel
  by_cases hlt:k<n
  ·obtain⟨x,hc,hf,hb,hx,hs⟩:=HO.out.cell (k:=k) (by rw[ZeT];exact hlt)
   have HS:Hid (OwI (wr.setCell ⟨w.heap.size,k,none⟩ (.int .i64 k)) w.heap.size (some ⟨w.heap.size,0,none⟩) n (XK n (k+1))):=by
    have h:=hs.out k;rw[<-ZdA] at h;exact h
   have Y2:=Hd (Y.setNew (p:=⟨w.heap.size,k,none⟩) (Nat.le_refl _) (.int .i64 k));clear hx hs;go_wp2;go_roundw
   case rel=>exact⟨k+1,by go_num,by omega,HS,Y2.out⟩
   case measure=>simp[intOf];omega
  ·obtain rfl:k=n:=by omega
   go_wp2;go_ret;refine⟨some ⟨w.heap.size,0,none⟩,k,?_,?_,Y⟩
   ·rw[ZT,List.length_range]
    rfl
   ·rw[<-ZdB]
    exact HO.out
section
variable (w:World)
theorem ZdC {ops:Array Oper}{rest:List Oper}{o:Oper}{a:Act}{Q:Exit->Act->World->Prop}(hgd:o.guard=none)(l c:Operand)(hop:o.op=Op.makeSlice 22 l c)
  (base:Nat) (C:Int) (n:Nat) (hl:a.eval l=.int .i64 0) (hc:a.eval c=.int .i64 C) (hC:C=(n:Int)) (hn:n<=2^44) (hbase:base<=w.heap.size)
  (hK:∀ w',OwI w' base (some ⟨w.heap.size,0,none⟩) n []->w.grownBy w' none->wpList Tryz.prog ops Q rest (a.put o.dst (.slice (some ⟨w.heap.size,0,none⟩) 0 n)) w') :
  wpList Tryz.prog ops Q (o::rest) a w:=by
 obtain⟨i0,hi,hz0,hz1,hz2⟩:=info_parts XE;refine wpList_make_own w hgd l c _ hop base 3 i0 _ 1 Tryz.underlying22 hi hz0 hz1 .i64 .i64 C n hl hc hC (by rw[hz2];omega) (by simp only[maxLen];omega) hbase (fun w' h2 h3=>hK w' ?_ h3);exact h2
end
theorem RdI.dropA {w:World}{A:Option Addr}{xs:List Int}(h:RdI w A xs)(k:Nat) : RdI w (A.map (·.add k)) (xs.drop k):=by
 rcases h with rfl | ⟨b,off,rfl,hb,hc⟩
 ·exact .inl (by simp)
 ·refine .inr ⟨b,off+k,by simp[add_plain],hb,fun j v hj=>?_⟩
  rw[List.getElem?_drop] at hj;rw[Nat.add_assoc];exact hc _ v hj
def AheadOf (g:Nat)(lb:Array Value)(lt:Nat->Nat->Bool)(n:Nat)(w:World) : Prop :=
 ∀ (W:World) (a b:Nat),a<n->b<n->Ext w W->Calls Tryz.prog g (#[.int .i64 a,.int .i64 b]++lb) W fun e w'=>e=.returned (.bool (lt a b))/\Ext W w'
theorem AheadOf.ext {g:Nat}{lb:Array Value}{lt:Nat->Nat->Bool}{n:Nat}{w w':World}(h:AheadOf g lb lt n w)(x:Ext w w') : AheadOf g lb lt n w':=fun W a b ha hb y=>h W a b ha hb (x.tr y)
def ZgD (A0:Option Addr)(l:List Nat)(w:World)(e:Ending)(w':World) : Prop:=∃ A c,e=.returned (.slice A l.length c)/\RdI w' A (nl l)/\l.length<=c/\c<=9223372036854775807/\Ext w w'/\∀ k,bl A=some k->bl A0=some k\/w.heap.size<=k
theorem ZgE (g:Nat)(lb:Array Value)(lt:Nat->Nat->Bool)(n:Nat)(eg:∀ args w,(callFunc g args).run Tryz.prog w=.ok (.enter g args) w) :
  ∀ (f:Nat) (p:List Nat) (m:Nat) (A:Option Addr) (c:Nat) (w:World),m=p.length->p.length<=f+1->(∀ x∈p,x<n)->RdI w A (nl p)->p.length<=c->c<=9223372036854775807->p.length<=1000000->AheadOf g lb lt n w ->
  Calls Tryz.prog 78 #[.slice A m c,.func (.func g) #[] lb] w (ZgD A (ZQ lt f p) w):=by
 intro f
 induction f with
 | zero =>
  intro p m A c w hm hf hp hA lc mc ls hlt;subst hm;have h2:p.length<2:=by omega
  clear hf hlt;go_enter Tryz.func78,Tryz.ntmps78;go_wp2;go_ret;exact⟨A,c,rfl,hA,lc,mc,Ext.rf _,fun _ hk=>.inl hk⟩
 | succ f ih =>
  intro p m A c w hm hf hp hA lc mc ls hlt
  by_cases h2:p.length<2
  ·subst hm
   have HM:Hid (ZQ lt (f+1) p=p):=Hd (by unfold ZQ;rw[if_pos h2]);clear hf hlt ih;go_enter Tryz.func78,Tryz.ntmps78;go_wp2;go_ret;exact⟨A,c,by rw[HM.out];rfl,by rw[HM.out];exact hA,by rw[HM.out];exact lc,mc,Ext.rf _,fun _ hk=>.inl hk⟩
  ·have HM:Hid (ZQ lt (f+1) p=List.merge (ZQ lt f (p.take (p.length / 2))) (ZQ lt f (p.drop (p.length / 2))) (fun x y => !lt y x)):=by
    have h:ZQ lt (f+1) p=List.merge (ZQ lt f (p.take (p.length / 2))) (ZQ lt f (p.drop (p.length / 2))) (fun x y => !lt y x):=by
     conv=>lhs;unfold ZQ
     rw[if_neg h2]
    exact h
   obtain⟨hv,hh⟩:∃ hv,hv=p.length / 2:=⟨_,rfl⟩;rw[<-hh] at HM;have eh:(p.length:Int) / 2=(hv:Int):=by omega
   have h1:1<=hv:=by omega
   have h3:hv<p.length:=by omega
   have hc:hv<c:=by omega
   have lp:=Zat lt f (p.take hv);have lq:=Zat lt f (p.drop hv);have pp:=Yb lt f (p.take hv);have pq:=Yb lt f (p.drop hv);have i1:=fun(w':World) (x:Ext w w')=>ih (p.take hv) hv A c w' (by simp;omega) (by simp;omega) (fun x hx=>hp x (List.mem_of_mem_take hx)) (by have:=(hA.ext x).take hv;simpa [nl,List.map_take] using this) (by simp;omega) mc (by simp;omega) (hlt.ext x)
   obtain⟨b,off,x0,rfl,_,_,_,_⟩:=hA.at (k:=0) (by rw[ZT];omega);have i2:=fun(w':World) (x:Ext w w')=>ih (p.drop hv) (p.length-hv) (some ⟨b,off+hv,none⟩) (c-hv) w' (by simp) (by simp;omega) (fun x hx=>hp x (List.mem_of_mem_drop hx)) (by have:=(hA.ext x).dropA hv;simpa [nl,List.map_drop,add_plain] using this) (by simp;omega) (by omega) (by simp;omega) (hlt.ext x)
   subst hm;replace i1:=Hd i1;replace i2:=Hd i2;replace hA:=Hd hA;replace hlt:=Hd hlt;replace lp:=Hd lp;replace lq:=Hd lq;replace pp:=Hd pp;replace pq:=Hd pq;replace hp:=Hd hp;replace hh:=Hd hh;clear ih hf;go_enter Tryz.func78,Tryz.ntmps78;go_wp2_with (fail);have b1:(0:Int)<=(hv:Int):=by omega
   have b2:(hv:Int)<=(c:Int):=by omega
   have b3:(hv:Int)<=(p.length:Int):=by omega
   go_region_held3 (fun _=>True) (trivial)
    (first
     | (go_at_call_of 78 (Value.slice (some ⟨b,off,none⟩) hv c);refine(i1.out _ XI).mono ?_;rintro e w1 ⟨A1,c1,rfl,r1,l1,m1,x1,_⟩;have y1:=Ext.tr (a:=w) XI x1)
     | (go_at_call_of 78 (Value.slice (some ⟨b,off+hv,none⟩) (p.length-hv) (c-hv));refine(i2.out _ (by(repeat (first | assumption | exact Ext.rf _ | apply Ext.drew | apply Ext.drewN | apply Ext.alloc)))).mono ?_;rintro e w2 ⟨A2,c2,rfl,r2,l2,m2,x2,_⟩;have y2:=Ext.tr (a:=w) y1 x2))
   have LL:=lp.out;have LR:=lq.out;have ML:∀ x∈ZQ lt f (p.take hv),x<n:=fun x hx=>hp.out x (List.mem_of_mem_take (pp.out.mem_iff.1 hx))
   have MR:∀ x∈ZQ lt f (p.drop hv),x<n:=fun x hx=>hp.out x (List.mem_of_mem_drop (pq.out.mem_iff.1 hx))
   rw[List.length_take] at LL;rw[List.length_drop] at LR;clear lp lq pp pq i1 i2 eh;generalize ZQ lt f (p.take hv)=L0 at *;generalize ZQ lt f (p.drop hv)=R0 at *;have lsum:L0.length+R0.length<=1000000:=by omega
   have lsum2:Hid (L0.length+R0.length=p.length):=by
    have h9:L0.length+R0.length=p.length:=by omega
    exact h9
   clear LL LR;have r1':=Hd (r1.ext x2);replace r2:=Hd r2;replace ML:=Hd ML;replace MR:=Hd MR;clear r1 x1 x2 y1;go_wp2_with (at_make;refine ZdC _ rfl _ _ rfl w2.heap.size _ p.length rfl rfl rfl (by omega) (Nat.le_refl _) ?_;rintro w3 o3 g3);have X3:=(Ext.rf w2).grownNone g3;have O3:=Hd o3;clear o3 g3 hA b1 b2 b3;obtain⟨M,hM⟩:∃ M,Hid (M=List.merge L0 R0 (fun x y => !lt y x)):=⟨_,rfl⟩;go_loopw [6,7,8] (fun l r o wr=>∃ (B1 B2 B3:Option Addr) (d1 d2 d3:Nat) (L R O:List Nat),l=.slice B1 L.length d1/\r=.slice B2 R.length d2/\o=.slice B3 O.length d3 /\
     Hid (RdI w2 B1 (nl L)/\RdI w2 B2 (nl R)/\OwI wr w2.heap.size B3 d3 (nl O)/\O++List.merge L R (fun x y => !lt y x)=M/\(∀ x∈L,x<n)/\(∀ x∈R,x<n))/\L.length<=d1/\d1<=9223372036854775807/\R.length<=d2/\d2<=9223372036854775807/\O.length+L.length+R.length<=1000000/\Ext w2 wr)
    (fun l r _ _=>match l,r with | .slice _ n _,.slice _ m _=>n+m | _,_=>0)
   case atStart=>exact⟨A1,A2,_,c1,c2,p.length,L0,R0,[],rfl,rfl,rfl,⟨r1'.out,r2.out,O3.out,by rw[hM.out];rfl,ML.out,MR.out⟩,l1,m1,l2,m2,by simp;omega,X3⟩
   case round =>
    obtain⟨wo,rfl⟩:=Wq wr;obtain⟨B1,B2,B3,d1,d2,d3,L,R,O,rfl,rfl,rfl,HH,e1,e2,e3,e4,e5,Y⟩:=hrel;obtain⟨r1w,r2w,ho,hsum,mL,mR⟩:=HH.out;have r1x:=r1w.ext Y;have r2x:=r2w.ext Y
    by_cases hL:L=[]
    ·subst hL
     have HE:Hid (O++[]++R=M):=by
      have h9:O++[]++R=M:=by rw[<-hsum,List.nil_merge,List.append_nil]
      exact h9
     clear hsum;simp only[List.length_nil] at *;have tok1:True:=trivial;go_wp2_with (first
      | (at_builtin;have _t:=tok1;refine Yx _ rfl _ _ rfl w2.heap.size B3 O.length d3 (nl O) (nl []) B1 d1 rfl rfl (by simp[ZT]) ?_ ?_ ?_ ?_ ?_;(exact ho);(exact r1x);(simp[ZT];omega);(exact Y.size);rintro A5 c5 w5 o5 g5 _;have X5:=Y.grow g5 (fun k hk=>(ho.lt k hk).1);clear tok1)
      | (at_builtin;refine Yx _ rfl _ _ rfl w2.heap.size A5 _ c5 (nl O++nl []) (nl R) B2 d2 rfl (by rw[ZT R];rfl) (by simp[ZT]) ?_ ?_ ?_ ?_ ?_;(exact o5);(exact r2w.ext X5);(simp[ZT];omega);(exact X5.size);rintro A6 c6 w6 o6 g6 _;have X6:=X5.grow g6 (fun k hk=>(o5.lt k hk).1)))
     have le6:=o6.le;have eL:(nl O++nl []++nl R)=nl (ZQ lt (f+1) p):=by rw[HM.out,<-hM.out,<-HE.out,ZcQ,ZcQ]
     rw[eL] at o6 le6;refine bodyPost_ret (v:=.slice A6 (ZQ lt (f+1) p).length c6) ?_ rfl ⟨A6,c6,rfl,o6.read,by rw[ZT] at le6;exact le6.1,le6.2,Ext.tr y2 X6,fun kk hkk=>.inr (Nat.le_trans y2.size (o6.lt kk hkk).1)⟩;have eN:(ZQ lt (f+1) p).length=(nl O++nl []++nl R).length:=by rw[eL,ZT]
     rw[eN];simp[results,Tryz.results78,go_sem]
    ·have hL':0<L.length:=List.length_pos_iff.2 hL
     by_cases hR:R=[]
     ·subst hR
      have HE:Hid (O++L++[]=M):=by
       have h9:O++L++[]=M:=by rw[<-hsum,List.merge_right,List.append_nil]
       exact h9
      clear hsum hL;simp only[List.length_nil] at *;have tok1:True:=trivial;go_wp2_with (first
       | (at_builtin;have _t:=tok1;refine Yx _ rfl _ _ rfl w2.heap.size B3 O.length d3 (nl O) (nl L) B1 d1 rfl (by rw[ZT L];rfl) (by simp[ZT]) ?_ ?_ ?_ ?_ ?_;(exact ho);(exact r1x);(simp[ZT];omega);(exact Y.size);rintro A5 c5 w5 o5 g5 _;have X5:=Y.grow g5 (fun k hk=>(ho.lt k hk).1);clear tok1)
       | (at_builtin;refine Yx _ rfl _ _ rfl w2.heap.size A5 _ c5 (nl O++nl L) (nl []) B2 d2 rfl rfl (by simp[ZT]) ?_ ?_ ?_ ?_ ?_;(exact o5);(exact r2w.ext X5);(simp[ZT];omega);(exact X5.size);rintro A6 c6 w6 o6 g6 _;have X6:=X5.grow g6 (fun k hk=>(o5.lt k hk).1)))
      have le6:=o6.le;have eL:(nl O++nl L++nl [])=nl (ZQ lt (f+1) p):=by rw[HM.out,<-hM.out,<-HE.out,ZcQ,ZcQ]
      rw[eL] at o6 le6;refine bodyPost_ret (v:=.slice A6 (ZQ lt (f+1) p).length c6) ?_ rfl ⟨A6,c6,rfl,o6.read,by rw[ZT] at le6;exact le6.1,le6.2,Ext.tr y2 X6,fun kk hkk=>.inr (Nat.le_trans y2.size (o6.lt kk hkk).1)⟩;have eN:(ZQ lt (f+1) p).length=(nl O++nl L++nl []).length:=by rw[eL,ZT]
      rw[eN];simp[results,Tryz.results78,go_sem]
     ·obtain⟨a,L,rfl⟩:=List.exists_cons_of_ne_nil hL
      obtain⟨d,R,rfl⟩:=List.exists_cons_of_ne_nil hR;have hL9:0<(a::L).length:=by simp
      have hR9:0<(d::R).length:=by simp
      obtain⟨bb1,oo1,x1,rfl,zb1,ka,ea,_⟩:=r1w.at (k:=0) (by simp[nl]);obtain⟨bb2,oo2,x2',rfl,zb2,kd,ed,_⟩:=r2w.at (k:=0) (by simp[nl]);obtain rfl:x1=(a:Int):=by have h9:=ea.out;simp[nl] at h9;exact h9.symm
      obtain rfl:x2'=(d:Int):=by have h9:=ed.out;simp[nl] at h9;exact h9.symm
      rw[Nat.add_zero] at ka kd;have ka':=Zd Y zb1 ka;have kd':=Zd Y zb2 kd;have hcall:=fun(W:World) (x:Ext wo W)=>hlt.out W d a (mR d (by simp)) (mL a (by simp)) ((y2.tr Y).tr x)
      clear ea ed hL hR r1x r2x hL'
      cases hq:lt d a with
      | true =>
       simp only[hq] at hcall;have hsum2:Hid (O++(d::List.merge (a::L) R (fun x y => !lt y x))=M):=by
        have h9:O++(d::List.merge (a::L) R (fun x y => !lt y x))=M:=by
         rw[<-hsum,List.cons_merge_cons,if_neg (by simp[hq])]
        exact h9
       clear hq hsum;replace hcall:=Hd hcall;replace ho:=Hd ho;replace r1w:=Hd r1w;replace r2w:=Hd r2w;go_wp2_with (fail);go_region_held3 (fun w'=>w'.cell? ⟨bb1,oo1,none⟩=some (.int .i64 (a:Nat))/\w'.cell? ⟨bb2,oo2,none⟩=some (.int .i64 (d:Nat))) (go_keep)
        (first | (go_at_fn g;refine(hcall.out _ XI).mono ?_;rintro e w4 ⟨rfl,x4⟩;have Y4:=Ext.tr (a:=w2) (by(repeat (first | assumption | exact Ext.rf _ | apply Ext.drew | apply Ext.drewN | apply Ext.alloc))) x4;have s1:=Zd Y4 zb1 ka;have s2:=Zd Y4 zb2 kd;have ho4:=Hd (ho.out.ext (Ext.tr (a:=wo) XI x4))))
       by_cases hcap:d2=1
       ·subst hcap
        have t0:R.length=0:=by simp only[List.length_cons] at *;omega
        obtain rfl:R=[]:=List.eq_nil_of_length_eq_zero t0;clear t0;go_wp2_with (fail);go_region_held3 (fun w'=>w'.cell? ⟨bb2,oo2,none⟩=some (.int .i64 (d:Nat))) (go_keep)
         (first | (refine W6 _ (by rfl) _ _ (by rfl) w2.heap.size B3 O.length d3 (nl O) [((d:Nat):Int)] (some ⟨w4.heap.size,0,none⟩) 1 (by rfl) (by rfl) (by rw[ZT O]) ?_ ?_ ?_ ?_ ?_;(refine OwI.ext ho4.out ?_;exact XI);(exact .blk (by(first | exact .new (by simp) | exact .drew (.new (by simp)) | exact .alloc (.new (by simp)) _ | exact .drew (.alloc (.new (by simp)) _) | exact .alloc (.alloc (.new (by simp)) _) _ | exact .drew (.alloc (.alloc (.new (by simp)) _) _) | (repeat (first | assumption | (refine Blk.new ?_;(focus (simp;done))) | apply Blk.drew | apply Blk.drewN | apply Blk.alloc)))) rfl);(rw[ZT O];simp;omega);(have:=Y4.size;simp;omega);rintro A7 c7 w7 o7 g7 _;have Y7:Ext w2 w7:=Ext.grow (a:=w2) (by(repeat (first | assumption | exact Ext.rf _ | apply Ext.drew | apply Ext.drewN | apply Ext.alloc))) g7 (fun kk hkk=>(ho.out.lt kk hkk).1);have s1:=Zd Y7 zb2 kd))
        go_wp2;have O7:Hid (OwI w7 w2.heap.size A7 c7 (nl (O++[d]))):=by
         have h9:=o7;rw[show nl O++[((d:Nat):Int)]=nl (O++[d]) from by simp[nl]] at h9;exact h9
        have eO:(nl O).length+1=(O++[d]).length:=by simp[nl]
        clear o7 g7;go_roundw
        case rel=>exact⟨some ⟨bb1,oo1,none⟩,some ⟨bb2,oo2,none⟩,A7,d1,0,c7,a::L,[],O++[d],by first | rfl | (simp;done) | (simp[nl];done) | (rw[if_neg (by omega)];done) | (rw[<-eO];done),by first | rfl | (simp;done) | (simp[nl];done) | (rw[if_neg (by omega)];done) | (rw[<-eO];done),by first | rfl | (simp;done) | (simp[nl];done) | (rw[if_neg (by omega)];done) | (rw[<-eO];done),⟨r1w.out,.inl rfl,O7.out,by rw[<-hsum2.out,List.append_assoc];rfl,mL,fun x hx=>mR x (by simp[hx])⟩,by simp only[List.length_cons] at *;omega,by omega,by simp only[List.length_cons,List.length_nil] at *;omega,by omega,by simp only[List.length_append,List.length_cons,List.length_nil] at *;omega,Y7⟩
        case measure=>simp
       ·have hcap2:1<d2:=by simp only[List.length_cons] at *;omega
        have q1:(1:Int)<=(d2:Int):=by omega
        have q2:(1:Int)<=(R.length:Int)+1:=by omega
        clear hcap;go_wp2_with (fail);go_region_held3 (fun w'=>w'.cell? ⟨bb2,oo2,none⟩=some (.int .i64 (d:Nat))) (go_keep)
         (first | (refine W6 _ (by rfl) _ _ (by rfl) w2.heap.size B3 O.length d3 (nl O) [((d:Nat):Int)] (some ⟨w4.heap.size,0,none⟩) 1 (by rfl) (by rfl) (by rw[ZT O]) ?_ ?_ ?_ ?_ ?_;(refine OwI.ext ho4.out ?_;exact XI);(exact .blk (by(first | exact .new (by simp) | exact .drew (.new (by simp)) | exact .alloc (.new (by simp)) _ | exact .drew (.alloc (.new (by simp)) _) | exact .alloc (.alloc (.new (by simp)) _) _ | exact .drew (.alloc (.alloc (.new (by simp)) _) _) | (repeat (first | assumption | (refine Blk.new ?_;(focus (simp;done))) | apply Blk.drew | apply Blk.drewN | apply Blk.alloc)))) rfl);(rw[ZT O];simp;omega);(have:=Y4.size;simp;omega);rintro A7 c7 w7 o7 g7 _;have Y7:Ext w2 w7:=Ext.grow (a:=w2) (by(repeat (first | assumption | exact Ext.rf _ | apply Ext.drew | apply Ext.drewN | apply Ext.alloc))) g7 (fun kk hkk=>(ho.out.lt kk hkk).1);have s1:=Zd Y7 zb2 kd))
        go_wp2;have O7:Hid (OwI w7 w2.heap.size A7 c7 (nl (O++[d]))):=by
         have h9:=o7;rw[show nl O++[((d:Nat):Int)]=nl (O++[d]) from by simp[nl]] at h9;exact h9
        have eO:(nl O).length+1=(O++[d]).length:=by simp[nl]
        clear o7 g7;go_roundw
        case rel=>exact⟨some ⟨bb1,oo1,none⟩,some ⟨bb2,oo2+1,none⟩,A7,d1,d2-1,c7,a::L,R,O++[d],by first | rfl | (simp;done) | (simp[nl];done) | (rw[if_neg (by omega)];done) | (rw[<-eO];done),by first | rfl | (simp;done) | (simp[nl];done) | (rw[if_neg (by omega)];done) | (rw[<-eO];done),by first | rfl | (simp;done) | (simp[nl];done) | (rw[if_neg (by omega)];done) | (rw[<-eO];done),⟨r1w.out,by have h9:=r2w.out.dropA 1;simpa [nl,add_plain] using h9,O7.out,by rw[<-hsum2.out,List.append_assoc];rfl,mL,fun x hx=>mR x (by simp[hx])⟩,by simp only[List.length_cons] at *;omega,by omega,by simp only[List.length_cons,List.length_nil] at *;omega,by omega,by simp only[List.length_append,List.length_cons,List.length_nil] at *;omega,Y7⟩
        case measure=>simp
      | false =>
       simp only[hq] at hcall;have hsum2:Hid (O++(a::List.merge L (d::R) (fun x y => !lt y x))=M):=by
        have h9:O++(a::List.merge L (d::R) (fun x y => !lt y x))=M:=by
         rw[<-hsum,List.cons_merge_cons,if_pos (by simp[hq])]
        exact h9
       clear hq hsum;replace hcall:=Hd hcall;replace ho:=Hd ho;replace r1w:=Hd r1w;replace r2w:=Hd r2w;go_wp2_with (fail);go_region_held3 (fun w'=>w'.cell? ⟨bb1,oo1,none⟩=some (.int .i64 (a:Nat))/\w'.cell? ⟨bb2,oo2,none⟩=some (.int .i64 (d:Nat))) (go_keep)
        (first | (go_at_fn g;refine(hcall.out _ XI).mono ?_;rintro e w4 ⟨rfl,x4⟩;have Y4:=Ext.tr (a:=w2) (by(repeat (first | assumption | exact Ext.rf _ | apply Ext.drew | apply Ext.drewN | apply Ext.alloc))) x4;have s1:=Zd Y4 zb1 ka;have s2:=Zd Y4 zb2 kd;have ho4:=Hd (ho.out.ext (Ext.tr (a:=wo) XI x4))))
       by_cases hcap:d1=1
       ·subst hcap
        have t0:L.length=0:=by simp only[List.length_cons] at *;omega
        obtain rfl:L=[]:=List.eq_nil_of_length_eq_zero t0;clear t0;go_wp2_with (fail);go_region_held3 (fun w'=>w'.cell? ⟨bb1,oo1,none⟩=some (.int .i64 (a:Nat))) (go_keep)
         (first | (refine W6 _ (by rfl) _ _ (by rfl) w2.heap.size B3 O.length d3 (nl O) [((a:Nat):Int)] (some ⟨w4.heap.size,0,none⟩) 1 (by rfl) (by rfl) (by rw[ZT O]) ?_ ?_ ?_ ?_ ?_;(refine OwI.ext ho4.out ?_;exact XI);(exact .blk (by(first | exact .new (by simp) | exact .drew (.new (by simp)) | exact .alloc (.new (by simp)) _ | exact .drew (.alloc (.new (by simp)) _) | exact .alloc (.alloc (.new (by simp)) _) _ | exact .drew (.alloc (.alloc (.new (by simp)) _) _) | (repeat (first | assumption | (refine Blk.new ?_;(focus (simp;done))) | apply Blk.drew | apply Blk.drewN | apply Blk.alloc)))) rfl);(rw[ZT O];simp;omega);(have:=Y4.size;simp;omega);rintro A7 c7 w7 o7 g7 _;have Y7:Ext w2 w7:=Ext.grow (a:=w2) (by(repeat (first | assumption | exact Ext.rf _ | apply Ext.drew | apply Ext.drewN | apply Ext.alloc))) g7 (fun kk hkk=>(ho.out.lt kk hkk).1);have s1:=Zd Y7 zb1 ka))
        go_wp2;have O7:Hid (OwI w7 w2.heap.size A7 c7 (nl (O++[a]))):=by
         have h9:=o7;rw[show nl O++[((a:Nat):Int)]=nl (O++[a]) from by simp[nl]] at h9;exact h9
        have eO:(nl O).length+1=(O++[a]).length:=by simp[nl]
        clear o7 g7;go_roundw
        case rel=>exact⟨some ⟨bb1,oo1,none⟩,some ⟨bb2,oo2,none⟩,A7,0,d2,c7,[],d::R,O++[a],by first | rfl | (simp;done) | (simp[nl];done) | (rw[if_neg (by omega)];done) | (rw[<-eO];done),by first | rfl | (simp;done) | (simp[nl];done) | (rw[if_neg (by omega)];done) | (rw[<-eO];done),by first | rfl | (simp;done) | (simp[nl];done) | (rw[if_neg (by omega)];done) | (rw[<-eO];done),⟨.inl rfl,r2w.out,O7.out,by rw[<-hsum2.out,List.append_assoc];rfl,fun x hx=>mL x (by simp[hx]),mR⟩,by simp only[List.length_cons,List.length_nil] at *;omega,by omega,by simp only[List.length_cons] at *;omega,by omega,by simp only[List.length_append,List.length_cons,List.length_nil] at *;omega,Y7⟩
        case measure=>simp
       ·have hcap2:1<d1:=by simp only[List.length_cons] at *;omega
        have q1:(1:Int)<=(d1:Int):=by omega
        have q2:(1:Int)<=(L.length:Int)+1:=by omega
        clear hcap;go_wp2_with (fail);go_region_held3 (fun w'=>w'.cell? ⟨bb1,oo1,none⟩=some (.int .i64 (a:Nat))) (go_keep)
         (first | (refine W6 _ (by rfl) _ _ (by rfl) w2.heap.size B3 O.length d3 (nl O) [((a:Nat):Int)] (some ⟨w4.heap.size,0,none⟩) 1 (by rfl) (by rfl) (by rw[ZT O]) ?_ ?_ ?_ ?_ ?_;(refine OwI.ext ho4.out ?_;exact XI);(exact .blk (by(first | exact .new (by simp) | exact .drew (.new (by simp)) | exact .alloc (.new (by simp)) _ | exact .drew (.alloc (.new (by simp)) _) | exact .alloc (.alloc (.new (by simp)) _) _ | exact .drew (.alloc (.alloc (.new (by simp)) _) _) | (repeat (first | assumption | (refine Blk.new ?_;(focus (simp;done))) | apply Blk.drew | apply Blk.drewN | apply Blk.alloc)))) rfl);(rw[ZT O];simp;omega);(have:=Y4.size;simp;omega);rintro A7 c7 w7 o7 g7 _;have Y7:Ext w2 w7:=Ext.grow (a:=w2) (by(repeat (first | assumption | exact Ext.rf _ | apply Ext.drew | apply Ext.drewN | apply Ext.alloc))) g7 (fun kk hkk=>(ho.out.lt kk hkk).1);have s1:=Zd Y7 zb1 ka))
        go_wp2;have O7:Hid (OwI w7 w2.heap.size A7 c7 (nl (O++[a]))):=by
         have h9:=o7;rw[show nl O++[((a:Nat):Int)]=nl (O++[a]) from by simp[nl]] at h9;exact h9
        have eO:(nl O).length+1=(O++[a]).length:=by simp[nl]
        clear o7 g7;go_roundw
        case rel=>exact⟨some ⟨bb1,oo1+1,none⟩,some ⟨bb2,oo2,none⟩,A7,d1-1,d2,c7,L,d::R,O++[a],by first | rfl | (simp;done) | (simp[nl];done) | (rw[if_neg (by omega)];done) | (rw[<-eO];done),by first | rfl | (simp;done) | (simp[nl];done) | (rw[if_neg (by omega)];done) | (rw[<-eO];done),by first | rfl | (simp;done) | (simp[nl];done) | (rw[if_neg (by omega)];done) | (rw[<-eO];done),⟨by have h9:=r1w.out.dropA 1;simpa [nl,add_plain] using h9,r2w.out,O7.out,by rw[<-hsum2.out,List.append_assoc];rfl,fun x hx=>mL x (by simp[hx]),mR⟩,by simp only[List.length_cons,List.length_nil] at *;omega,by omega,by simp only[List.length_cons] at *;omega,by omega,by simp only[List.length_append,List.length_cons,List.length_nil] at *;omega,Y7⟩
        case measure=>simp
end
section
theorem ZdD {xs:List Int}(h:Small31 xs) : (xs.any fun n=>decide (n<0))=false:=by
 rw[List.any_eq_false];intro x hx;have:=h x hx;simp;omega
def ZgF (l:List Nat)(w:World)(e:Ending)(w':World) : Prop:=∃ A c,e=.returned (.tuple #[.slice A l.length c,.int .i64 0])/\RdI w' A (nl l)/\l.length<=c/\c<=9223372036854775807/\Ext w w'/\∀ k,bl A=some k->w.heap.size<=k
theorem ZgG (A B:Option Addr)(a b:Nat)(vs ws:List Int)(w:World)(hA:RdI w A vs)(hB:RdI w B ws)(hl:vs.length=ws.length)(h64:vs.length<=64)(sv:Small31 vs)(sw:Small31 ws) :
  Calls Tryz.prog 47 #[.slice A vs.length a,.slice B ws.length b] w (ZgF (ZR vs ws) w):=by
 have hn1:=ZdD sv;have hn2:=ZdD sw;have hne:((vs.length:Int) != (ws.length:Int))=false:=by simp[hl]
 have h64':(vs.length:Int)<=64:=by omega
 have X0:Ext w ((w.alloc (.cells #[.slice A vs.length a] 22)).alloc (.cells #[.slice B ws.length b] 22)):=((Ext.rf _).alloc _).alloc _;have bv:BoxI ((w.alloc (.cells #[.slice A vs.length a] 22)).alloc (.cells #[.slice B ws.length b] 22)) w.heap.size vs:=⟨A,a,.alloc (.new rfl) _,hA.ext X0,by omega⟩;have bw:BoxI ((w.alloc (.cells #[.slice A vs.length a] 22)).alloc (.cells #[.slice B ws.length b] 22)) (w.heap.size+1) ws:=⟨B,b,.new (by simp),hB.ext X0,by omega⟩;have Bv:Hid (Blk ((w.alloc (.cells #[.slice A vs.length a] 22)).alloc (.cells #[.slice B ws.length b] 22)) w.heap.size 22 #[.slice A vs.length a]):=.alloc (.new rfl) _;have Bw:Hid (Blk ((w.alloc (.cells #[.slice A vs.length a] 22)).alloc (.cells #[.slice B ws.length b] 22)) (w.heap.size+1) 22 #[.slice B ws.length b]):=.new (by simp);have N1:=fun(W:World) (x:Ext w W)=>Zdy A a vs W (hA.ext x) (by simp only[maxLen];omega)
 have N2:=fun(W:World) (x:Ext w W)=>Zdy B b ws W (hB.ext x) (by simp only[maxLen];omega)
 simp only[hn1] at N1;simp only[hn2] at N2;have AH:AheadOf 80 #[.pointer (some ⟨w.heap.size+1,0,none⟩),.pointer (some ⟨w.heap.size,0,none⟩)] (YE vs ws) vs.length ((w.alloc (.cells #[.slice A vs.length a] 22)).alloc (.cells #[.slice B ws.length b] 22)) :=
  fun W i j hi hj x=>ZgB vs ws w.heap.size (w.heap.size+1) i j W (bv.ext x) (bw.ext x) sv sw hi hj (by omega) (by omega)
 have MG:=fun(A':Option Addr) (c':Nat) (W:World) (hr:RdI W A' (nl (List.range vs.length))) (hc:vs.length<=c') (hm:c'<=9223372036854775807) (x:Ext ((w.alloc (.cells #[.slice A vs.length a] 22)).alloc (.cells #[.slice B ws.length b] 22)) W) =>
  ZgE 80 #[.pointer (some ⟨w.heap.size+1,0,none⟩),.pointer (some ⟨w.heap.size,0,none⟩)] (YE vs ws) vs.length ZcP vs.length (List.range vs.length) vs.length A' c' W (by simp) (by simp) (fun x hx=>List.mem_range.1 hx) hr (by simpa using hc) hm (by simp;omega) (AH.ext x)
 have HR:Hid (ZQ (YE vs ws) vs.length (List.range vs.length)=ZR vs ws):=rfl;have PL:=fun W:World=>ZgC vs.length W (by omega)
 replace hl:=Hd hl;replace X0:=Hd X0;replace bv:=Hd bv;replace bw:=Hd bw;replace N1:=Hd N1;replace N2:=Hd N2;replace MG:=Hd MG;replace PL:=Hd PL;replace hA:=Hd hA;replace hB:=Hd hB;clear hn1 hn2 sv sw AH;have hmf:∀ (fn:Fn) (first cap:Array Value) (w:World),(Instr.makeFunc fn first cap).run Tryz.prog w=.ok (.func fn first cap) w:=fun _ _ _ _=>rfl
 go_enter Tryz.func47,Tryz.ntmps47;go_wp2_with (fail);refine(N1.out _ X0.out).mono ?_;rintro e w1 ⟨rfl,x1⟩;have X1:=Hd (X0.out.tr x1);have c1:w1.cell? ⟨w.heap.size,0,none⟩=some (.slice A vs.length a):=(Bv.out.ext x1).cell 0;have c2:w1.cell? ⟨w.heap.size+1,0,none⟩=some (.slice B ws.length b):=(Bw.out.ext x1).cell 0;go_wp2_with (fail);refine(N2.out _ X1.out).mono ?_;rintro e w2 ⟨rfl,x2⟩;have X2:=Hd (X1.out.tr x2);have x12:=Hd (Ext.tr x1 x2);have d1:w2.cell? ⟨w.heap.size,0,none⟩=some (.slice A vs.length a):=(Bv.out.ext x12.out).cell 0;clear c1 c2 x2;go_wp2_with (fail);refine(PL.out _).mono ?_;rintro e w3 ⟨A3,c3,rfl,o3,x3⟩;have le3:=o3.le;have l3:vs.length<=c3:=by have h:=le3.1;rw[ZT,List.length_range] at h;exact h
 have m3:c3<=9223372036854775807:=by have h:=le3.2;unfold maxLen at h;exact h
 have e3:(nl (List.range vs.length)).length=vs.length:=by rw[ZT,List.length_range]
 have x13:=Hd (Ext.tr x12.out x3);have X3:=Hd (X2.out.tr x3);replace o3:=Hd o3;clear d1 x3 le3;go_wp2_with (fail);refine(MG.out A3 c3 _ o3.out.read l3 m3 x13.out).mono ?_;rintro e w4 ⟨A4,c4,rfl,r4,l4,m4,x4,b4⟩;have HB:Hid (∀ k,bl A4=some k->w.heap.size<=k):=fun k hk=>by
  rcases b4 k hk with h | h
  ·exact Nat.le_trans X2.out.size (o3.out.lt k h).1
  ·exact Nat.le_trans X3.out.size h
 clear b4;rw[HR.out] at r4 l4 ⊢;have X4:=Hd (X3.out.tr x4);replace r4:=Hd r4;clear x4 e3;go_wp2;go_ret2;exact⟨A4,c4,rfl,r4.out,l4,m4,X4.out,HB.out⟩
section
variable {ops:Array Oper} {i:Nat} {t:TypeId} {d:Option Tmp} {a:Act} {w:World} {K:Act->World->Prop} {Q:Exit->Act->World->Prop}
theorem ZgH {x y:Operand}(hi:XU ops i=some (none,.makeSlice 22 x y,t,d))(base n:Nat)(L:Int)(hx:a.eval x=.int .i64 L)(hy:a.eval y=.int .i64 L)(hL:L=(n:Int))(hn:n<=2^44)(hb:base<=w.heap.size)
  (hK:∀ w',OwI w' base (some ⟨w.heap.size,0,none⟩) n (List.replicate n 0)->w.grownBy w' none->K (a.put d (.slice (some ⟨w.heap.size,0,none⟩) n n)) w'):wpOp Tryz.prog ops Q i K a w:=by
 obtain⟨i0,hi0,hz0,hz1,hz2⟩:=info_parts XE;subst hL;obtain⟨w',hrun,h2,h3⟩:=run_make_full (P:=Tryz.prog) w base 22 3 i0 _ 1 Tryz.underlying22 hi0 hz0 hz1 .i64 .i64 n (by rw[hz2];omega) (by simp only[maxLen];omega) hb;refine Z5 hi _ (by simp[Ze,execOp,hx,hy,hrun]) (hK w' ?_ h3);have e:(madeCells (Value.int .i64 0).cells (n*1)).toList=(List.replicate n (0:Int)).map (Value.int .i64):=by
  simp[madeCells,Value.cells,List.map_const',Nat.mod_one]
 rw[e] at h2
 simpa [OwI] using h2
end
def KernB (w:World)(base g:Nat)(cap:Int)(l:List Nat)(ws vs bs:List Int) : Prop :=
 ∃ (PA:Option Addr) (pc:Nat) (WA:Option Addr) (wc:Nat) (VA:Option Addr) (vc:Nat) (HA:Option Addr) (hc:Nat),
  Blk w g 100 #[.int .i64 cap,.slice PA l.length pc,.slice WA ws.length wc,.slice VA vs.length vc,.slice HA bs.length hc]/\base<=g /\
  (RdI w PA (nl l)/\∀ k,bl PA=some k->base<=k)/\(RdI w WA ws/\∀ k,bl WA=some k->base<=k)/\(RdI w VA vs/\∀ k,bl VA=some k->base<=k)/\(RdI w HA bs/\∀ k,bl HA=some k->base<=k)
theorem KernB.ext {w w':World}{base g:Nat}{cap:Int}{l:List Nat}{ws vs bs:List Int}(h:KernB w base g cap l ws vs bs)(x:Ext w w') : KernB w' base g cap l ws vs bs:=by
 obtain⟨PA,pc,WA,wc,VA,vc,HA,hc,h1,h2,h3,h4,h5,h6⟩:=h;exact⟨PA,pc,WA,wc,VA,vc,HA,hc,h1.ext x,h2,⟨h3.1.ext x,h3.2⟩,⟨h4.1.ext x,h4.2⟩,⟨h5.1.ext x,h5.2⟩,⟨h6.1.ext x,h6.2⟩⟩
theorem RdI.mod {S:Nat->Prop}{w w':World}{A:Option Addr}{xs:List Int}(h:RdI w A xs)(k:Mod S w w')(hb:∀ b,bl A=some b->¬S b) : RdI w' A xs:=by
 rcases h with rfl | ⟨b,off,rfl,hlt,hc⟩
 ·exact .inl rfl
 ·refine .inr ⟨b,off,rfl,Nat.lt_of_lt_of_le hlt k.size,fun j x hj=>?_⟩
  rw[<-hc j x hj];exact World.cell?_of_block (k.block b hlt (hb b rfl))
theorem KernB.mod {S:Nat->Prop}{w w':World}{base g:Nat}{cap:Int}{l:List Nat}{ws vs bs:List Int}(h:KernB w base g cap l ws vs bs)(x:Mod S w w')(hS:∀ k,base<=k->¬S k) : KernB w' base g cap l ws vs bs:=by
 obtain⟨PA,pc,WA,wc,VA,vc,HA,hc,h1,h2,h3,h4,h5,h6⟩:=h;exact⟨PA,pc,WA,wc,VA,vc,HA,hc,h1.mod x (hS _ h2),h2,⟨h3.1.mod x fun b hb=>hS _ (h3.2 b hb),h3.2⟩,⟨h4.1.mod x fun b hb=>hS _ (h4.2 b hb),h4.2⟩,⟨h5.1.mod x fun b hb=>hS _ (h5.2 b hb),h5.2⟩,⟨h6.1.mod x fun b hb=>hS _ (h6.2 b hb),h6.2⟩⟩
def Dis (A B:Option Addr) : Prop:=∀ k,bl A=some k->bl B≠some k
theorem Dis.symm {A B:Option Addr}(h:Dis A B) : Dis B A:=fun k hk hA=>h k hA hk
theorem Dis.none (B:Option Addr) : Dis none B:=fun k hk=>by simp[bl] at hk
def Fill (w:World)(base g:Nat)(cap:Int)(PA:Option Addr)(pn pc:Nat)(ws vs bs:List Int) : Prop :=
 ∃ (WA:Option Addr) (wc:Nat) (VA:Option Addr) (vc:Nat) (HA:Option Addr) (hc:Nat),
  Blk w g 100 #[.int .i64 cap,.slice PA pn pc,.slice WA ws.length wc,.slice VA vs.length vc,.slice HA bs.length hc]/\base<=g /\
  OwI w base WA wc ws/\OwI w base VA vc vs/\OwI w base HA hc bs/\Dis WA VA/\Dis WA HA/\Dis VA HA
theorem ZaO {w w':World}{base:Nat}{A:Option Addr}{c:Nat}{xs:List Int}(h:OwI w base A c xs)(hg:w.grownBy w' (bl A)) : Mod (fun k=>bl A=some k) w w':=Mod.grown hg fun g hA=>hA
theorem Dis.after {w:World}{base:Nat}{A A' B:Option Addr}{c:Nat}{ys:List Int}(h:Dis A B)(hB:OwI w base B c ys)(hA:bl A'=bl A\/∃ g,bl A'=some g/\w.heap.size<=g) : Dis A' B:=by
 intro k hk hb;rcases hA with hA | ⟨g,hg,hlt⟩
 ·exact h k (hA ▸ hk) hb
 ·rw[hk] at hg
  obtain rfl:=Option.some.inj hg;have:=(hB.lt k hb).2;omega
theorem Fill.ext {w w':World}{base g:Nat}{cap:Int}{PA:Option Addr}{pn pc:Nat}{ws vs bs:List Int}(h:Fill w base g cap PA pn pc ws vs bs)(x:Ext w w') : Fill w' base g cap PA pn pc ws vs bs:=by
 obtain⟨WA,wc,VA,vc,HA,hc,h1,h2,h3,h4,h5,h6⟩:=h;exact⟨WA,wc,VA,vc,HA,hc,h1.ext x,h2,h3.ext x,h4.ext x,h5.ext x,h6⟩
end
section
section
variable {w w2:World} {base g pn pc wc vc hc c':Nat} {cap x:Int} {PA WA VA HA A':Option Addr} {ws vs bs:List Int}
theorem ZjO (hB:Blk w g 100 #[.int .i64 cap,.slice PA pn pc,.slice WA ws.length wc,.slice VA vs.length vc,.slice HA bs.length hc])(hg:base<=g)
  (hW:OwI w base WA wc ws) (hV:OwI w base VA vc vs) (hH:OwI w base HA hc bs) (d1:Dis WA VA) (d2:Dis WA HA) (d3:Dis VA HA)
  (hgr:w.grownBy w2 (bl WA)) (o2:OwI w2 base A' c' (ws++[x])) (alt:bl A'=bl WA\/∃ g,bl A'=some g/\w.heap.size<=g) :
  Blk w2 g 100 #[.int .i64 cap,.slice PA pn pc,.slice WA ws.length wc,.slice VA vs.length vc,.slice HA bs.length hc] /\
  Fill (w2.setCell ⟨g,2,none⟩ (.slice A' (ws.length+1) c')) base g cap PA pn pc (ws++[x]) vs bs:=by
 have M:Mod (fun k=>bl WA=some k) w w2:=ZaO hW hgr;have hB2:=hB.mod M fun h=>hW.ne hB (by decide) g h rfl
 have hV2:=hV.mod M fun k hk h=>d1 k h hk
 have hH2:=hH.mod M fun k hk h=>d2 k h hk
 refine⟨hB2,A',c',VA,vc,HA,hc,?_,hg,o2.far hB2 (by decide) 2 _,hV2.far hB2 (by decide) 2 _,hH2.far hB2 (by decide) 2 _,d1.after hV alt,d2.after hH alt,d3⟩;rw[List.length_append];exact hB2.set 2 _
theorem ZjP (hB:Blk w g 100 #[.int .i64 cap,.slice PA pn pc,.slice WA ws.length wc,.slice VA vs.length vc,.slice HA bs.length hc])(hg:base<=g)
  (hW:OwI w base WA wc ws) (hV:OwI w base VA vc vs) (hH:OwI w base HA hc bs) (d1:Dis WA VA) (d2:Dis WA HA) (d3:Dis VA HA)
  (hgr:w.grownBy w2 (bl VA)) (o2:OwI w2 base A' c' (vs++[x])) (alt:bl A'=bl VA\/∃ g,bl A'=some g/\w.heap.size<=g) :
  Blk w2 g 100 #[.int .i64 cap,.slice PA pn pc,.slice WA ws.length wc,.slice VA vs.length vc,.slice HA bs.length hc] /\
  Fill (w2.setCell ⟨g,3,none⟩ (.slice A' (vs.length+1) c')) base g cap PA pn pc ws (vs++[x]) bs:=by
 have M:Mod (fun k=>bl VA=some k) w w2:=ZaO hV hgr;have hB2:=hB.mod M fun h=>hV.ne hB (by decide) g h rfl
 have hW2:=hW.mod M fun k hk h=>d1.symm k h hk
 have hH2:=hH.mod M fun k hk h=>d3 k h hk
 refine⟨hB2,WA,wc,A',c',HA,hc,?_,hg,hW2.far hB2 (by decide) 3 _,o2.far hB2 (by decide) 3 _,hH2.far hB2 (by decide) 3 _,(d1.symm.after hW alt).symm,d2,d3.after hH alt⟩;rw[List.length_append];exact hB2.set 3 _
end
theorem ZjQ {w:World}{base g pn pc wc vc hc hb k:Nat}{cap y:Int}{PA WA VA:Option Addr}{ws vs bs:List Int}(hB:Blk w g 100 #[.int .i64 cap,.slice PA pn pc,.slice WA ws.length wc,.slice VA vs.length vc,.slice (some ⟨hb,0,none⟩) bs.length hc])(hg:base<=g)
  (hW:OwI w base WA wc ws) (hV:OwI w base VA vc vs) (hH:OwI w base (some ⟨hb,0,none⟩) hc bs) (d1:Dis WA VA) (d2:Dis WA (some ⟨hb,0,none⟩)) (d3:Dis VA (some ⟨hb,0,none⟩))
  (hs:OwI (w.setCell ⟨hb,k,none⟩ (.int .i64 y)) base (some ⟨hb,0,none⟩) hc (bs.set k y)) :
  Fill (w.setCell ⟨hb,k,none⟩ (.int .i64 y)) base g cap PA pn pc ws vs (bs.set k y):=by
 have M:Mod (fun q=>q=hb) w (w.setCell ⟨hb,k,none⟩ (.int .i64 y)):=Mod.set (S:=fun q=>q=hb) (p:=⟨hb,k,none⟩) (Mod.rf w) (.inl rfl) _;have hne:¬g=hb:=fun h=>hH.ne hB (by decide) hb rfl h.symm
 refine⟨WA,wc,VA,vc,_,hc,?_,hg,hW.mod M fun q hq h=>d2 q hq (by subst h;rfl),hV.mod M fun q hq h=>d3 q hq (by subst h;rfl),hs,d1,d2,d3⟩;rw[List.length_set];exact hB.mod M hne
def Xr (vs:List Int)(k:Nat) : List Int:=(List.range (vs.length+1)).map fun i=>if i<k then 0 else Zg (vs.drop i)
theorem VM (vs:List Int)(k:Nat) : (Xr vs k).length=vs.length+1:=by simp[Xr]
theorem ZeU (vs:List Int) : Xr vs vs.length=List.replicate (vs.length+1) 0:=by
 refine List.ext_getElem (by simp[Xr]) fun i h1 h2=>?_
 simp only[Xr,List.getElem_map,List.getElem_range,List.getElem_replicate];split
 ·rfl
 ·rw[List.drop_of_length_le (by omega)];rfl
theorem ZbW {vs:List Int}{k i:Nat}(hi:i<=vs.length)(hk:k<=i) : (Xr vs k)[i]?=some (Zg (vs.drop i)):=by
 unfold Xr;rw[List.getElem?_map,List.getElem?_range (by omega)];simp[show ¬i<k by omega]
theorem ZgI {vs:List Int}{k:Nat}{v:Int}(hv:vs[k]?=some v) : (Xr vs (k+1)).set k (Zg (vs.drop (k+1))+v)=Xr vs k:=by
 obtain⟨hk,hv⟩:=List.getElem?_eq_some_iff.1 hv;refine List.ext_getElem (by simp[Xr]) fun i h1 h2=>?_
 rw[List.getElem_set];simp only[Xr,List.getElem_map,List.getElem_range]
 by_cases h:k=i
 ·subst h
  rw[if_pos rfl,if_neg (by omega),List.drop_eq_getElem_cons hk,hv];simp only[Zg];omega
 ·rw[if_neg h]
  by_cases h3:i<k
  ·rw[if_pos (by omega),if_pos h3]
  ·rw[if_neg (by omega),if_neg h3]
theorem Zah {vs:List Int}(h:Small31 vs)(k:Nat) : 0<=Zg (vs.drop k)/\Zg (vs.drop k)<=2147483647*vs.length:=by
 have key:∀ l:List Int,(∀ x∈l,0<=x/\x<=2147483647)->0<=Zg l/\Zg l<=2147483647*l.length:=by
  intro l
  induction l with
  | nil=>intro _;simp[Zg]
  | cons x l ih =>
   intro hl;have h1:=hl x (by simp);have h2:=ih fun y hy=>hl y (by simp[hy])
   simp only[Zg,List.length_cons,Int.natCast_add,Int.natCast_one];omega
 have h1:=key (vs.drop k) fun x hx=>h x (List.mem_of_mem_drop hx)
 have h2:(vs.drop k).length<=vs.length:=by simp
 omega
theorem YS (l:List Nat)(v:List Int) : (Zu l v).length=l.length:=by simp[Zu]
theorem QS {l:List Nat}{k n:Nat}{v:List Int}{x:Int}(h:l[k]?=some n)(hx:v[n]?=some x) : Zu (l.take (k+1)) v=Zu (l.take k) v++[x]:=by
 obtain⟨hk,h⟩:=List.getElem?_eq_some_iff.1 h;unfold Zu;rw[List.take_succ_eq_append_getElem hk,List.map_append,h];simp[List.getD,hx]
theorem WC {l:List Nat}{k n:Nat}{v:List Int}{x:Int}(h:l[k]?=some n)(hx:v[n]?=some x) : (Zu l v)[k]?=some x:=by
 unfold Zu;rw[List.getElem?_map,h];simp[List.getD,hx]
end
end Go.Proofs.YtnbcmiaaleambaaGreatDoor
