/- parts, packed by a program -/
import Derived.Test.YtocfmioihaefoaaGreatDoorShellWritesP5
import Derived.LoopN
set_option maxRecDepth 100000
set_option maxHeartbeats 16000000
set_option linter.all false
namespace Go.Proofs.YtocfmioihaefoaaGreatDoor
open Go.ChangeAt Go.ChangeShapes Go.RowKit Go.WideShapes
section
def Xk (n:Nat) : List Value:=List.replicate n (Value.slice none 0 0)
theorem Zaz (n:Nat)(hn:n<=4096)(u:World) : (Instr.makeSlice 72 (.int .i64 (n:Int)) (.int .i64 (n:Int))).run Tryz.prog u=.ok (.slice (some ⟨u.heap.size,0,none⟩) n n) (u.alloc (.cells (List.toArray (Xk n)) 22)):=by
 obtain⟨i0,hi,hz0,hz1,hz2⟩:=info_parts Zc1;have h:=run_make (P:=Tryz.prog) u 72 22 i0 _ Tryz.underlying72 hi hz0 .i64 .i64 (n:Int) (n:Int) (by omega) (Int.le_refl _) (by rw[hz2];omega) (by omega);have e:madeCells #[Value.slice none 0 0] (n*1)=List.toArray (Xk n):=by
  apply Array.ext
  ·simp[madeCells,Xk]
  ·intro i h1 h2
   simp[madeCells,Xk,Nat.mod_one]
 rw[<-e]
 simpa [hz1,Value.cells] using h
def Zex (gm gc b:Nat)(M:List Int)(x y:Int)(w:World)(e:Ending)(w':World) : Prop:=∃ gk:Nat,e=.returned (.tuple #[.pointer (some ⟨gk,0,none⟩),.int .i64 0])/\Xo w' gk gm b/\MemB w' gm gc ((M.set b x).set (b+1) y)/\w.heap.size<=gk/\Mod (CS gm gc) w w'
theorem ZbF (gm gc b:Nat)(M:List Int)(x y:Int)(w:World)(HM:MemB w gm gc M)(hb:b+2<=M.length)(hM:M.length<=1048576)(hx:0<=x)(hy:1<=y/\y<=16) :
  Calls Tryz.prog 93 #[.pointer (some ⟨gm,0,none⟩),.int .i64 (b:Int),.int .i64 x,.int .i64 y] w (Zex gm gc b M x y w):=by
 have SZ:=Hd (fun(W:World) (X:Ext w W)=>Wn gm gc M W (HM.ext X));have HM:=Hd HM;have e1:¬((b:Int)<0):=by omega
 have wr1:IntKind.i64.wrap ((M.length:Int)-2)=(M.length:Int)-2:=IntWalk.i64_in _ (by omega);have e2:¬((b:Int)>(M.length:Int)-2):=by omega
 have e3:¬((M.length:Int)-2<(b:Int)):=by omega
 have e4:¬(x<0):=by omega
 have e5:¬(y<1):=by omega
 have e6:¬(y>16):=by omega
 have e7:¬(16<y):=by omega
 go_enter Tryz.func93,Tryz.ntmps93;go_wp2_with (go_quiet (fail));refine(SZ.out _ XI).mono ?_;rintro e w1 ⟨rfl,rfl⟩;clear SZ;have B1:Hid (Xo (w.alloc (.cells #[.pointer (some ⟨gm,0,none⟩),.int .i64 (b:Int)] 281)) w.heap.size gm b):=Hd (by unfold Xo;exact Blk.new rfl);have M1:=Hd (HM.out.ext ((Ext.rf w).alloc (.cells #[.pointer (some ⟨gm,0,none⟩),.int .i64 (b:Int)] 281)));have D1:Hid (Mod (CS gm gc) w (w.alloc (.cells #[.pointer (some ⟨gm,0,none⟩),.int .i64 (b:Int)] 281))):=Hd (Mod.of_ext ((Ext.rf _).alloc _));go_upto_region 4 with(go_quiet (fail));generalize w.alloc (.cells #[.pointer (some ⟨gm,0,none⟩),.int .i64 (b:Int)] 281)=w2 at *;obtain⟨gk,hgk⟩:∃ gk,gk=w.heap.size:=⟨_,rfl⟩;rw[<-hgk] at B1 ⊢;replace hgk:=Hd hgk;clear e1 e2 e3 e4 e5 e6 e7 wr1 HM;have OP:=fun(W:World) (X:Ext w2 W)=>V8 gk gm b W (Blk.ext B1.out X) (by omega)
 rw[Nat.add_zero] at OP;replace OP:=Hd OP;have S1:=Hd (fun(W:World) (h:MemB W gm gc M)=>Wm gm gc M b x W h (by omega));have S2:=Hd (fun(W:World) (h:MemB W gm gc (M.set b x))=>Wm gm gc (M.set b x) (b+1) y W h (by rw[List.length_set];omega));generalize hM2:M.set b x=M2 at *;go_wp2_with (fail);refine(OP.out _ XI).mono ?_;rintro e w3 ⟨rfl,x3⟩;have X3:=Hd (Ext.tr (a:=w2) XI x3);clear x3 OP;go_wp2_with (fail);refine(S1.out _ (M1.out.ext (X3.out.tr XI))).mono ?_;rintro e w4 ⟨rfl,m4,d4⟩;have d4:Mod (CS gm gc) w2 w4:=(Mod.of_ext (X3.out.tr XI)).tr d4;have B4:Hid (Xo w4 gk gm b):=by
  obtain⟨⟨st,k,c,o,n,d,q1⟩,q2⟩:=M1.out;exact Hd (Blk.mod B1.out d4 (fun h=>by rcases h with rfl | rfl;exact Blk.ne B1.out q1 (by decide) rfl;exact Blk.ne B1.out q2 (by decide) rfl))
 have M4:=Hd m4;have D4:=Hd (D1.out.tr d4);clear m4 d4 S1 X3 D1 M1 B1;have WO:=Hd (fun(W:World) (X:Ext w4 W)=>VK gk gm b W (Blk.ext B4.out X) (by omega));go_wp2_with (fail);refine(WO.out _ XI).mono ?_;rintro e w5 ⟨rfl,x5⟩;have X5:=Hd (Ext.tr (a:=w4) XI x5);clear x5 WO;go_wp2_with (fail);refine(S2.out _ (M4.out.ext (X5.out.tr XI))).mono ?_;rintro e w6 ⟨rfl,m6,d6⟩;have d6:Mod (CS gm gc) w4 w6:=(Mod.of_ext (X5.out.tr XI)).tr d6;have B6:Hid (Xo w6 gk gm b):=by
  obtain⟨⟨st,k,c,o,n,d,q1⟩,q2⟩:=M4.out;exact Hd (Blk.mod B4.out d6 (fun h=>by rcases h with rfl | rfl;exact Blk.ne B4.out q1 (by decide) rfl;exact Blk.ne B4.out q2 (by decide) rfl))
 have M6:=Hd m6;have D6:=Hd (D4.out.tr d6);clear m6 d6 S2 X5 D4 M4 B4;go_wp2_with (fail);exact bodyPost_ret (v:=.tuple #[.pointer (some ⟨gk,0,none⟩),.int .i64 0]) (by simp[results,Tryz.results93,go_sem]) rfl ⟨gk,rfl,B6.out,by rw[hM2];exact M6.out,by rw[hgk.out];exact Nat.le_refl _,D6.out⟩
theorem ZbG (n:Nat)(A:Option Addr)(c:Nat)(xs:List Int) : (List.toArray (Xk (n+1))).setIfInBounds n (.slice A xs.length c)=List.toArray ((List.replicate n (⟨none,0,[]⟩:OwL)++[(⟨A,c,xs⟩:OwL)]).map OwL.v):=by
 simp only[List.setIfInBounds_toArray,Xk,List.replicate_succ',List.map_append,List.map_replicate,List.map_cons,List.map_nil,OwL.v,List.length_nil];rw[List.set_append_right _ _ (by simp)];simp
def Zey (bs gm gc b wk:Nat)(M:List Int)(xs:List Int)(c:Int)(w:World)(e:Ending)(w':World) : Prop:=∃ (gi gl:Nat) (A:Option Addr) (k:Nat),e=.returned (.tuple #[.pointer (some ⟨gi,0,none⟩),.int .i64 0])/\IncR w' bs gm gc gi gl ⟨b,wk,List.replicate (2*wk) ⟨none,0,[]⟩++[⟨A,k,xs⟩]⟩/\MemB w' gm gc (M.set b (c*64+(2*(wk:Int))))/\(w.heap.size<=gi/\w.heap.size<=gl)/\Mod (CS gm gc) w w'
theorem ZbH (bs gm gc b wk:Nat)(M:List Int)(xs:List Int)(A:Option Addr)(k:Nat)(c:Int)(w:World)(HM:MemB w gm gc M)(hbs:bs<=w.heap.size)(hb:b<M.length)(hM:M.length<=1048576)(hw:1<=wk/\wk<=16)(hc:0<=c/\c<=1125899906842624)(hx:RdI w A xs)(hl:xs.length<=2^44) :
  Calls Tryz.prog 92 #[.pointer (some ⟨gm,0,none⟩),.int .i64 (b:Int),.int .i64 (wk:Int),.slice A xs.length k,.int .i64 c] w (Zey bs gm gc b wk M xs c w):=by
 have SZ:=Hd (fun(W:World) (X:Ext w W)=>Wn gm gc M W (HM.ext X));have CL:=Hd (fun(W:World) (X:Ext w W)=>ZO A k xs W (hx.ext X) hl);have HM:=Hd HM;have e1:¬((b:Int)<0):=by omega
 have e2:¬((b:Int)>=(M.length:Int)):=by omega
 have e3:¬((M.length:Int)<=(b:Int)):=by omega
 have e4:¬((wk:Int)<1):=by omega
 have e5:¬((wk:Int)>16):=by omega
 have e6:¬(16<(wk:Int)):=by omega
 have e7:¬(c<0):=by omega
 have e8:¬(c>1125899906842624):=by omega
 have e9:¬(1125899906842624<c):=by omega
 have w1_:IntKind.i64.wrap (2*(wk:Int))=((2*wk:Nat):Int):=by rw[show 2*(wk:Int)=((2*wk:Nat):Int) by omega];exact IntWalk.i64_in _ (by omega)
 have w2_:IntKind.i64.wrap (((2*wk:Nat):Int)+1)=((2*wk+1:Nat):Int):=by rw[show ((2*wk:Nat):Int)+1=((2*wk+1:Nat):Int) by omega];exact IntWalk.i64_in _ (by omega)
 obtain⟨n2,hn2⟩:∃ n2,n2=2*wk:=⟨_,rfl⟩;rw[<-hn2] at w1_ w2_;have hn3:n2<=32:=by omega
 replace hn2:=Hd hn2;obtain⟨n3,hn4⟩:∃ n3,n3=n2+1:=⟨_,rfl⟩;rw[<-hn4] at w2_;have hm1:∀ u:World,(Instr.makeSlice 72 (.int .i64 (n3:Int)) (.int .i64 (n3:Int))).run Tryz.prog u=.ok (.slice (some ⟨u.heap.size,0,none⟩) n3 n3) (u.alloc (.cells (List.toArray (Xk n3)) 22)):=fun u=>Zaz n3 (by omega) u
 have f1:(n2:Int)<(n3:Int):=by omega
 have f0:(0:Int)<=(n2:Int):=by omega
 replace hn4:=Hd hn4;clear hx;go_enter Tryz.func92,Tryz.ntmps92;go_wp2_with (go_quiet (fail));refine(SZ.out _ XI).mono ?_;rintro e w1 ⟨rfl,rfl⟩;clear SZ;have X2:Hid (Ext w ((w.alloc (.cells (List.toArray (Xk n3)) 22)).alloc (.cells #[.pointer (some ⟨gm,0,none⟩),.int .i64 (b:Int),.int .i64 (wk:Int),.slice (some ⟨w.heap.size,0,none⟩) n3 n3] 279))):=Hd (((Ext.rf _).alloc _).alloc _);have L2:Hid (Blk ((w.alloc (.cells (List.toArray (Xk n3)) 22)).alloc (.cells #[.pointer (some ⟨gm,0,none⟩),.int .i64 (b:Int),.int .i64 (wk:Int),.slice (some ⟨w.heap.size,0,none⟩) n3 n3] 279)) w.heap.size 22 (List.toArray (Xk n3))):=Hd (.alloc (.new rfl) _);have I2:Hid (Blk ((w.alloc (.cells (List.toArray (Xk n3)) 22)).alloc (.cells #[.pointer (some ⟨gm,0,none⟩),.int .i64 (b:Int),.int .i64 (wk:Int),.slice (some ⟨w.heap.size,0,none⟩) n3 n3] 279)) (w.heap.size+1) 279 #[.pointer (some ⟨gm,0,none⟩),.int .i64 (b:Int),.int .i64 (wk:Int),.slice (some ⟨w.heap.size,0,none⟩) n3 n3]):=Hd (.new (by simp));go_upto_region 5 with(go_quiet (fail));generalize ((w.alloc (.cells (List.toArray (Xk n3)) 22)).alloc (.cells #[.pointer (some ⟨gm,0,none⟩),.int .i64 (b:Int),.int .i64 (wk:Int),.slice (some ⟨w.heap.size,0,none⟩) n3 n3] 279))=w2 at *;obtain⟨gl,hgl⟩:∃ gl,gl=w.heap.size:=⟨_,rfl⟩;rw[<-hgl] at L2 I2 ⊢;replace hgl:=Hd hgl;generalize hgi:gl+1=gi at *;replace hgi:=Hd hgi;clear e1 e2 e3 e4 e5 e6 e7 e8 e9 w2_ hm1;have M2:=Hd (HM.out.ext X2.out);have k3:w2.cell? ⟨gi,3,none⟩=some (.slice (some ⟨gl,0,none⟩) n3 n3):=(I2.out.cell 3);have zi:=I2.out.lt;have zl:=L2.out.lt;have hne:gi≠gl:=by have:=hgi.out;omega
 have hne2:gl≠gi:=fun e=>hne e.symm
 have HMz:gc<w.heap.size:=HM.out.lt.2;have hr0:(Xk n3)[n2]?=some (.slice none 0 0):=by unfold Xk;rw[List.getElem?_replicate,if_pos (by omega)]
 clear HM;go_region_held3 (fun w'=>w'.cell? ⟨gi,3,none⟩=some (.slice (some ⟨gl,0,none⟩) n3 n3)) (go_keep)
  (first | (go_at_call 52;refine(CL.out _ (X2.out.tr XI)).mono ?_;rintro e w3 ⟨A3,c3,rfl,o3,x3⟩;have y3:=Ext.tr (a:=w2) XI x3;have s1:=Zb y3 zi k3;have t0:w3.cell? ⟨gl,n2,none⟩=some (.slice none 0 0):=((L2.out.ext y3).cell n2).trans (by simpa using hr0);have t1:=(L2.out.ext y3).free n2))
 all_goals
  have O3:=Hd (OwI.more (base':=w.heap.size) o3 (by have:=X2.out.size;first | exact this | (simp;omega)));have L3:=Hd ((L2.out.ext y3).set n2 (.slice A3 xs.length c3));have I3:=Hd (Blk.far (I2.out.ext y3) (p:=⟨gl,n2,none⟩) (fun e=>hne e) (.slice A3 xs.length c3));have O4:=Hd (O3.out.far (L2.out.ext y3) (by decide) n2 (.slice A3 xs.length c3));have hO4:=X2.out.size;have nA:bl A3≠some gc:=fun e=>by have h1:=(o3.lt gc e).1;have h2:=M2.out.lt.2;have h3:=y3.size;have h4:=HMz;first | omega | (simp at h1;omega)
  have m4:Mod (fun k=>k=gl) w3 (w3.setCell ⟨gl,n2,none⟩ (.slice A3 xs.length c3)):=Mod.set (S:=fun k=>k=gl) (p:=⟨gl,n2,none⟩) (Mod.rf w3) (.inl rfl) _;have X4:=Hd ((X2.out.tr y3).mod m4 (fun k hk e=>by have:=hgl.out;omega));have M4:Hid (MemB (w3.setCell ⟨gl,n2,none⟩ (.slice A3 xs.length c3)) gm gc M):=by
   obtain⟨⟨st,q,cc,o,n,d,q1⟩,q2⟩:=M2.out.ext y3;exact Hd (MemB.mod ⟨⟨st,q,cc,o,n,d,q1⟩,q2⟩ m4 (Blk.ne q1 (L2.out.ext y3) (by decide)) (Blk.ne q2 (L2.out.ext y3) (by decide)))
  clear m4 O3 o3 x3;go_upto_region 6 with(fail);clear s1 t0 t1 k3 f1 f0;generalize w3.setCell ⟨gl,n2,none⟩ (.slice A3 xs.length c3)=w4 at *;have PK:=Hd (fun(W:World)=>Zc3 c (n2:Int) W hc.1 hc.2 (by omega) (by omega));have ST:=Hd (fun(W:World) (h:MemB W gm gc M)=>Wm gm gc M b (c*64+(n2:Int)) W h hb);have IR:Hid (IncR w4 bs gm gc gi gl ⟨b,wk,List.replicate n2 ⟨none,0,[]⟩++[⟨A3,c3,xs⟩]⟩):=Hd (by
   have hlen:(List.replicate n2 (⟨none,0,[]⟩:OwL)++[(⟨A3,c3,xs⟩:OwL)]).length=n3:=by simp[hn4.out]
   refine⟨?_,?_,fun q o ho=>?_⟩
   ·simp only[hlen];exact I3.out
   ·have h5:=L3.out
    rw[hn4.out,ZbG] at h5;exact h5
   ·rcases Nat.lt_or_ge q n2 with h6 | h6
    ·have h7:(List.replicate n2 (⟨none,0,[]⟩:OwL)++[(⟨A3,c3,xs⟩:OwL)])[q]?=some ⟨none,0,[]⟩:=by
      rw[List.getElem?_append_left (by simpa using h6),List.getElem?_replicate,if_pos h6]
     rw[h7] at ho
     injection ho with ho
     subst ho;exact⟨OwI.nil _ _,fun e=>by cases e⟩
    ·have h7:q=n2:=by
      have h8:q<(List.replicate n2 (⟨none,0,[]⟩:OwL)++[(⟨A3,c3,xs⟩:OwL)]).length:=(List.getElem?_eq_some_iff.1 ho).1;rw[hlen] at h8;have:=hn4.out;omega
     subst h7;have h9:(List.replicate q (⟨none,0,[]⟩:OwL)++[(⟨A3,c3,xs⟩:OwL)])[q]?=some ⟨A3,c3,xs⟩:=by simp
     rw[h9] at ho
     injection ho with ho
     subst ho;exact⟨O4.out.more hbs,nA⟩)
  clear L3 I3 O4 L2 I2 M2 y3;generalize hz:c*64+(n2:Int)=z at *;go_wp2_with (fail);refine(PK.out _).mono ?_;rintro e w5 ⟨rfl,rfl⟩;clear PK;go_wp2_with (fail);refine(ST.out _ M4.out).mono ?_;rintro e w6 ⟨rfl,m6,d6⟩;have I6:=Hd (IR.out.cell M4.out d6);have D6:=Hd ((Mod.of_ext X4.out:Mod (CS gm gc) w _).tr d6);have M6:=Hd m6;clear m6 d6 ST IR M4;go_wp2_with (fail);exact bodyPost_ret (v:=.tuple #[.pointer (some ⟨gi,0,none⟩),.int .i64 0]) (by simp[results,Tryz.results92,go_sem]) rfl ⟨gi,gl,A3,c3,rfl,by rw[<-hn2.out];exact I6.out,by have h5:(n2:Int)=2*(wk:Int):=(by have:=hn2.out;omega);rw[<-h5,hz];exact M6.out,⟨by have:=hgi.out;have:=hgl.out;omega,by have:=hgl.out;omega⟩,D6.out⟩
structure ShS where
 gk:Nat
 gp:Nat
 gH:Nat
 nH:Nat
 cH:Nat
 gi:Nat
 gu:Nat
 gt:Nat
structure WkS where
 me:Nat
 ph:Int
 logv:Value
 least:Int
 node:Int
 path:OwL
 kids:OwL
 child:Int
 next:OwL
 bound:Int
 cursor:Int
 tried:Int
 own:Option Nat
 theft:Option Nat
 slot:Option Nat
 bid:Option Nat
 home:Option Nat
 deep:Option Nat
def Wr (o:Option Nat) : Value:=.pointer (o.map fun b=>⟨b,0,none⟩)
def WkS.cells (s:WkS)(h:ShS) : Array Value:=#[.pointer (some ⟨h.gk,0,none⟩),.pointer (some ⟨h.gp,0,none⟩),.slice (some ⟨h.gH,0,none⟩) h.nH h.cH,.pointer (some ⟨h.gi,0,none⟩),.pointer (some ⟨h.gu,0,none⟩),.pointer (some ⟨h.gt,0,none⟩),.int .i64 (s.me:Int),.int .i64 s.ph,s.logv,.int .i64 s.least,.int .i64 s.node,s.path.v,s.kids.v,.int .i64 s.child,s.next.v,.int .i64 s.bound,.int .i64 s.cursor,.int .i64 s.tried,Wr s.own,Wr s.theft,Wr s.slot,Wr s.bid,Wr s.home,Wr s.deep]
def WkB (w:World)(gw:Nat)(h:ShS)(s:WkS) : Prop:=Blk w gw 214 (s.cells h)
theorem WkB.field {w:World}{gw:Nat}{h:ShS}{s:WkS}(A:WkB w gw h s)(i:Nat)(v:Value){s':WkS}(hs:(s.cells h).setIfInBounds i v=s'.cells h) : WkB (w.setCell ⟨gw,i,none⟩ v) gw h s':=by
 have:=Blk.set A i v;rw[hs] at this;exact this
theorem ZaA (gw:Nat)(h:ShS)(s:WkS)(w:World)(A:WkB w gw h s)(R Q:World->Prop)(HC:∀ W,Ext w W->Calls Tryz.prog 250 #[.pointer (some ⟨h.gu,0,none⟩),.int .i64 (-1)] W fun e w'=>e=.returned (.tuple #[])/\R w')(hR:∀ w',R w'->WkB w' gw h s)(hQ:∀ w',R w'->Q (w'.setCell ⟨gw,7,none⟩ (.int .i64 0))) :
  Calls Tryz.prog 183 #[.pointer (some ⟨gw,0,none⟩)] w fun e w'=>e=.returned (.tuple #[])/\Q w':=by
 have k4:w.cell? ⟨gw,4,none⟩=some (.pointer (some ⟨h.gu,0,none⟩)):=(Blk.cell A 4);replace HC:=Hd HC;replace hQ:=Hd hQ;clear A;go_enter Tryz.func183,Tryz.ntmps183;go_wp2_with (fail);refine(HC.out _ XI).mono ?_;rintro e w1 ⟨rfl,r1⟩;have k7:w1.cell? ⟨gw,7,none⟩=some (.int .i64 s.ph):=Blk.cell (hR w1 r1) 7;have f7:w1.frozen? ⟨gw,7,none⟩=false:=Blk.free (hR w1 r1) 7;have q1:=Hd (hQ.out w1 r1);clear HC hQ;go_wp2_with (fail);go_end0;exact⟨rfl,q1.out⟩
theorem ZbI (gw:Nat)(h:ShS)(s:WkS)(w:World)(A:WkB w gw h s)(hs:s.slot=none)(R1:Nat->World->Prop)(R2:Nat->World->Prop)(Q:World->Prop)
  (HG:∀ W,Ext w W->Calls Tryz.prog 251 #[.pointer (some ⟨h.gp,0,none⟩),.int .i64 (s.me:Int),.int .i64 s.node] W fun e w'=>∃ ga,e=.returned (.pointer (some ⟨ga,0,none⟩))/\R1 ga w') (h1:∀ ga w',R1 ga w'->WkB w' gw h s)
  (HS:∀ ga w1,R1 ga w1->∀ W,Ext (w1.setCell ⟨gw,20,none⟩ (.pointer (some ⟨ga,0,none⟩))) W->Calls Tryz.prog 248 #[.pointer (some ⟨ga,0,none⟩)] W fun e w'=>e=.returned (.bool true)/\R2 ga w') (h2:∀ ga w',R2 ga w'->WkB w' gw h { s with slot:=some ga })
  (hQ:∀ ga w',R2 ga w'->Q ((((w'.setCell ⟨gw,20,none⟩ (.pointer none)).setCell ⟨gw,10,none⟩ (.int .i64 (-1))).setCell ⟨gw,11,none⟩ (.slice none 0 0)).setCell ⟨gw,7,none⟩ (.int .i64 14))) :
  Calls Tryz.prog 182 #[.pointer (some ⟨gw,0,none⟩)] w fun e w'=>e=.returned (.tuple #[])/\Q w':=by
 have k20:w.cell? ⟨gw,20,none⟩=some (.pointer none):=(Blk.cell A 20).trans (by simp[WkS.cells,Wr,hs]);have k1:w.cell? ⟨gw,1,none⟩=some (.pointer (some ⟨h.gp,0,none⟩)):=(Blk.cell A 1);have k6:w.cell? ⟨gw,6,none⟩=some (.int .i64 (s.me:Int)):=(Blk.cell A 6);have k10:w.cell? ⟨gw,10,none⟩=some (.int .i64 s.node):=(Blk.cell A 10);replace HG:=Hd HG;replace HS:=Hd HS;replace hQ:=Hd hQ;clear A;generalize (s.me:Int)=me at *;go_enter Tryz.func182,Tryz.ntmps182;go_upto_region 1 with(fail);refine wp_region_any (by kernel_rfl) ?_
 change wpAny _ _ _ _ _ _ _ (World.drew _)
 replace k1:w.drew.cell? ⟨gw,1,none⟩=_:=k1;replace k6:w.drew.cell? ⟨gw,6,none⟩=_:=k6;replace k10:w.drew.cell? ⟨gw,10,none⟩=_:=k10;refine Za 0 (.move (.tmp 0)) 123 (some 7) rfl (by kernel_rfl) Hq (by intro _;go_simp;try rfl) ?_;simp only[lay];refine Za 1 (.move (.tmp 0)) 123 (some 8) rfl (by kernel_rfl) Hq (by intro _;go_simp;try rfl) ?_;simp only[lay];refine Za 2 (.nilCheck (.tmp 8)) 0 (some 9) rfl (by kernel_rfl) Hq (by intro _;go_simp;try rfl) ?_;simp only[lay];refine Za 3 (.fieldAddr 214 (.tmp 9) 0) 0 (some 10) rfl (by kernel_rfl) Hq (by intro _;go_simp;try rfl) ?_;simp only[lay];refine Za 4 (.fieldAddr 117 (.tmp 10) 1) 0 (some 11) rfl (by kernel_rfl) Hq (by intro _;go_simp;try rfl) ?_;simp only[lay];refine Za 6 (.move (.tmp 0)) 123 (some 13) rfl (by kernel_rfl) Hq (by intro _;go_simp;try rfl) ?_;simp only[lay];refine Za 7 (.nilCheck (.tmp 13)) 0 (some 14) rfl (by kernel_rfl) Hq (by intro _;go_simp;try rfl) ?_;simp only[lay];refine Za 8 (.fieldAddr 214 (.tmp 14) 1) 0 (some 15) rfl (by kernel_rfl) Hq (by intro _;go_simp;try rfl) ?_;simp only[lay];refine Za 10 (.move (.tmp 0)) 123 (some 17) rfl (by kernel_rfl) Hq (by intro _;go_simp;try rfl) ?_;simp only[lay];refine Za 11 (.nilCheck (.tmp 17)) 0 (some 18) rfl (by kernel_rfl) Hq (by intro _;go_simp;try rfl) ?_;simp only[lay];refine Za 12 (.fieldAddr 214 (.tmp 18) 5) 0 (some 19) rfl (by kernel_rfl) Hq (by intro _;go_simp;try rfl) ?_;simp only[lay];refine Zm (n:=4) [(5,some 12),(9,some 16),(13,some 20)] (fun | 5=>.pointer (some ⟨h.gp,0,none⟩) | 9=>.int .i64 me | 13=>.int .i64 s.node | _=>undef) #[true,true,true,true,true,true,true,true,true,true,true,true,true,true,false,false,false,false] (by decide +kernel) ?_ ?_
 ·intro pS hpm uS hD K hK
  simp only[List.mem_cons,List.not_mem_nil,or_false] at hpm;rcases hpm with rfl | rfl | rfl
  ·exact Ze (T:=112) (x:=Operand.tmp 11) (t:=112) (d:=some 12) rfl (.pointer (some ⟨gw,1,none⟩)) (by kernel_rfl) (.pointer (some ⟨h.gp,0,none⟩)) (by go_simp) hK
  ·exact Ze (T:=3) (x:=Operand.tmp 15) (t:=3) (d:=some 16) rfl (.pointer (some ⟨gw,6,none⟩)) (by kernel_rfl) (.int .i64 me) (by go_simp) hK
  ·exact Ze (T:=3) (x:=Operand.tmp 19) (t:=3) (d:=some 20) rfl (.pointer (some ⟨gw,10,none⟩)) (by kernel_rfl) (.int .i64 s.node) (by go_simp) hK
 simp only[Zc,Act.put,List.setIfInBounds_toArray,List.set_cons_zero,List.set_cons_succ];refine Zd 14 (by decide +kernel) (Zi (f:=251) (xs:=#[Operand.tmp 12,Operand.tmp 16,Operand.tmp 20]) (ts:=#[112,3,3]) (t:=198) (d:=some 21) rfl #[.pointer (some ⟨h.gp,0,none⟩),.int .i64 me,.int .i64 s.node] (by go_simp) (by kernel_rfl) _ (HG.out _ (Ext.rf _).drew) ?_);rintro e w1 ⟨ga,rfl,r1⟩;have c20:w1.cell? ⟨gw,20,none⟩=some (.pointer none):=(Blk.cell (h1 ga w1 r1) 20).trans (by simp[WkS.cells,Wr,hs]);have f20:w1.frozen? ⟨gw,20,none⟩=false:=Blk.free (h1 ga w1 r1) 20;have ST:=Hd (HS.out ga w1 r1);have B2:=Hd (WkB.field (h1 ga w1 r1) 20 (.pointer (some ⟨ga,0,none⟩)) (s':={ s with slot:=some ga }) rfl);clear HG HS k1 k6 k10 k20;refine⟨_,rfl,?_⟩
 try simp only[lay]
 refine Za 15 (.nilCheck (.tmp 7)) 0 (some 22) rfl (by kernel_rfl) Hq (by intro _;go_simp;try rfl) ?_;simp only[lay];refine Za 16 (.fieldAddr 214 (.tmp 22) 15) 0 (some 23) rfl (by kernel_rfl) Hq (by intro _;go_simp;try rfl) ?_;simp only[lay];refine Zd 17 (by decide +kernel) (ZR rfl (.pointer (some ⟨gw,20,none⟩)) (.pointer (some ⟨ga,0,none⟩)) (by kernel_rfl) (by kernel_rfl) (by go_simp;rfl) ?_);refine wpAny_done (by kernel_rfl) ?_ _;go_simp;clear c20 f20;generalize w1.setCell ⟨gw,20,none⟩ (.pointer (some ⟨ga,0,none⟩))=w2 at *;have k20:w2.cell? ⟨gw,20,none⟩=some (.pointer (some ⟨ga,0,none⟩)):=(Blk.cell B2.out 20);go_wp2_with (fail);refine(ST.out _ XI).mono ?_;rintro e w3 ⟨rfl,r3⟩;have B3:=h2 ga w3 r3;have q:=Hd (hQ.out ga w3 r3);have c1:w3.cell? ⟨gw,20,none⟩=some (.pointer (some ⟨ga,0,none⟩)):=(Blk.cell B3 20);have f1:w3.frozen? ⟨gw,20,none⟩=false:=Blk.free B3 20;have B4:=WkB.field B3 20 (.pointer none) (s':={ s with slot:=none }) rfl;have c2:(w3.setCell ⟨gw,20,none⟩ (.pointer none)).cell? ⟨gw,10,none⟩=some (.int .i64 s.node):=(Blk.cell B4 10);have f2:(w3.setCell ⟨gw,20,none⟩ (.pointer none)).frozen? ⟨gw,10,none⟩=false:=Blk.free B4 10;have B5:=WkB.field B4 10 (.int .i64 (-1)) (s':={ s with slot:=none,node:=-1 }) rfl;have c3:((w3.setCell ⟨gw,20,none⟩ (.pointer none)).setCell ⟨gw,10,none⟩ (.int .i64 (-1))).cell? ⟨gw,11,none⟩=some s.path.v:=(Blk.cell B5 11);have f3:((w3.setCell ⟨gw,20,none⟩ (.pointer none)).setCell ⟨gw,10,none⟩ (.int .i64 (-1))).frozen? ⟨gw,11,none⟩=false:=Blk.free B5 11;have B6:=WkB.field B5 11 (.slice none 0 0) (s':={ s with slot:=none,node:=-1,path:=⟨none,0,[]⟩ }) rfl;have c4:(((w3.setCell ⟨gw,20,none⟩ (.pointer none)).setCell ⟨gw,10,none⟩ (.int .i64 (-1))).setCell ⟨gw,11,none⟩ (.slice none 0 0)).cell? ⟨gw,7,none⟩=some (.int .i64 s.ph):=(Blk.cell B6 7);have f4:(((w3.setCell ⟨gw,20,none⟩ (.pointer none)).setCell ⟨gw,10,none⟩ (.int .i64 (-1))).setCell ⟨gw,11,none⟩ (.slice none 0 0)).frozen? ⟨gw,7,none⟩=false:=Blk.free B6 7;clear B2 B3 B4 B5 B6 ST k20 hQ;go_wp2_with (fail);go_end0;exact⟨rfl,q.out⟩
structure MaS where
 kind:Int
 nn:Int
 cap:Int
 wv:Value
 vv:Value
 cv:Value
 gm:Nat
 sh:ShS
 gW:Nat
 nW:Nat
 cW:Nat
 gP:Nat
def MaS.cells (m:MaS) : Array Value:=#[.int .i64 m.kind,.int .i64 m.nn,.int .i64 m.cap,m.wv,m.vv,m.cv,.pointer (some ⟨m.gm,0,none⟩),.pointer (some ⟨m.sh.gk,0,none⟩),.pointer (some ⟨m.sh.gp,0,none⟩),.slice (some ⟨m.sh.gH,0,none⟩) m.sh.nH m.sh.cH,.pointer (some ⟨m.sh.gi,0,none⟩),.pointer (some ⟨m.sh.gu,0,none⟩),.pointer (some ⟨m.sh.gt,0,none⟩),.slice (some ⟨m.gW,0,none⟩) m.nW m.cW,.slice (some ⟨m.gP,0,none⟩) m.nW m.nW]
def MaB (w:World)(gM:Nat)(m:MaS) : Prop:=Blk w gM 120 m.cells
theorem Zc7 (gM k gw:Nat)(m:MaS)(p:Int)(w:World)(A:MaB w gM m)(hk:k<m.nW)(hn:m.nW<=64)(hw:w.cell? ⟨m.gW,k,none⟩=some (.pointer (some ⟨gw,0,none⟩)))(hp:w.cell? ⟨m.gP,k,none⟩=some (.int .i64 p))(fp:w.frozen? ⟨m.gP,k,none⟩=false)(bp:0<=p/\p<=1000000000)(n1:m.gP≠gM)(n2:m.gP≠m.gW)(Q:World->Prop)
  (HS:∀ W,Ext (w.setCell ⟨m.gP,k,none⟩ (.int .i64 (p+1))) W->Calls Tryz.prog 105 #[.pointer (some ⟨gw,0,none⟩)] W fun e w'=>e=.returned (.tuple #[])/\Q w') (XQ:∀ w w',Q w->Ext w w'->Q w') :
  Calls Tryz.prog 54 #[.pointer (some ⟨gM,0,none⟩),.int .i64 (k:Int)] w fun e w'=>e=.returned (.int .i64 0)/\Q w':=by
 have k13:w.cell? ⟨gM,13,none⟩=some (.slice (some ⟨m.gW,0,none⟩) m.nW m.cW):=(Blk.cell A 13);have k14:w.cell? ⟨gM,14,none⟩=some (.slice (some ⟨m.gP,0,none⟩) m.nW m.nW):=(Blk.cell A 14);have e1:¬((k:Int)<0):=by omega
 have e2:¬((k:Int)>=(m.nW:Int)):=by omega
 have e3:¬((m.nW:Int)<=(k:Int)):=by omega
 have e4:(0:Int)<=(k:Int):=by omega
 have e5:(k:Int)<(m.nW:Int):=by omega
 have wp:IntKind.i64.wrap (p+1)=p+1:=IntWalk.i64_in _ (by omega);have n3:gM≠m.gP:=fun e=>n1 e.symm
 have n4:m.gW≠m.gP:=fun e=>n2 e.symm
 replace HS:=Hd HS;replace XQ:=Hd XQ;clear A;obtain⟨kind,nn,cap,wv,vv,cv,gm,sh,gW,nW,cW,gP⟩:=m;simp only at *;have j13:(w.setCell ⟨gP,k,none⟩ (.int .i64 (p+1))).cell? ⟨gM,13,none⟩=some (.slice (some ⟨gW,0,none⟩) nW cW):=by rw[<-k13];exact World.cell?_of_block (Below.heap_setCell w ⟨gP,k,none⟩ _ gM n3)
 have jw:(w.setCell ⟨gP,k,none⟩ (.int .i64 (p+1))).cell? ⟨gW,k,none⟩=some (.pointer (some ⟨gw,0,none⟩)):=by rw[<-hw];exact World.cell?_of_block (Below.heap_setCell w ⟨gP,k,none⟩ _ gW n4)
 go_enter Tryz.func54,Tryz.ntmps54;go_wp2_with (go_quiet (fail));refine(HS.out _ XI).mono ?_;rintro e w1 ⟨rfl,q1⟩;replace q1:=Hd q1;clear HS;go_wp2_with (go_quiet (fail));go_ret;exact⟨rfl,XQ.out _ _ q1.out XI⟩
theorem Zc8 (gM:Nat)(m:MaS)(x y:Int)(w:World)(A:MaB w gM m)(HN:∀ W,Ext w W->Calls Tryz.prog 253 #[.pointer (some ⟨m.sh.gu,0,none⟩)] W fun e w'=>e=.returned (.tuple #[.int .i64 x,.int .i64 y])/\Ext W w') :
  Calls Tryz.prog 186 #[.pointer (some ⟨gM,0,none⟩)] w fun e w'=>e=.returned (.int .i64 x)/\Ext w w':=by
 have k11:w.cell? ⟨gM,11,none⟩=some (.pointer (some ⟨m.sh.gu,0,none⟩)):=(Blk.cell A 11);replace HN:=Hd HN;clear A;go_enter Tryz.func186,Tryz.ntmps186;go_wp2_with (fail);refine(HN.out _ XI).mono ?_;rintro e w1 ⟨rfl,x1⟩;have X1:=Hd (Ext.tr (a:=w) XI x1);clear x1 HN;go_wp2_with (fail);go_ret;exact⟨rfl,X1.out.tr XI⟩
theorem Zc9 (gM:Nat)(m:MaS)(x y:Int)(w:World)(A:MaB w gM m)(HN:∀ W,Ext w W->Calls Tryz.prog 253 #[.pointer (some ⟨m.sh.gu,0,none⟩)] W fun e w'=>e=.returned (.tuple #[.int .i64 x,.int .i64 y])/\Ext W w') :
  Calls Tryz.prog 108 #[.pointer (some ⟨gM,0,none⟩)] w fun e w'=>e=.returned (.bool (x==0))/\Ext w w':=by
 have OP:=Hd (fun(W:World) (X:Ext w W)=>Zc8 gM m x y W (Blk.ext A X) (fun W' X'=>HN W' (X.tr X')));clear A HN;go_enter Tryz.func108,Tryz.ntmps108;go_wp2_with (fail);refine(OP.out _ XI).mono ?_;rintro e w1 ⟨rfl,x1⟩;have X1:=Hd (Ext.tr (a:=w) XI x1);clear x1 OP;go_wp2_with (fail);go_ret;exact⟨rfl,X1.out.tr XI⟩
def Zgw (bs gm gc n wk l:Nat)(w:World)(e:Ending)(w':World) : Prop:=∃ (gp gn go:Nat) (M':List Int),e=.returned (.tuple #[.pointer (some ⟨gp,0,none⟩),.int .i64 0])/\PoolR w' bs gm gc gp gn go ⟨0,n,ZH n,List.replicate wk ⟨none,0,[]⟩⟩/\MemB w' gm gc M'/\M'.length=l/\Zet M' n n/\(w.heap.size<=gp/\w.heap.size<=gn/\w.heap.size<=go)/\Mod (CS gm gc) w w'
theorem Zda (bs gm gc n wk:Nat)(M:List Int)(w:World)(H:MemB w gm gc M)(h1:1<=n)(h2:n<=4096)(hM:n+1<=M.length)(hM2:M.length<=1048576)(hW:1<=wk/\wk<=16) :
  Calls Tryz.prog 89 #[.pointer (some ⟨gm,0,none⟩),.int .i64 0,.int .i64 (n:Int),.int .i64 (wk:Int)] w (Zgw bs gm gc n wk M.length w):=by
 have CE:=Hd (fun(W:World)=>QD n W h1 h2);have SZ:=Hd (fun(W:World) (X:Ext w W)=>Wn gm gc M W (H.ext X));have HH:=Hd H;have e1:((n:Int)+1==0)=false:=by simp;omega
 have wr1:IntKind.i64.wrap ((M.length:Int)-((n:Int)+1))=(M.length:Int)-((n:Int)+1):=IntWalk.i64_in _ (by omega);have e3:¬(0>(M.length:Int)-((n:Int)+1)):=by omega
 have e5:¬((wk:Int)<1):=by omega
 have e6:¬((wk:Int)>16):=by omega
 have e7:¬(16<(wk:Int)):=by omega
 have e4:¬((M.length:Int)-((n:Int)+1)<0):=by omega
 clear H;go_enter Tryz.func89,Tryz.ntmps89;go_wp2_with (fail);refine(CE.out _).mono ?_;rintro e w1 ⟨rfl,x1⟩;have X1:=Hd (Ext.tr (a:=w) XI x1);clear x1 CE;go_wp2_with (go_quiet (fail));refine(SZ.out _ (X1.out.tr XI)).mono ?_;rintro e w2 ⟨rfl,rfl⟩;have X2:=Hd (X1.out.tr (Ext.rf _));clear SZ;go_upto_region 4 with(fail);have hm1:∀ u:World,(Instr.makeSlice 269 (.int .i64 (n:Int)) (.int .i64 (n:Int))).run Tryz.prog u=.ok (.slice (some ⟨u.heap.size,0,none⟩) n n) (u.alloc (.cells (List.toArray (ZH n)) 204)):=fun u=>Zes n h2 u
 have hm2:∀ u:World,(Instr.makeSlice 72 (.int .i64 (wk:Int)) (.int .i64 (wk:Int))).run Tryz.prog u=.ok (.slice (some ⟨u.heap.size,0,none⟩) wk wk) (u.alloc (.cells (List.toArray (Xk wk)) 22)):=fun u=>Zaz wk (by omega) u
 refine wp_region_any (by kernel_rfl) ?_
 change wpAny _ _ _ _ _ _ _ (World.drew _)
 refine Za 0 (.move (.tmp 0)) 111 (some 42) rfl (by kernel_rfl) Hq (by intro _;go_simp;try rfl) ?_;simp only[lay];refine Za 1 (.move (.tmp 1)) 3 (some 43) rfl (by kernel_rfl) Hq (by intro _;go_simp;try rfl) ?_;simp only[lay];refine Za 2 (.move (.tmp 2)) 3 (some 44) rfl (by kernel_rfl) Hq (by intro _;go_simp;try rfl) ?_;simp only[lay];refine Za 4 (.move (.tmp 3)) 3 (some 46) rfl (by kernel_rfl) Hq (by intro _;go_simp;try rfl) ?_;simp only[lay];refine Zh (n:=3) [(3,some 45),(5,some 47)] (Ext w1) (VF (fun  | _=>none) (fun i v W=>(i=3->∃ z,v=.slice (some ⟨z,0,none⟩) n n/\Blk W z 204 (List.toArray (ZH n))/\w1.heap.size<=z)/\(i=5->∃ z,v=.slice (some ⟨z,0,none⟩) wk wk/\Blk W z 22 (List.toArray (Xk wk))/\w1.heap.size<=z))) Ext #[true,true,true,true,true,true,false,false,false] (by decide +kernel) (VF.stab ?_) ?_ ?_ (by first | exact(Ext.rf _).drew | exact Ext.rf _)
 ·intro j v W W' _ gz hx
  obtain⟨g0,g1⟩:=gz;exact⟨fun h=>(g0 h).imp fun z hz=>⟨hz.1,hz.2.1.ext hx,hz.2.2⟩,fun h=>(g1 h).imp fun z hz=>⟨hz.1,hz.2.1.ext hx,hz.2.2⟩⟩
 ·intro pS hpm uS wS hRW hD K hK
  simp only[List.mem_cons,List.not_mem_nil,or_false] at hpm;rcases hpm with rfl | rfl
  ·( exact Zl (op:=Op.makeSlice 269 (Operand.tmp 44) (Operand.tmp 44)) (t:=269) (d:=some 45) rfl _ (by simp only[Zc,Act.put,List.setIfInBounds_toArray,List.set_cons_zero,List.set_cons_succ];unfold Zj;(try go_simp);(try rfl)) (hK _ _ (VF.mg rfl ⟨(fun _=>⟨_,rfl,.new rfl,hRW.size⟩),(fun h=>absurd h (by decide))⟩) (hRW.alloc _) ((Ext.rf _).alloc _)))
  ·( exact Zl (op:=Op.makeSlice 72 (Operand.tmp 46) (Operand.tmp 46)) (t:=72) (d:=some 47) rfl _ (by simp only[Zc,Act.put,List.setIfInBounds_toArray,List.set_cons_zero,List.set_cons_succ];unfold Zj;(try go_simp);(try rfl)) (hK _ _ (VF.mg rfl ⟨(fun h=>absurd h (by decide)),(fun _=>⟨_,rfl,.new rfl,hRW.size⟩)⟩) (hRW.alloc _) ((Ext.rf _).alloc _)))
 intro u w3 hR3 hV;obtain⟨az,h3,ab,al⟩:=((hV (3,some 45) (by simp)).g rfl).1 rfl;obtain⟨bz,h5,bb,bl⟩:=((hV (5,some 47) (by simp)).g rfl).2 rfl;simp only[Zc,h3,h5];clear hV h3 h5
 try simp only[lay]
 have Z1:=X2.out.size;have nab:az≠bz:=ab.ne bb (by decide);have HM:=Hd (HH.out.ext (X2.out.tr hR3));have XB:=Hd (X2.out.tr hR3);replace ab:=Hd ab;replace bb:=Hd bb;refine Za 6 (.build 271 #[(0,.tmp 42),(1,.tmp 43),(2,.tmp 45),(3,.tmp 47)]) 271 (some 48) rfl (by kernel_rfl) Hq (by intro _;go_simp;try rfl) ?_;simp only[lay];refine Zd 7 (by decide +kernel) (Zl (op:=Op.box 271 (Operand.tmp 48)) (t:=112) (d:=some 49) rfl _ (by unfold Zj;go_simp;first | rfl | exact⟨rfl,rfl⟩) ?_)
 try simp only[lay]
 refine Za 8 (.assign (.tmp 49)) 112 (some 11) rfl (by kernel_rfl) Hq (by intro _;go_simp;try rfl) ?_;simp only[lay];refine wpAny_done (by kernel_rfl) ?_ _;go_simp;have PR:PoolR (w3.alloc (.cells #[.pointer (some ⟨gm,0,none⟩),.int .i64 0,.slice (some ⟨az,0,none⟩) n n,.slice (some ⟨bz,0,none⟩) wk wk] 271)) bs gm gc w3.heap.size az bz ⟨0,n,ZH n,List.replicate wk ⟨none,0,[]⟩⟩:=by
  refine⟨?_,ab.out.ext ((Ext.rf _).alloc _),Wp n,?_,?_,?_⟩
  ·simp only[List.length_replicate];exact .new rfl
  ·have h5:=bb.out.ext ((Ext.rf w3).alloc (.cells #[.pointer (some ⟨gm,0,none⟩),.int .i64 0,.slice (some ⟨az,0,none⟩) n n,.slice (some ⟨bz,0,none⟩) wk wk] 271))
   simpa [Xk,OwL.v,List.map_replicate] using h5
  ·intro k o ho
   have:o=⟨none,0,[]⟩:=by
    rw[List.getElem?_replicate] at ho;split at ho
    ·injection ho with ho;exact ho.symm
    ·cases ho
   subst this;exact⟨OwI.nil _ _,fun e=>by cases e⟩
  ·intro i j o q hi hj hne b hb
   have:o=⟨none,0,[]⟩:=by
    rw[List.getElem?_replicate] at hi;split at hi
    ·injection hi with hi;exact hi.symm
    ·cases hi
   subst this
   cases hb
 have M3:=Hd (HM.out.ext ((Ext.rf w3).alloc (.cells #[.pointer (some ⟨gm,0,none⟩),.int .i64 0,.slice (some ⟨az,0,none⟩) n n,.slice (some ⟨bz,0,none⟩) wk wk] 271)));have X3:=Hd (XB.out.tr ((Ext.rf w3).alloc (.cells #[.pointer (some ⟨gm,0,none⟩),.int .i64 0,.slice (some ⟨az,0,none⟩) n n,.slice (some ⟨bz,0,none⟩) wk wk] 271)));replace PR:=Hd PR;have Z3:w.heap.size<=w3.heap.size:=XB.out.size;clear HM XB hm1 hm2 ab bb hR3 HH X1 X2;generalize w3.alloc (.cells #[.pointer (some ⟨gm,0,none⟩),.int .i64 0,.slice (some ⟨az,0,none⟩) n n,.slice (some ⟨bz,0,none⟩) wk wk] 271)=w4 at *;generalize w3.heap.size=gp at *;have PK:Hid (∀ W:World,Calls Tryz.prog 153 #[.int .i64 0,.int .i64 0] W fun e w'=>e=.returned (.int .i64 1)/\W=w'):=Hd (fun W=>by
  have q:=QA 0 0 W (by omega);have e:pk (0%1073741824) (plc 0)=1:=by decide
  rwa [e] at q)
 have ST:=fun(W:World) (h:MemB W gm gc M)=>Wm gm gc M 0 1 W h (by omega)
 rw[show ((0:Nat):Int)=0 from rfl] at ST;replace ST:=Hd ST;go_wp2_with (fail);refine(PK.out _).mono ?_;rintro e w5 ⟨rfl,rfl⟩;clear PK;go_wp2_with (fail);refine(ST.out _ M3.out).mono ?_;rintro e w6 ⟨rfl,m6,d6⟩;have P6:=Hd (PR.out.cell M3.out d6);have M6:=Hd m6;have D6:=Hd ((Mod.of_ext X3.out:Mod (CS gm gc) w _).tr d6);clear m6 d6 PR M3 X3 ST;obtain⟨M1,hM1⟩:∃ M1,M.set 0 1=M1:=⟨_,rfl⟩;have l1:M1.length=M.length:=by rw[<-hM1];simp
 have q1:Zet M1 n 0:=⟨by rw[<-hM1];exact List.getElem?_set_self (by omega),fun s h=>by omega⟩;rw[hM1] at M6;clear hM1;replace q1:=Hd q1;go_wp2_with (fail);go_loopw [55] (fun v wr=>∃ (k:Nat) (M':List Int),v=.int .i64 k/\k<=n/\M'.length=M.length/\Hid (Zet M' n k)/\Hid (PoolR wr bs gm gc gp az bz ⟨0,n,ZH n,List.replicate wk ⟨none,0,[]⟩⟩)/\Hid (MemB wr gm gc M')/\Hid (Mod (CS gm gc) w wr)) (fun v _=>n-(intOf v).toNat)
 case atStart=>exact⟨0,M1,rfl,by omega,l1,q1,P6,M6,D6⟩
 case round =>
  clear P6 M6 D6 q1 l1;obtain⟨k,M',rfl,hk,hl,hN,HP,HM,HD⟩:=hrel
  by_cases hkn:k<n
  ·have g1:(k:Int)<(n:Int):=by omega
   have g2:IntKind.i64.wrap ((k:Int)+1)=(k:Int)+1:=IntWalk.i64_in _ (by omega);obtain⟨v,hv⟩:∃ v:Int,v=(if k+1=n then -1 else((k+1:Nat):Int)):=⟨_,rfl⟩;have LI:=fun(W:World) (X:Ext wr W)=>Jn bs gm gc gp az bz ⟨0,n,ZH n,List.replicate wk ⟨none,0,[]⟩⟩ W (HP.out.ext X) (k:Int) (by omega) (by simp)
   simp only[show ((0:Nat):Int)+1+(k:Int)=((1+k:Nat):Int) by omega] at LI;replace LI:=Hd LI;have ST:=Hd (fun(W:World) (h:MemB W gm gc M')=>Wm gm gc M' (1+k) v W h (by omega));have q1:Zet (M'.set (1+k) v) n (k+1):=⟨by rw[List.getElem?_set_ne (by omega)];exact hN.out.1,fun s hs=>by
    by_cases e:s=k
    ·subst e;rw[List.getElem?_set_self (by omega),hv]
    ·rw[List.getElem?_set_ne (by omega)];exact hN.out.2 s (by omega)⟩
   replace q1:=Hd q1;have l1:(M'.set (1+k) v).length=M.length:=by simpa using hl
   generalize M'.set (1+k) v=M2 at *;generalize ((1+k:Nat):Int)=ad at *
   by_cases hlast:k+1=n
   ·rw[if_pos hlast] at hv
    subst hv;have g3:((k:Int)+1==(n:Int))=true:=by simp;omega
    go_wp2_with (fail);refine(LI.out _ XI).mono ?_;rintro e w7 ⟨rfl,x7⟩;have X7:=Hd (Ext.tr (a:=wr) XI x7);clear x7 LI;go_wp2_with (fail);refine(ST.out _ (HM.out.ext X7.out)).mono ?_;rintro e w8 ⟨rfl,m8,d8⟩;have P8:=Hd ((HP.out.ext X7.out).cell (HM.out.ext X7.out) d8);have M8:=Hd m8;have D8:=Hd ((HD.out.tr (Mod.of_ext X7.out)).tr d8);clear m8 d8 ST HP HM HD;go_wp2_with (fail);go_roundw
    case rel=>exact⟨k+1,M2,by go_num,by omega,l1,q1,P8,M8,D8⟩
    case measure=>simp[intOf];omega
   ·rw[if_neg hlast] at hv
    have hv2:v=(k:Int)+1:=by omega
    subst hv2;clear hv;have g3:((k:Int)+1==(n:Int))=false:=by simp;omega
    go_wp2_with (fail);refine(LI.out _ XI).mono ?_;rintro e w7 ⟨rfl,x7⟩;have X7:=Hd (Ext.tr (a:=wr) XI x7);clear x7 LI;go_wp2_with (fail);refine(ST.out _ (HM.out.ext X7.out)).mono ?_;rintro e w8 ⟨rfl,m8,d8⟩;have P8:=Hd ((HP.out.ext X7.out).cell (HM.out.ext X7.out) d8);have M8:=Hd m8;have D8:=Hd ((HD.out.tr (Mod.of_ext X7.out)).tr d8);clear m8 d8 ST HP HM HD;go_wp2_with (fail);go_roundw
    case rel=>exact⟨k+1,M2,by go_num,by omega,l1,q1,P8,M8,D8⟩
    case measure=>simp[intOf];omega
  ·obtain rfl:k=n:=by omega
   go_wp2_with (fail);exact bodyPost_ret (v:=.tuple #[.pointer (some ⟨gp,0,none⟩),.int .i64 0]) (by simp[results,Tryz.results89,go_sem]) rfl ⟨gp,az,bz,M',rfl,HP.out.ext XI,HM.out.ext XI,hl,hN.out,⟨Z3,by omega,by omega⟩,HD.out.tr (Mod.of_ext XI)⟩
def PF (ga gm gc go:Nat)(o:OwL)(b:Nat) : Prop:=PS ga go o b\/PT ga gm gc b
theorem PW.own {w w':World}{bs gm gc gp gn go ga:Nat}{M:List Int}{P P':PoolS}{a a':PAct}(h:PW w bs gm gc gp gn go ga M P a){k:Nat}{o:OwL}(ho:P.ows[k]?=some o)(hm:Mod (PS ga go o) w w')(hp:PoolR w' bs gm gc gp gn go P')(ha:Xe w' ga gp a') : PW w' bs gm gc gp gn go ga M P' a':=by
 obtain⟨⟨st,q,c,o',n,d,m1⟩,m2⟩:=id h.m;refine⟨h.m.mod hm ?_ ?_,hp,ha⟩
 ·rintro (e | e | e)
  ·exact m1.ne h.a (by decide) e
  ·exact(h.p.oi k o ho).1.ne m1 (by decide) gm e rfl
  ·exact m1.ne h.p.ow (by decide) e
 ·rintro (e | e | e)
  ·exact m2.ne h.a (by decide) e
  ·exact(h.p.oi k o ho).2 e
  ·exact m2.ne h.p.ow (by decide) e
section
variable {ga gm gc go:Nat} {o:OwL} {w w':World}
theorem PF.fa (h:Mod (fun b=>b=ga) w w') : Mod (PF ga gm gc go o) w w':=h.mono fun _ _ e=>.inl (.inl e)
theorem PF.ps (h:Mod (PS ga go o) w w') : Mod (PF ga gm gc go o) w w':=h.mono fun _ _ e=>.inl e
theorem PF.pt (h:Mod (PT ga gm gc) w w') : Mod (PF ga gm gc go o) w w':=h.mono fun _ _ e=>.inr e
end
theorem ZbJ (bs gm gc gp gn go ga:Nat)(M:List Int)(P:PoolS)(a:PAct)(o:OwL)(w:World)(H:PW w bs gm gc gp gn go ga M P a)(ho:P.ows[a.wk]?=some o)(hW:P.ows.length<=100)(hg:a.give=true)(hbs:bs<=w.heap.size)(hx:o.xs.length<2) :
  Calls Tryz.prog 302 #[.pointer (some ⟨ga,0,none⟩)] w fun e w'=>e=.returned (.tuple #[])/\(∃ A' c',PW w' bs gm gc gp gn go ga M { P with ows:=P.ows.set a.wk ⟨A',c',o.xs++[a.slot]⟩ } { a with ph:=3 }/\(bl A'=bl o.A\/∃ g,bl A'=some g/\w.heap.size<=g))/\Mod (PF ga gm gc go o) w w':=by
 have PR:=Hd (JI bs gm gc gp gn go ga P a o w H.p (by exact(Blk.lt H.m.2)) hbs H.a ho hg hx hW);have HH:=Hd H;clear H;go_enter Tryz.func302,Tryz.ntmps302;go_wp2_with (fail);refine PR.out.mono ?_;rintro e w1 ⟨rfl,⟨A',c',p1,g1⟩,a1,d1⟩;have H1:=Hd (HH.out.own ho d1 p1 a1);replace g1:=Hd g1;clear p1 a1 PR;have a4:w1.cell? ⟨ga,4,none⟩=some (.int .i64 a.ph):=(Blk.cell H1.out.a 4);have fa4:w1.frozen? ⟨ga,4,none⟩=false:=Blk.free H1.out.a 4;obtain⟨q1,q2⟩:=H1.out.field 4 (.int .i64 3) (a':={ a with ph:=3 }) rfl;have Q1:=Hd q1;have Q2:=Hd ((PF.ps d1:Mod (PF ga gm gc go o) w w1).tr (PF.fa q2));clear q1 q2 d1;go_wp2_with (fail);exact bodyPost_ret (results_none rfl _ _ _) rfl ⟨rfl,⟨A',c',Q1.out,g1.out⟩,Q2.out⟩
theorem Zdb (bs gm gc gp gn go ga:Nat)(M:List Int)(P:PoolS)(a:PAct)(o:OwL)(w:World)(H:PW w bs gm gc gp gn go ga M P a)(ho:P.ows[a.wk]?=some o)(hW:P.ows.length<=100)(hb:P.base<=1048576)(hl:o.xs.length<=1000)(hno:(a.give=true/\2<=o.xs.length)\/(a.give=false/\o.xs=[]))(x:Int)(hx:M[P.base]?=some x)(ht:Zt x)(hg:a.give=false)(hp:0<=pla x) :
  Calls Tryz.prog 302 #[.pointer (some ⟨ga,0,none⟩)] w fun e w'=>e=.returned (.tuple #[])/\PW w' bs gm gc gp gn go ga M P { a with top:=x,ph:=1 }/\Mod (PT ga gm gc) w w':=by
 have PR:=Hd (ZbC bs gm gc gp gn go ga P a o w H.p H.a ho hno hW hl);have HH:=Hd H;have GE:=Hd (fun(W:World) (h:MemB W gm gc M)=>VG gm gc M P.base x W h hx);have UN:=Hd (fun(W:World)=>Zz x W ht);generalize hpl:pla x=px at *;replace hpl:=Hd hpl;clear H;go_enter Tryz.func302,Tryz.ntmps302;go_wp2_with (fail);refine PR.out.mono ?_;rintro e w1 ⟨rfl,x1⟩;have H1:=Hd (HH.out.ext x1);replace x1:=Hd x1;clear PR;have a0:w1.cell? ⟨ga,0,none⟩=some (.pointer (some ⟨gp,0,none⟩)):=(Blk.cell H1.out.a 0);have p0:w1.cell? ⟨gp,0,none⟩=some (.pointer (some ⟨gm,0,none⟩)):=(H1.out.p.p.cell 0);have p1:w1.cell? ⟨gp,1,none⟩=some (.int .i64 (P.base:Int)):=(H1.out.p.p.cell 1);have za:=Blk.lt H1.out.a;have zp:=H1.out.p.p.lt;go_upto_region 2 with(fail);refine wp_region_any (by kernel_rfl) ?_
 change wpAny _ _ _ _ _ _ _ (World.drew _)
 refine Za 0 (.move (.tmp 0)) 198 (some 10) rfl (by kernel_rfl) Hq (by intro _;go_simp;try rfl) ?_;simp only[lay];refine Za 1 (.move (.tmp 0)) 198 (some 11) rfl (by kernel_rfl) Hq (by intro _;go_simp;try rfl) ?_;simp only[lay];refine Za 2 (.nilCheck (.tmp 11)) 0 (some 12) rfl (by kernel_rfl) Hq (by intro _;go_simp;try rfl) ?_;simp only[lay];refine Za 3 (.fieldAddr 284 (.tmp 12) 0) 0 (some 13) rfl (by kernel_rfl) Hq (by intro _;go_simp;try rfl) ?_;simp only[lay];refine Za 8 (.move (.tmp 0)) 198 (some 18) rfl (by kernel_rfl) Hq (by intro _;go_simp;try rfl) ?_;simp only[lay];refine Za 9 (.nilCheck (.tmp 18)) 0 (some 19) rfl (by kernel_rfl) Hq (by intro _;go_simp;try rfl) ?_;simp only[lay];refine Za 10 (.fieldAddr 284 (.tmp 19) 0) 0 (some 20) rfl (by kernel_rfl) Hq (by intro _;go_simp;try rfl) ?_;simp only[lay];refine Zh (n:=7) [(4,some 14),(5,some 15),(6,some 16),(7,some 17),(11,some 21),(12,some 22),(13,some 23),(14,some 24)] (Ext w1) (VF (fun | 4=>some (.pointer (some ⟨gp,0,none⟩)) | 5=>some (.pointer (some ⟨gp,0,none⟩)) | 6=>some (.pointer (some ⟨gp,0,none⟩)) | 7=>some (.pointer (some ⟨gm,0,none⟩)) | 11=>some (.pointer (some ⟨gp,0,none⟩)) | 12=>some (.pointer (some ⟨gp,0,none⟩)) | 13=>some (.pointer (some ⟨gp,1,none⟩)) | 14=>some (.int .i64 (P.base:Int)) | _=>none) (fun i v W=>True)) Ext #[true,true,true,true,true,true,true,true,true,true,true,true,true,true,true,false,false,false,false,false,false,false] (by decide +kernel) (VF.stab ?_) ?_ ?_ (by first | exact(Ext.rf _).drew | exact Ext.rf _)
 ·intro j v W W' _ _ _;trivial
 ·intro pS hpm uS wS hRW hD K hK
  simp only[List.mem_cons,List.not_mem_nil,or_false] at hpm;rcases hpm with rfl | rfl | rfl | rfl | rfl | rfl | rfl | rfl
  ·( have rX:=Zb hRW za a0;exact Ze (T:=112) (x:=Operand.tmp 13) (t:=112) (d:=some 14) rfl (.pointer (some ⟨ga,0,none⟩)) (by kernel_rfl) (.pointer (some ⟨gp,0,none⟩)) (by go_simp) (hK _ _ (VF.mk rfl) hRW (Ext.rf _)))
  ·(have e4:uS 4=.pointer (some ⟨gp,0,none⟩):=(hD 4 (Zg (by kernel_rfl))).k rfl;exact Zl (op:=Op.nilCheck (Operand.tmp 14)) (t:=0) (d:=some 15) rfl (.pointer (some ⟨gp,0,none⟩)) (by simp only[Zc,Act.put,List.setIfInBounds_toArray,List.set_cons_zero,List.set_cons_succ];unfold Zj;(try go_simp);(try simp only[e4]);(try go_simp);(try rfl);(try (exact IntWalk.i64_in _ (by omega)))) (hK _ _ (VF.mk rfl) hRW (Ext.rf _)))
  ·(have e5:uS 5=.pointer (some ⟨gp,0,none⟩):=(hD 5 (Zg (by kernel_rfl))).k rfl;exact Zl (op:=Op.fieldAddr 271 (Operand.tmp 15) 0) (t:=0) (d:=some 16) rfl (.pointer (some ⟨gp,0,none⟩)) (by simp only[Zc,Act.put,List.setIfInBounds_toArray,List.set_cons_zero,List.set_cons_succ];unfold Zj;(try go_simp);(try simp only[e5]);(try go_simp);(try rfl);(try (exact IntWalk.i64_in _ (by omega)))) (hK _ _ (VF.mk rfl) hRW (Ext.rf _)))
  ·(have e6:uS 6=.pointer (some ⟨gp,0,none⟩):=(hD 6 (Zg (by kernel_rfl))).k rfl;have rX:=Zb hRW zp p0;exact Ze (T:=111) (x:=Operand.tmp 16) (t:=111) (d:=some 17) rfl (.pointer (some ⟨gp,0,none⟩)) (Eq.trans (b:=uS 6) (by kernel_rfl) e6) (.pointer (some ⟨gm,0,none⟩)) (by go_simp) (hK _ _ (VF.mk rfl) hRW (Ext.rf _)))
  ·( have rX:=Zb hRW za a0;exact Ze (T:=112) (x:=Operand.tmp 20) (t:=112) (d:=some 21) rfl (.pointer (some ⟨ga,0,none⟩)) (by kernel_rfl) (.pointer (some ⟨gp,0,none⟩)) (by go_simp) (hK _ _ (VF.mk rfl) hRW (Ext.rf _)))
  ·(have e11:uS 11=.pointer (some ⟨gp,0,none⟩):=(hD 11 (Zg (by kernel_rfl))).k rfl;exact Zl (op:=Op.nilCheck (Operand.tmp 21)) (t:=0) (d:=some 22) rfl (.pointer (some ⟨gp,0,none⟩)) (by simp only[Zc,Act.put,List.setIfInBounds_toArray,List.set_cons_zero,List.set_cons_succ];unfold Zj;(try go_simp);(try simp only[e11]);(try go_simp);(try rfl);(try (exact IntWalk.i64_in _ (by omega)))) (hK _ _ (VF.mk rfl) hRW (Ext.rf _)))
  ·(have e12:uS 12=.pointer (some ⟨gp,0,none⟩):=(hD 12 (Zg (by kernel_rfl))).k rfl;exact Zl (op:=Op.fieldAddr 271 (Operand.tmp 22) 1) (t:=0) (d:=some 23) rfl (.pointer (some ⟨gp,1,none⟩)) (by simp only[Zc,Act.put,List.setIfInBounds_toArray,List.set_cons_zero,List.set_cons_succ];unfold Zj;(try go_simp);(try simp only[e12]);(try go_simp);(try rfl);(try (exact IntWalk.i64_in _ (by omega)))) (hK _ _ (VF.mk rfl) hRW (Ext.rf _)))
  ·(have e13:uS 13=.pointer (some ⟨gp,1,none⟩):=(hD 13 (Zg (by kernel_rfl))).k rfl;have rX:=Zb hRW zp p1;exact Ze (T:=3) (x:=Operand.tmp 23) (t:=3) (d:=some 24) rfl (.pointer (some ⟨gp,1,none⟩)) (Eq.trans (b:=uS 13) (by kernel_rfl) e13) (.int .i64 (P.base:Int)) (by go_simp) (hK _ _ (VF.mk rfl) hRW (Ext.rf _)))
 intro u w3 hR3 hV;have h4:=(hV (4,some 14) (by simp)).k rfl;have h5:=(hV (5,some 15) (by simp)).k rfl;have h6:=(hV (6,some 16) (by simp)).k rfl;have h7:=(hV (7,some 17) (by simp)).k rfl;have h11:=(hV (11,some 21) (by simp)).k rfl;have h12:=(hV (12,some 22) (by simp)).k rfl;have h13:=(hV (13,some 23) (by simp)).k rfl;have h14:=(hV (14,some 24) (by simp)).k rfl;simp only[Zc,h4,h5,h6,h7,h11,h12,h13,h14];clear hV h4 h5 h6 h7 h11 h12 h13 h14
 try simp only[lay]
 refine Zd 15 (by decide +kernel) (Zi (f:=295) (xs:=#[Operand.tmp 17,Operand.tmp 24]) (ts:=#[111,3]) (t:=166) (d:=some 25) rfl #[.pointer (some ⟨gm,0,none⟩),.int .i64 (P.base:Int)] (by go_simp) (by kernel_rfl) _ (GE.out _ (H1.out.m.ext hR3)) ?_);rintro e w4 ⟨rfl,m4,d4⟩;have H4:=Hd ((H1.out.ext hR3).cell m4 d4);have D4:=Hd ((Mod.of_ext (x1.out.tr hR3):Mod (CS gm gc) w w3).tr d4);clear m4 d4 hR3 a0 p0 p1 GE;refine⟨_,rfl,?_⟩
 try simp only[lay]
 refine Za 16 (.move (.tmp 25)) 166 (some 9) rfl (by kernel_rfl) Hq (by intro _;go_simp;try rfl) ?_;simp only[lay];refine Za 17 (.extract (.tmp 9) 0) 3 (some 26) rfl (by kernel_rfl) Hq (by intro _;go_simp;try rfl) ?_;simp only[lay];refine Za 18 (.extract (.tmp 9) 1) 27 (some 27) rfl (by kernel_rfl) Hq (by intro _;go_simp;try rfl) ?_;simp only[lay];refine Za 19 (.nilCheck (.tmp 10)) 0 (some 28) rfl (by kernel_rfl) Hq (by intro _;go_simp;try rfl) ?_;simp only[lay];refine Za 20 (.fieldAddr 284 (.tmp 28) 5) 0 (some 29) rfl (by kernel_rfl) Hq (by intro _;go_simp;try rfl) ?_;simp only[lay];have a5:w4.cell? ⟨ga,5,none⟩=some (.int .i64 a.top):=(Blk.cell H4.out.a 5);have fa5:w4.frozen? ⟨ga,5,none⟩=false:=Blk.free H4.out.a 5;obtain⟨q1,q2⟩:=H4.out.field 5 (.int .i64 x) (a':={ a with top:=x }) rfl;have Q1:=Hd q1;have Q2:=Hd ((D4.out.mono fun b _ h=>(.inr h:PT ga gm gc b)).tr (q2.mono fun b _ h=>(.inl h:PT ga gm gc b)));clear q1 q2 H4 D4;refine Zd 21 (by decide +kernel) (ZR rfl (.pointer (some ⟨ga,5,none⟩)) (.int .i64 x) (by kernel_rfl) (by kernel_rfl) (by go_simp;rfl) ?_);refine wpAny_done (by kernel_rfl) ?_ _;go_simp;clear a5 fa5;generalize w4.setCell ⟨ga,5,none⟩ (.int .i64 x)=w5 at *;have a4:w5.cell? ⟨ga,4,none⟩=some (.int .i64 a.ph):=(Blk.cell Q1.out.a 4);have fa4:w5.frozen? ⟨ga,4,none⟩=false:=Blk.free Q1.out.a 4;obtain⟨q1,q2⟩:=Q1.out.field 4 (.int .i64 1) (a':={ a with top:=x,ph:=1 }) rfl;have R1:=Hd q1;have R2:=Hd (Q2.out.tr (q2.mono fun b _ h=>(.inl h:PT ga gm gc b)));clear q1 q2 Q1 Q2;have a5:(w5.setCell ⟨ga,4,none⟩ (.int .i64 1)).cell? ⟨ga,5,none⟩=some (.int .i64 x):=(Blk.cell R1.out.a 5);go_wp2_with (fail);refine(UN.out _).mono ?_;rintro e w6 ⟨rfl,x6⟩;have S1:=Hd (R1.out.ext x6);have S2:=Hd (R2.out.ext x6);clear x6 UN R1 R2 a4 fa4 a5;have a2:w6.cell? ⟨ga,2,none⟩=some (.bool false):=(Blk.cell S1.out.a 2).trans (by simp[PAct.cells,hg]);replace hg:=Hd hg;have a4:w6.cell? ⟨ga,4,none⟩=some (.int .i64 1):=(Blk.cell S1.out.a 4);have fa4:w6.frozen? ⟨ga,4,none⟩=false:=Blk.free S1.out.a 4;go_wp2_with (go_quiet (fail));go_end0;exact⟨rfl,S1.out.ext XI,S2.out.ext XI⟩
end
section
theorem Uv (ga gp:Nat)(a:PAct)(w:World)(A:Xe w ga gp a)(h:a.ph=0)(R:World->PAct->Prop)(hR:∀ W b,R W b->Xe W ga gp b)(HC:Calls Tryz.prog 302 #[.pointer (some ⟨ga,0,none⟩)] w fun e w'=>e=.returned (.tuple #[])/\∃ b,R w' b) :
  Calls Tryz.prog 248 #[.pointer (some ⟨ga,0,none⟩)] w fun e w'=>∃ b,e=.returned (.bool (b.ph==3))/\R w' b:=by
 have a4:w.cell? ⟨ga,4,none⟩=some (.int .i64 0):=(Blk.cell A 4).trans (by simp[PAct.cells,h]);replace HC:=Hd HC;clear A h;go_enter Tryz.func248,Tryz.ntmps248;go_wp2_with (go_quiet (fail));refine HC.out.mono ?_;rintro e w1 ⟨rfl,b,hb⟩;have b4:w1.cell? ⟨ga,4,none⟩=some (.int .i64 b.ph):=Blk.cell (hR w1 b hb) 4;replace hb:=Hd hb;clear a4 HC;go_wp2_with (go_quiet (fail));go_ret;exact⟨b,rfl,hb.out⟩
theorem JJ (ga gp:Nat)(a:PAct)(w:World)(A:Xe w ga gp a)(h:a.ph=1)(R:World->PAct->Prop)(hR:∀ W b,R W b->Xe W ga gp b)(HC:Calls Tryz.prog 303 #[.pointer (some ⟨ga,0,none⟩)] w fun e w'=>e=.returned (.tuple #[])/\∃ b,R w' b) :
  Calls Tryz.prog 248 #[.pointer (some ⟨ga,0,none⟩)] w fun e w'=>∃ b,e=.returned (.bool (b.ph==3))/\R w' b:=by
 have a4:w.cell? ⟨ga,4,none⟩=some (.int .i64 1):=(Blk.cell A 4).trans (by simp[PAct.cells,h]);replace HC:=Hd HC;clear A h;go_enter Tryz.func248,Tryz.ntmps248;go_wp2_with (go_quiet (fail));refine HC.out.mono ?_;rintro e w1 ⟨rfl,b,hb⟩;have b4:w1.cell? ⟨ga,4,none⟩=some (.int .i64 b.ph):=Blk.cell (hR w1 b hb) 4;replace hb:=Hd hb;clear a4 HC;go_wp2_with (go_quiet (fail));go_ret;exact⟨b,rfl,hb.out⟩
theorem ZaB (ga gp:Nat)(a:PAct)(w:World)(A:Xe w ga gp a)(h:a.ph=2)(R:World->PAct->Prop)(hR:∀ W b,R W b->Xe W ga gp b)(HC:Calls Tryz.prog 304 #[.pointer (some ⟨ga,0,none⟩)] w fun e w'=>e=.returned (.tuple #[])/\∃ b,R w' b) :
  Calls Tryz.prog 248 #[.pointer (some ⟨ga,0,none⟩)] w fun e w'=>∃ b,e=.returned (.bool (b.ph==3))/\R w' b:=by
 have a4:w.cell? ⟨ga,4,none⟩=some (.int .i64 2):=(Blk.cell A 4).trans (by simp[PAct.cells,h]);replace HC:=Hd HC;clear A h;go_enter Tryz.func248,Tryz.ntmps248;go_wp2_with (go_quiet (fail));refine HC.out.mono ?_;rintro e w1 ⟨rfl,b,hb⟩;have b4:w1.cell? ⟨ga,4,none⟩=some (.int .i64 b.ph):=Blk.cell (hR w1 b hb) 4;replace hb:=Hd hb;clear a4 HC;go_wp2_with (go_quiet (fail));go_ret;exact⟨b,rfl,hb.out⟩
theorem VL (bs gm gc gp gn go:Nat)(P:PoolS)(w:World)(H:PoolR w bs gm gc gp gn go P)(s:Nat)(hs:s<P.n)(hn:P.n<=100000) :
  Calls Tryz.prog 164 #[.pointer (some ⟨gp,0,none⟩),.int .i64 (s:Int)] w fun e w'=>e=.returned (.bool true)/\Ext w w':=by
 have p2:w.cell? ⟨gp,2,none⟩=some (.slice (some ⟨gn,0,none⟩) P.n P.n):=(H.p.cell 2);have e1:(s:Int)>=0:=by omega
 have e2:(s:Int)<(P.n:Int):=by omega
 clear H;go_enter Tryz.func164,Tryz.ntmps164;go_wp2_with (go_quiet (fail));go_ret;exact⟨rfl,XI⟩
theorem Zdc (bs gm gc gp gn go:Nat)(P:PoolS)(w:World)(H:PoolR w bs gm gc gp gn go P)(k:Nat)(hk:k<P.ows.length)(hW:P.ows.length<=100) :
  Calls Tryz.prog 95 #[.pointer (some ⟨gp,0,none⟩),.int .i64 (k:Int)] w fun e w'=>∃ ga,e=.returned (.pointer (some ⟨ga,0,none⟩))/\Xe w' ga gp ⟨k,false,-1,0,0,0⟩/\w.heap.size<=ga/\Ext w w':=by
 have p3:w.cell? ⟨gp,3,none⟩=some (.slice (some ⟨go,0,none⟩) P.ows.length P.ows.length):=(H.p.cell 3);have e1:¬(k:Int)<0:=by omega
 have e2:¬(k:Int)>=(P.ows.length:Int):=by omega
 have zz:w.heap.size=w.heap.size:=rfl;clear H;go_enter Tryz.func95,Tryz.ntmps95;go_wp2_with (go_quiet (fail));go_ret;exact⟨_,rfl,by unfold Xe PAct.cells;exact Blk.new rfl,by simp,XI⟩
theorem Zdd (bs gm gc gp gn go:Nat)(P:PoolS)(w:World)(H:PoolR w bs gm gc gp gn go P)(k s:Nat)(hk:k<P.ows.length)(hW:P.ows.length<=100)(hs:s<P.n)(hn:P.n<=100000) :
  Calls Tryz.prog 251 #[.pointer (some ⟨gp,0,none⟩),.int .i64 (k:Int),.int .i64 (s:Int)] w fun e w'=>∃ ga,e=.returned (.pointer (some ⟨ga,0,none⟩))/\Xe w' ga gp ⟨k,true,s,0,0,0⟩/\w.heap.size<=ga/\Ext w w':=by
 have HA:=Hd (fun(W:World) (X:Ext w W)=>VL bs gm gc gp gn go P W (H.ext X) s hs hn);have p3:w.cell? ⟨gp,3,none⟩=some (.slice (some ⟨go,0,none⟩) P.ows.length P.ows.length):=(H.p.cell 3);have zp:=H.p.lt;have e1:¬(k:Int)<0:=by omega
 have e2:¬(k:Int)>=(P.ows.length:Int):=by omega
 clear H;go_enter Tryz.func251,Tryz.ntmps251;go_wp2_with (go_quiet (fail));refine(HA.out _ XI).mono ?_;rintro e w1 ⟨rfl,x1⟩;have X1:=Hd (Ext.tr (a:=w) XI x1);have p3:=Zb X1.out zp p3;clear x1 HA;go_wp2_with (go_quiet (fail));go_ret;exact⟨_,rfl,by unfold Xe PAct.cells;exact Blk.new rfl,by have:=X1.out.size;simpa using this,X1.out.tr XI⟩
theorem Jo (ga gp:Nat)(a:PAct)(w:World)(A:Xe w ga gp a)(h:a.ph=3) :
  Calls Tryz.prog 98 #[.pointer (some ⟨ga,0,none⟩)] w fun e w'=>e=.returned (.int .i64 a.slot)/\Ext w w':=by
 have a4:w.cell? ⟨ga,4,none⟩=some (.int .i64 3):=(Blk.cell A 4).trans (by simp[PAct.cells,h]);have a3:w.cell? ⟨ga,3,none⟩=some (.int .i64 a.slot):=(Blk.cell A 3);clear A h;go_enter Tryz.func98,Tryz.ntmps98;go_wp2_with (go_quiet (fail));go_ret;exact⟨rfl,XI⟩
theorem Ws (bs gm gc gp gn go:Nat)(P:PoolS)(w:World)(H:PoolR w bs gm gc gp gn go P)(s:Nat)(hs:s<P.n)(hn:P.n<=100000)(b:Int)(hb:P.nv[s*2+1]?=some (.int .i64 b)) :
  Calls Tryz.prog 336 #[.pointer (some ⟨gp,0,none⟩),.int .i64 (s:Int)] w fun e w'=>e=.returned (.int .i64 b)/\Ext w w':=by
 have HA:=Hd (fun(W:World) (X:Ext w W)=>VL bs gm gc gp gn go P W (H.ext X) s hs hn);have p2:w.cell? ⟨gp,2,none⟩=some (.slice (some ⟨gn,0,none⟩) P.n P.n):=(H.p.cell 2);have n1:w.cell? ⟨gn,s*2+1,none⟩=some (.int .i64 b):=(H.nd.cell (s*2+1)).trans (by simpa using hb);have zp:=H.p.lt;have zn:=H.nd.lt;have e1:(0:Int)<=(s:Int):=by omega
 have e2:(s:Int)<(P.n:Int):=by omega
 clear H;go_enter Tryz.func336,Tryz.ntmps336;go_wp2_with (go_quiet (fail));refine(HA.out _ XI).mono ?_;rintro e w1 ⟨rfl,x1⟩;have X1:=Hd (Ext.tr (a:=w) XI x1);have p2:=Zb X1.out zp p2;have n1:=Zb X1.out zn n1;clear x1 HA;go_wp2_with (go_quiet (fail));go_ret;exact⟨rfl,X1.out.tr XI⟩
def Zez (xs:List Int)(b:Int)(w:World)(e:Ending)(w':World) : Prop:=∃ A c,e=.returned (.agg #[.slice A xs.length c,.int .i64 b])/\OwI w' w.heap.size A c xs/\Ext w w'
theorem Uw (xs:List Int)(b:Int)(A:Option Addr)(c:Nat)(w:World)(hA:RdI w A xs)(hl:xs.length<=2^44) :
  Calls Tryz.prog 165 #[.agg #[.slice A xs.length c,.int .i64 b]] w (Zez xs b w):=by
 unfold Zez;have X:Ext w ((w.alloc (.cells #[.slice A xs.length c,.int .i64 b] 204)).alloc (.cells #[.slice none 0 0,.int .i64 0] 204)):=((Ext.rf _).alloc _).alloc _;have B1:Blk ((w.alloc (.cells #[.slice A xs.length c,.int .i64 b] 204)).alloc (.cells #[.slice none 0 0,.int .i64 0] 204)) w.heap.size 204 #[.slice A xs.length c,.int .i64 b]:=.alloc (.new rfl) _;have B2:Blk ((w.alloc (.cells #[.slice A xs.length c,.int .i64 b] 204)).alloc (.cells #[.slice none 0 0,.int .i64 0] 204)) (w.heap.size+1) 204 #[.slice none 0 0,.int .i64 0]:=.new (by simp);replace X:=Hd X;replace B1:=Hd B1;replace B2:=Hd B2;go_enter Tryz.func165,Tryz.ntmps165;go_wp2_with (fail);generalize (w.alloc (.cells #[.slice A xs.length c,.int .i64 b] 204)).alloc (.cells #[.slice none 0 0,.int .i64 0] 204)=wr at *;have a0:wr.cell? ⟨w.heap.size,0,none⟩=some (.slice A xs.length c):=(B1.out.cell 0);have a1:wr.cell? ⟨w.heap.size,1,none⟩=some (.int .i64 b):=(B1.out.cell 1);have z1:=B1.out.lt;have z2:=B2.out.lt;have hA':=Hd (hA.ext X.out);go_region_held3 (fun w'=>w'.cell? ⟨w.heap.size,0,none⟩=some (.slice A xs.length c)/\w'.cell? ⟨w.heap.size,1,none⟩=some (.int .i64 b)) (go_keep)
  (first | (go_at_call 52;refine(ZO A c xs _ (hA'.out.ext XI) hl).mono ?_;rintro e w3 ⟨A3,c3,rfl,o3,x3⟩;have y3:=Ext.tr (a:=wr) XI x3;have s1:=Zb y3 z1 a0;have s2:=Zb y3 z1 a1;have t0:w3.cell? ⟨w.heap.size+1,0,none⟩=some (.slice none 0 0):=(B2.out.ext y3).cell 0;have t1:w3.cell? ⟨w.heap.size+1,1,none⟩=some (.int .i64 0):=(B2.out.ext y3).cell 1;have f0:=(B2.out.ext y3).free 0;have f1:=(B2.out.ext y3).free 1))
 all_goals
  have hz3:=(X.out.tr y3).size;have hxy:w.heap.size<=wr.heap.size:=X.out.size;have Bq:=Hd (B2.out.ext y3);have OF:=Hd (OwI.more (base':=w.heap.size) o3 (by first | exact hxy | (simp;omega)));have M:=Hd ((ModT.set w3 Bq.out (ts:=[204]) (base:=w.heap.size) (by simp) (by omega) 0 (.slice A3 xs.length c3)).tr (ModT.set _ (Bq.out.set 0 (.slice A3 xs.length c3)) (by simp) (by omega) 1 (.int .i64 b)));go_wp2_with (fail);exact bodyPost_ret (v:=.agg #[.slice A3 xs.length c3,.int .i64 b]) (by simp[results,Tryz.results165,go_sem, *]) rfl ⟨A3,c3,rfl,OF.out.modT M.out (by decide),(X.out.tr y3).modT M.out (Nat.le_refl _)⟩
theorem PoolR.node {w:World}{bs gm gc gp gn go:Nat}{P:PoolS}(h:PoolR w bs gm gc gp gn go P)(i:Nat)(v:Value) : PoolR (w.setCell ⟨gn,i,none⟩ v) bs gm gc gp gn go { P with nv:=P.nv.set i v }:=by
 refine⟨h.p.far (p:=⟨gn,i,none⟩) (h.p.ne h.nd (by decide)) _,?_,by simpa using h.ln,h.ow.far (p:=⟨gn,i,none⟩) (h.ow.ne h.nd (by decide)) _,fun k o ho=>⟨(h.oi k o ho).1.far h.nd (by decide) _ _,(h.oi k o ho).2⟩,h.dj⟩;have:=h.nd.set i v
 rwa [show (List.toArray P.nv).setIfInBounds i v=List.toArray (P.nv.set i v) by simp] at this
theorem Zde (bs gm gc gp gn go:Nat)(P:PoolS)(w:World)(H:PoolR w bs gm gc gp gn go P)(s:Nat)(hs:s<P.n)(hn:P.n<=100000)(xs:List Int)(b:Int)(A:Option Addr)(c:Nat)(hA:RdI w A xs)(hl:xs.length<=2^44) :
  Calls Tryz.prog 97 #[.pointer (some ⟨gp,0,none⟩),.int .i64 (s:Int),.agg #[.slice A xs.length c,.int .i64 b]] w fun e w'=>e=.returned (.tuple #[])/\(∃ A' c',PoolR w' bs gm gc gp gn go { P with nv:=(P.nv.set (s*2) (.slice A' xs.length c')).set (s*2+1) (.int .i64 b) }/\OwI w' w.heap.size A' c' xs)/\Mod (fun k=>k=gn) w w':=by
 have HA:=Hd (fun(W:World) (X:Ext w W)=>VL bs gm gc gp gn go P W (H.ext X) s hs hn);have HH:=Hd H;have e1:(0:Int)<=(s:Int):=by omega
 have e2:(s:Int)<(P.n:Int):=by omega
 have l1:s*2+1<P.nv.length:=by rw[H.ln];omega
 obtain⟨v0,hv0⟩:∃ v0,P.nv[s*2]?=some v0:=⟨_,List.getElem?_eq_getElem (by omega)⟩;obtain⟨v1,hv1⟩:∃ v1,P.nv[s*2+1]?=some v1:=⟨_,List.getElem?_eq_getElem (by omega)⟩;have B1:Hid (Blk (w.alloc (.cells #[.slice A xs.length c,.int .i64 b] 204)) w.heap.size 204 #[.slice A xs.length c,.int .i64 b]):=Hd (.new rfl);clear H;go_enter Tryz.func97,Tryz.ntmps97;go_wp2_with (fail);refine(HA.out _ XI).mono ?_;rintro e w1 ⟨rfl,x1⟩;have B:=Hd (B1.out.ext x1);have X1:=Hd (Ext.tr (a:=w) XI x1);clear x1 HA B1;have H1:=Hd (HH.out.ext X1.out);have hA1:=Hd (hA.ext X1.out);have p2:w1.cell? ⟨gp,2,none⟩=some (.slice (some ⟨gn,0,none⟩) P.n P.n):=(H1.out.p.cell 2);have a0:w1.cell? ⟨w.heap.size,0,none⟩=some (.slice A xs.length c):=(B.out.cell 0);have a1:w1.cell? ⟨w.heap.size,1,none⟩=some (.int .i64 b):=(B.out.cell 1);have z1:=B.out.lt;have zp:=H1.out.p.lt;have NC:=Hd (fun(W:World) (h:RdI W A xs)=>Uw xs b A c W h hl);have zn:=H1.out.nd.lt;have d1:w.heap.size≠gn:=by have:=HH.out.nd.lt;omega
 have d2:gn≠w.heap.size:=fun h=>d1 h.symm
 have d3:gp≠gn:=HH.out.p.ne HH.out.nd (by decide);have d4:gn≠gp:=fun h=>d3 h.symm
 go_wp2_with (go_quiet (fail));go_region_held3 (fun w'=>w'.cell? ⟨w.heap.size,0,none⟩=some (.slice A xs.length c)/\w'.cell? ⟨w.heap.size,1,none⟩=some (.int .i64 b)/\w'.cell? ⟨gp,2,none⟩=some (.slice (some ⟨gn,0,none⟩) P.n P.n)) (go_keep)
  (first | (go_at_call 165;refine(NC.out _ (hA1.out.ext XI)).mono ?_;rintro e w3 ⟨A3,c3,rfl,o3,x3⟩;have y3:=Ext.tr (a:=w1) XI x3;have s0:=Zb y3 z1 a0;have s1:=Zb y3 z1 a1;have s2:=Zb y3 zp p2;have t0:w3.cell? ⟨gn,s*2,none⟩=some v0:=((H1.out.ext y3).nd.cell (s*2)).trans (by simpa using hv0);have t1:w3.cell? ⟨gn,s*2+1,none⟩=some v1:=((H1.out.ext y3).nd.cell (s*2+1)).trans (by simpa using hv1);have f0:=(H1.out.ext y3).nd.free (s*2);have f1:=(H1.out.ext y3).nd.free (s*2+1)))
 all_goals
  have hz3:=(X1.out.tr y3).size;have H3:=Hd (((H1.out.ext y3).node (s*2) (.slice A3 xs.length c3)).node (s*2+1) (.int .i64 b));have O3:=Hd (((OwI.more (base':=w.heap.size) o3 (by have:=X1.out.size;have:=y3.size;first | omega | (simp;omega))).far (H1.out.ext y3).nd (by decide) (s*2) (.slice A3 xs.length c3)).far ((H1.out.ext y3).node (s*2) (.slice A3 xs.length c3)).nd (by decide) (s*2+1) (.int .i64 b));have M3:Hid (Mod (fun k=>k=gn) w ((w3.setCell ⟨gn,s*2,none⟩ (.slice A3 xs.length c3)).setCell ⟨gn,s*2+1,none⟩ (.int .i64 b))):=Hd (Mod.set (S:=fun k=>k=gn) (p:=⟨gn,s*2+1,none⟩) (Mod.set (S:=fun k=>k=gn) (p:=⟨gn,s*2,none⟩) (Mod.of_ext (X1.out.tr y3)) (.inl rfl) _) (.inl rfl) _);clear H1 HH NC;go_wp2_with (go_quiet (fail));go_end0;exact⟨rfl,⟨A3,c3,H3.out,O3.out⟩,M3.out⟩
def ZN (w:World)(gh gm gp b lv:Nat) : Prop:=Blk w gh 274 #[.pointer (some ⟨gm,0,none⟩),.int .i64 (b:Int),.int .i64 (lv:Int),.pointer (some ⟨gp,0,none⟩)]
theorem YO (gh gm gp b lv:Nat)(w:World)(H:ZN w gh gm gp b lv)(hl:lv<=20) :
  Calls Tryz.prog 156 #[.pointer (some ⟨gh,0,none⟩)] w fun e w'=>e=.returned (.int .i64 ((2^lv-1:Nat):Int))/\Ext w w':=by
 have h2:w.cell? ⟨gh,2,none⟩=some (.int .i64 (lv:Int)):=(Blk.cell H 2);clear H;have hp:2^lv<=2^20:=Nat.pow_le_pow_right (by omega) hl;have hp1:1<=2^lv:=Nat.one_le_two_pow;have hp2:(2:Int)^lv=((2^lv:Nat):Int):=by simp
 have w1:IntKind.i64.wrap ((2:Int)^lv)=((2^lv:Nat):Int):=by rw[hp2];exact IntWalk.i64_in _ (by omega)
 have w2:IntKind.i64.wrap (((2^lv:Nat):Int)-1)=((2^lv-1:Nat):Int):=by rw[show ((2^lv:Nat):Int)-1=((2^lv-1:Nat):Int) by omega];exact IntWalk.i64_in _ (by omega)
 clear hp2;generalize hq:((2^lv-1:Nat):Int)=q at *;replace hq:=Hd hq;generalize hr:((2^lv:Nat):Int)=r at *;replace hr:=Hd hr;go_enter Tryz.func156,Tryz.ntmps156;go_wp2_with (go_quiet (fail));go_ret;exact⟨rfl,XI⟩
theorem V9 (gh gm gp b lv:Nat)(w:World)(H:ZN w gh gm gp b lv)(i:Nat)(h1:1<=i)(hi:i<=2097152)(hb:b<=1048576) :
  Calls Tryz.prog 157 #[.pointer (some ⟨gh,0,none⟩),.int .i64 (i:Int)] w fun e w'=>e=.returned (.int .i64 ((b+(i-1):Nat):Int))/\Ext w w':=by
 have h2:w.cell? ⟨gh,1,none⟩=some (.int .i64 (b:Int)):=(Blk.cell H 1);clear H;have w1:IntKind.i64.wrap ((b:Int)+(i:Int))=(b:Int)+(i:Int):=IntWalk.i64_in _ (by omega);have w2:IntKind.i64.wrap ((b:Int)+(i:Int)-1)=((b+(i-1):Nat):Int):=by rw[show (b:Int)+(i:Int)-1=((b+(i-1):Nat):Int) by omega];exact IntWalk.i64_in _ (by omega)
 go_enter Tryz.func157,Tryz.ntmps157;go_wp2_with (fail);go_ret;exact⟨rfl,XI⟩
theorem Jp (gh gm gp b lv:Nat)(w:World)(H:ZN w gh gm gp b lv)(hl:lv<=20)(s:Nat)(hs:s<=100000)(hb:b<=1048576) :
  Calls Tryz.prog 324 #[.pointer (some ⟨gh,0,none⟩),.int .i64 (s:Int)] w fun e w'=>e=.returned (.int .i64 ((b+(2^lv-1)+s:Nat):Int))/\Ext w w':=by
 have PL:=Hd (fun(W:World) (X:Ext w W)=>YO gh gm gp b lv W (Blk.ext H X) hl);have h2:w.cell? ⟨gh,1,none⟩=some (.int .i64 (b:Int)):=(Blk.cell H 1);have zh:=Blk.lt H;clear H;have hp:2^lv<=2^20:=Nat.pow_le_pow_right (by omega) hl;have hn:2^lv-1<=2^20:=by omega
 generalize 2^lv-1=n at *;have w1:IntKind.i64.wrap ((b:Int)+(n:Int))=(b:Int)+(n:Int):=IntWalk.i64_in _ (by omega);have w2:IntKind.i64.wrap ((b:Int)+(n:Int)+(s:Int))=((b+n+s:Nat):Int):=by rw[show (b:Int)+(n:Int)+(s:Int)=((b+n+s:Nat):Int) by omega];exact IntWalk.i64_in _ (by omega)
 go_enter Tryz.func324,Tryz.ntmps324;go_upto_region 1 with(fail);refine wp_region_any (by kernel_rfl) ?_
 change wpAny _ _ _ _ _ _ _ (World.drew _)
 refine Za 0 (.move (.tmp 0)) 188 (some 5) rfl (by kernel_rfl) Hq (by intro _;go_simp;try rfl) ?_;simp only[lay];refine Za 1 (.nilCheck (.tmp 5)) 0 (some 6) rfl (by kernel_rfl) Hq (by intro _;go_simp;try rfl) ?_;simp only[lay];refine Za 2 (.fieldAddr 274 (.tmp 6) 1) 0 (some 7) rfl (by kernel_rfl) Hq (by intro _;go_simp;try rfl) ?_;simp only[lay];refine Za 4 (.move (.tmp 0)) 188 (some 9) rfl (by kernel_rfl) Hq (by intro _;go_simp;try rfl) ?_;simp only[lay];refine Za 7 (.move (.tmp 1)) 3 (some 12) rfl (by kernel_rfl) Hq (by intro _;go_simp;try rfl) ?_;simp only[lay];refine Zh (n:=3) [(3,some 8),(5,some 10)] (Ext w) (VF (fun | 3=>some (.int .i64 (b:Int)) | 5=>some (.int .i64 (n:Int)) | _=>none) (fun i v W=>True)) Ext #[true,true,true,true,true,true,false,true,false,false] (by decide +kernel) (VF.stab ?_) ?_ ?_ (by first | exact(Ext.rf _).drew | exact Ext.rf _)
 ·intro j v W W' _ _ _;trivial
 ·intro pS hpm uS wS hRW hD K hK
  simp only[List.mem_cons,List.not_mem_nil,or_false] at hpm;rcases hpm with rfl | rfl
  ·( have rX:=Zb hRW zh h2;exact Ze (T:=3) (x:=Operand.tmp 7) (t:=3) (d:=some 8) rfl (.pointer (some ⟨gh,1,none⟩)) (by kernel_rfl) (.int .i64 (b:Int)) (by go_simp) (hK _ _ (VF.mk rfl) hRW (Ext.rf _)))
  ·( exact Zi (f:=156) (xs:=#[Operand.tmp 9]) (ts:=#[188]) (t:=3) (d:=some 10) rfl #[.pointer (some ⟨gh,0,none⟩)] (by go_simp) (by kernel_rfl) _ (PL.out _ hRW) (by rintro e w9 ⟨rfl,xx⟩;exact⟨_,rfl,hK _ _ (VF.mk rfl) (hRW.tr xx) xx⟩))
 intro u w3 hR3 hV;have h3:=(hV (3,some 8) (by simp)).k rfl;have h5:=(hV (5,some 10) (by simp)).k rfl;simp only[Zc,h3,h5];clear hV h3 h5
 try simp only[lay]
 refine Za 6 (.binOp .add 3 (.tmp 8) (.tmp 10) 3) 3 (some 11) rfl (by kernel_rfl) Hq (by intro _;go_simp;try rfl) ?_;simp only[lay];refine Za 8 (.binOp .add 3 (.tmp 11) (.tmp 12) 3) 3 (some 13) rfl (by kernel_rfl) Hq (by intro _;go_simp;try rfl) ?_;simp only[lay];refine Za 9 (.assign (.tmp 13)) 3 (some 4) rfl (by kernel_rfl) Hq (by intro _;go_simp;try rfl) ?_;simp only[lay];refine wpAny_done (by kernel_rfl) ?_ _;go_simp;go_wp2_with (fail);go_ret;exact⟨rfl,hR3⟩
def PB (P:PoolS)(bd:Nat->Int) : Prop:=∀ s,s<P.n->P.nv[s*2+1]?=some (.int .i64 (bd s))
def Ua (bd:Nat->Int)(x key:Int) : Bool:=decide (0<=pla x)&&decide (bd (pla x).toNat<key)
def Ux (bd:Nat->Int)(x y:Int) : Bool:=decide (0<=pla x)&&(decide (pla y<0) || decide (bd (pla x).toNat<bd (pla y).toNat))
theorem QF (bs gm gc gp gn go gh b lv:Nat)(P:PoolS)(bd:Nat->Int)(w:World)(HH:ZN w gh gm gp b lv)(HP:PoolR w bs gm gc gp gn go P)(hbd:PB P bd)(hn:P.n<=100000)(x key:Int)(hx:Zt x)(hp:pla x<(P.n:Int)) :
  Calls Tryz.prog 320 #[.pointer (some ⟨gh,0,none⟩),.int .i64 x,.int .i64 key] w fun e w'=>e=.returned (.bool (Ua bd x key))/\Ext w w':=by
 have UN:=Hd (Zz x w hx);have h3:w.cell? ⟨gh,3,none⟩=some (.pointer (some ⟨gp,0,none⟩)):=(Blk.cell HH 3);have zh:=Blk.lt HH;unfold Ua
 by_cases h0:0<=pla x
 ·obtain⟨s,hs⟩:=Int.eq_ofNat_of_zero_le h0
  rw[hs] at hp UN ⊢;have BO:=fun(W:World) (X:Ext w W)=>Ws bs gm gc gp gn go P W (HP.ext X) s (by omega) hn (bd s) (hbd s (by omega))
  have e1:(s:Int)>=0:=by omega
  clear HH HP hbd hp hs h0 hx;obtain⟨k,hk⟩:∃ k,bd s=k:=⟨_,rfl⟩;rw[hk] at BO;rw[show (decide (0<=(s:Int))&&decide (bd (s:Int).toNat<key))=decide (k<key) by simp[hk]];clear hk;replace BO:=Hd BO;go_enter Tryz.func320,Tryz.ntmps320;go_wp2_with (fail);refine UN.out.mono ?_;rintro e w1 ⟨rfl,x1⟩;replace x1:=Hd x1;have h3:=Zb x1.out zh h3;go_wp2_with (go_quiet (fail));refine(BO.out _ (x1.out.tr XI)).mono ?_;rintro e w2 ⟨rfl,x2⟩;have X2:=Hd (x1.out.tr (Ext.tr (a:=w1) XI x2));clear x2 BO UN;go_wp2_with (go_quiet (fail));go_ret;exact⟨rfl,X2.out.tr XI⟩
 ·have e1:pla x<0:=by omega
  have e2:decide (0<=pla x)=false:=decide_eq_false h0;rw[e2,Bool.false_and];generalize pla x=px at *;clear HH HP hbd hp hx h3 e2 h0 hn bd P zh;go_enter Tryz.func320,Tryz.ntmps320;go_wp2_with (fail);refine UN.out.mono ?_;rintro e w1 ⟨rfl,x1⟩;replace x1:=Hd x1;clear UN;go_wp2_with (go_quiet (fail));go_ret;exact⟨rfl,x1.out.tr XI⟩
theorem Yz (gm gc gh b lv ga gp:Nat)(M:List Int)(w:World)(HH:ZN w gh gm gp b lv)(HM:MemB w gm gc M)(t:TypeId)(cs:Array Value)(A:Blk w ga t cs)(A0:cs[0]?=some (.pointer (some ⟨gh,0,none⟩)))(hb:b<=1048576)(i:Nat)(h1:1<=i)(hi:i<=2097152)(x:Int)(hx:M[b+(i-1)]?=some x) :
  Calls Tryz.prog 319 #[.pointer (some ⟨ga,0,none⟩),.int .i64 (i:Int)] w (Yc gm gc M (.int .i64 x) w):=by
 have GE:=Hd (fun(W:World) (h:MemB W gm gc M)=>VG gm gc M (b+(i-1)) x W h hx);have HD:=Hd (fun(W:World) (X:Ext w W)=>V9 gh gm gp b lv W (Blk.ext HH X) i h1 hi hb);have MM:=Hd HM;have a0:w.cell? ⟨ga,0,none⟩=some (.pointer (some ⟨gh,0,none⟩)):=(A.cell 0).trans A0;have h0:w.cell? ⟨gh,0,none⟩=some (.pointer (some ⟨gm,0,none⟩)):=(Blk.cell HH 0);have za:=A.lt;have zh:=Blk.lt HH;clear HH HM A A0 hx;generalize b+(i-1)=q at *;go_enter Tryz.func319,Tryz.ntmps319;go_upto_region 1 with(fail);refine wp_region_any (by kernel_rfl) ?_
 change wpAny _ _ _ _ _ _ _ (World.drew _)
 refine Za 0 (.move (.tmp 0)) 205 (some 8) rfl (by kernel_rfl) Hq (by intro _;go_simp;try rfl) ?_;simp only[lay];refine Za 1 (.nilCheck (.tmp 8)) 0 (some 9) rfl (by kernel_rfl) Hq (by intro _;go_simp;try rfl) ?_;simp only[lay];refine Za 2 (.fieldAddr 293 (.tmp 9) 0) 0 (some 10) rfl (by kernel_rfl) Hq (by intro _;go_simp;try rfl) ?_;simp only[lay];refine Za 7 (.move (.tmp 0)) 205 (some 15) rfl (by kernel_rfl) Hq (by intro _;go_simp;try rfl) ?_;simp only[lay];refine Za 8 (.nilCheck (.tmp 15)) 0 (some 16) rfl (by kernel_rfl) Hq (by intro _;go_simp;try rfl) ?_;simp only[lay];refine Za 9 (.fieldAddr 293 (.tmp 16) 0) 0 (some 17) rfl (by kernel_rfl) Hq (by intro _;go_simp;try rfl) ?_;simp only[lay];refine Za 11 (.move (.tmp 1)) 3 (some 19) rfl (by kernel_rfl) Hq (by intro _;go_simp;try rfl) ?_;simp only[lay];refine Zh (n:=6) [(3,some 11),(4,some 12),(5,some 13),(6,some 14),(10,some 18),(12,some 20)] (Ext w) (VF (fun | 3=>some (.pointer (some ⟨gh,0,none⟩)) | 4=>some (.pointer (some ⟨gh,0,none⟩)) | 5=>some (.pointer (some ⟨gh,0,none⟩)) | 6=>some (.pointer (some ⟨gm,0,none⟩)) | 10=>some (.pointer (some ⟨gh,0,none⟩)) | 12=>some (.int .i64 (q:Int)) | _=>none) (fun i v W=>True)) Ext #[true,true,true,true,true,true,true,true,true,true,true,true,true,false,false,false,false,false,false] (by decide +kernel) (VF.stab ?_) ?_ ?_ (by first | exact(Ext.rf _).drew | exact Ext.rf _)
 ·intro j v W W' _ _ _;trivial
 ·intro pS hpm uS wS hRW hD K hK
  simp only[List.mem_cons,List.not_mem_nil,or_false] at hpm;rcases hpm with rfl | rfl | rfl | rfl | rfl | rfl
  ·( have rX:=Zb hRW za a0;exact Ze (T:=188) (x:=Operand.tmp 10) (t:=188) (d:=some 11) rfl (.pointer (some ⟨ga,0,none⟩)) (by kernel_rfl) (.pointer (some ⟨gh,0,none⟩)) (by go_simp) (hK _ _ (VF.mk rfl) hRW (Ext.rf _)))
  ·(have e3:uS 3=.pointer (some ⟨gh,0,none⟩):=(hD 3 (Zg (by kernel_rfl))).k rfl;exact Zl (op:=Op.nilCheck (Operand.tmp 11)) (t:=0) (d:=some 12) rfl (.pointer (some ⟨gh,0,none⟩)) (by simp only[Zc,Act.put,List.setIfInBounds_toArray,List.set_cons_zero,List.set_cons_succ];unfold Zj;(try go_simp);(try simp only[e3]);(try go_simp);(try rfl);(try (exact IntWalk.i64_in _ (by omega)))) (hK _ _ (VF.mk rfl) hRW (Ext.rf _)))
  ·(have e4:uS 4=.pointer (some ⟨gh,0,none⟩):=(hD 4 (Zg (by kernel_rfl))).k rfl;exact Zl (op:=Op.fieldAddr 274 (Operand.tmp 12) 0) (t:=0) (d:=some 13) rfl (.pointer (some ⟨gh,0,none⟩)) (by simp only[Zc,Act.put,List.setIfInBounds_toArray,List.set_cons_zero,List.set_cons_succ];unfold Zj;(try go_simp);(try simp only[e4]);(try go_simp);(try rfl);(try (exact IntWalk.i64_in _ (by omega)))) (hK _ _ (VF.mk rfl) hRW (Ext.rf _)))
  ·(have e5:uS 5=.pointer (some ⟨gh,0,none⟩):=(hD 5 (Zg (by kernel_rfl))).k rfl;have rX:=Zb hRW zh h0;exact Ze (T:=111) (x:=Operand.tmp 13) (t:=111) (d:=some 14) rfl (.pointer (some ⟨gh,0,none⟩)) (Eq.trans (b:=uS 5) (by kernel_rfl) e5) (.pointer (some ⟨gm,0,none⟩)) (by go_simp) (hK _ _ (VF.mk rfl) hRW (Ext.rf _)))
  ·( have rX:=Zb hRW za a0;exact Ze (T:=188) (x:=Operand.tmp 17) (t:=188) (d:=some 18) rfl (.pointer (some ⟨ga,0,none⟩)) (by kernel_rfl) (.pointer (some ⟨gh,0,none⟩)) (by go_simp) (hK _ _ (VF.mk rfl) hRW (Ext.rf _)))
  ·(have e10:uS 10=.pointer (some ⟨gh,0,none⟩):=(hD 10 (Zg (by kernel_rfl))).k rfl;exact Zi (f:=157) (xs:=#[Operand.tmp 18,Operand.tmp 19]) (ts:=#[188,3]) (t:=3) (d:=some 20) rfl #[.pointer (some ⟨gh,0,none⟩),.int .i64 (i:Int)] (by go_simp) (Eq.trans (b:=#[uS 10,.int .i64 (i:Int)]) (by kernel_rfl) (by rw[e10])) _ (HD.out _ hRW) (by rintro e w9 ⟨rfl,xx⟩;exact⟨_,rfl,hK _ _ (VF.mk rfl) (hRW.tr xx) xx⟩))
 intro u w3 hR3 hV;have h3:=(hV (3,some 11) (by simp)).k rfl;have h4:=(hV (4,some 12) (by simp)).k rfl;have h5:=(hV (5,some 13) (by simp)).k rfl;have h6:=(hV (6,some 14) (by simp)).k rfl;have h10:=(hV (10,some 18) (by simp)).k rfl;have h12:=(hV (12,some 20) (by simp)).k rfl;simp only[Zc,h3,h4,h5,h6,h10,h12];clear hV h3 h4 h5 h6 h10 h12
 try simp only[lay]
 refine Zd 13 (by decide +kernel) (Zi (f:=295) (xs:=#[Operand.tmp 14,Operand.tmp 20]) (ts:=#[111,3]) (t:=166) (d:=some 21) rfl #[.pointer (some ⟨gm,0,none⟩),.int .i64 (q:Int)] (by go_simp) (by kernel_rfl) _ (GE.out _ (MM.out.ext hR3)) ?_);rintro e w4 ⟨rfl,m4,d4⟩;have M4:=Hd m4;have D4:=Hd ((Mod.of_ext hR3:Mod (CS gm gc) w w3).tr d4);clear m4 d4 hR3 GE HD;refine⟨_,rfl,?_⟩
 try simp only[lay]
 refine Za 14 (.move (.tmp 21)) 166 (some 7) rfl (by kernel_rfl) Hq (by intro _;go_simp;try rfl) ?_;simp only[lay];refine Za 15 (.extract (.tmp 7) 0) 3 (some 22) rfl (by kernel_rfl) Hq (by intro _;go_simp;try rfl) ?_;simp only[lay];refine Za 16 (.extract (.tmp 7) 1) 27 (some 23) rfl (by kernel_rfl) Hq (by intro _;go_simp;try rfl) ?_;simp only[lay];refine Za 17 (.assign (.tmp 22)) 3 (some 5) rfl (by kernel_rfl) Hq (by intro _;go_simp;try rfl) ?_;simp only[lay];refine Za 18 (.assign (.tmp 23)) 27 (some 6) rfl (by kernel_rfl) Hq (by intro _;go_simp;try rfl) ?_;simp only[lay];refine wpAny_done (by kernel_rfl) ?_ _;go_simp;go_wp2_with (fail);go_ret;exact⟨rfl,M4.out,D4.out⟩
theorem Jq (gm gc gh b lv ga gp:Nat)(M:List Int)(w:World)(HH:ZN w gh gm gp b lv)(HM:MemB w gm gc M)(t:TypeId)(cs:Array Value)(A:Blk w ga t cs)(A0:cs[0]?=some (.pointer (some ⟨gh,0,none⟩)))(hb:b<=1048576)(i:Nat)(h1:1<=i)(hi:i<=2097152)(x:Int)(hx:M[b+(i-1)]?=some x)(had slot:Int)(hh:Zt had) :
  Calls Tryz.prog 325 #[.pointer (some ⟨ga,0,none⟩),.int .i64 (i:Int),.int .i64 had,.int .i64 slot] w (Yc gm gc (if x=had then M.set (b+(i-1)) (upP had slot) else M) (.bool (decide (x=had))) w):=by
 have CA:=fun(W:World) (h:MemB W gm gc M)=>Zcu gm gc M (b+(i-1)) x had (upP had slot) W h hx
 have UP:=Hd (fun(W:World)=>Zcz had slot W hh);have HD:=Hd (fun(W:World) (X:Ext w W)=>V9 gh gm gp b lv W (Blk.ext HH X) i h1 hi hb);have MM:=Hd HM;have a0:w.cell? ⟨ga,0,none⟩=some (.pointer (some ⟨gh,0,none⟩)):=(A.cell 0).trans A0;have h0:w.cell? ⟨gh,0,none⟩=some (.pointer (some ⟨gm,0,none⟩)):=(Blk.cell HH 0);have za:=A.lt;have zh:=Blk.lt HH;clear HH HM A A0 hx;generalize (if x=had then M.set (b+(i-1)) (upP had slot) else M)=M' at *;generalize decide (x=had)=ok at *;generalize upP had slot=up at *;generalize b+(i-1)=q at *;replace CA:=Hd CA;go_enter Tryz.func325,Tryz.ntmps325;go_upto_region 1 with(fail);refine wp_region_any (by kernel_rfl) ?_
 change wpAny _ _ _ _ _ _ _ (World.drew _)
 refine Za 0 (.move (.tmp 0)) 205 (some 12) rfl (by kernel_rfl) Hq (by intro _;go_simp;try rfl) ?_;simp only[lay];refine Za 1 (.nilCheck (.tmp 12)) 0 (some 13) rfl (by kernel_rfl) Hq (by intro _;go_simp;try rfl) ?_;simp only[lay];refine Za 2 (.fieldAddr 293 (.tmp 13) 0) 0 (some 14) rfl (by kernel_rfl) Hq (by intro _;go_simp;try rfl) ?_;simp only[lay];refine Za 7 (.move (.tmp 0)) 205 (some 19) rfl (by kernel_rfl) Hq (by intro _;go_simp;try rfl) ?_;simp only[lay];refine Za 8 (.nilCheck (.tmp 19)) 0 (some 20) rfl (by kernel_rfl) Hq (by intro _;go_simp;try rfl) ?_;simp only[lay];refine Za 9 (.fieldAddr 293 (.tmp 20) 0) 0 (some 21) rfl (by kernel_rfl) Hq (by intro _;go_simp;try rfl) ?_;simp only[lay];refine Za 11 (.move (.tmp 1)) 3 (some 23) rfl (by kernel_rfl) Hq (by intro _;go_simp;try rfl) ?_;simp only[lay];refine Za 13 (.move (.tmp 2)) 3 (some 25) rfl (by kernel_rfl) Hq (by intro _;go_simp;try rfl) ?_;simp only[lay];refine Za 14 (.move (.tmp 2)) 3 (some 26) rfl (by kernel_rfl) Hq (by intro _;go_simp;try rfl) ?_;simp only[lay];refine Za 15 (.move (.tmp 3)) 3 (some 27) rfl (by kernel_rfl) Hq (by intro _;go_simp;try rfl) ?_;simp only[lay];refine Zh (n:=6) [(3,some 15),(4,some 16),(5,some 17),(6,some 18),(10,some 22),(12,some 24),(16,some 28)] (Ext w) (VF (fun | 3=>some (.pointer (some ⟨gh,0,none⟩)) | 4=>some (.pointer (some ⟨gh,0,none⟩)) | 5=>some (.pointer (some ⟨gh,0,none⟩)) | 6=>some (.pointer (some ⟨gm,0,none⟩)) | 10=>some (.pointer (some ⟨gh,0,none⟩)) | 12=>some (.int .i64 (q:Int)) | 16=>some (.int .i64 up) | _=>none) (fun i v W=>True)) Ext #[true,true,true,true,true,true,true,true,true,true,true,true,true,true,true,true,true,false,false,false,false,false,false] (by decide +kernel) (VF.stab ?_) ?_ ?_ (by first | exact(Ext.rf _).drew | exact Ext.rf _)
 ·intro j v W W' _ _ _;trivial
 ·intro pS hpm uS wS hRW hD K hK
  simp only[List.mem_cons,List.not_mem_nil,or_false] at hpm;rcases hpm with rfl | rfl | rfl | rfl | rfl | rfl | rfl
  ·( have rX:=Zb hRW za a0;exact Ze (T:=188) (x:=Operand.tmp 14) (t:=188) (d:=some 15) rfl (.pointer (some ⟨ga,0,none⟩)) (by kernel_rfl) (.pointer (some ⟨gh,0,none⟩)) (by go_simp) (hK _ _ (VF.mk rfl) hRW (Ext.rf _)))
  ·(have e3:uS 3=.pointer (some ⟨gh,0,none⟩):=(hD 3 (Zg (by kernel_rfl))).k rfl;exact Zl (op:=Op.nilCheck (Operand.tmp 15)) (t:=0) (d:=some 16) rfl (.pointer (some ⟨gh,0,none⟩)) (by simp only[Zc,Act.put,List.setIfInBounds_toArray,List.set_cons_zero,List.set_cons_succ];unfold Zj;(try go_simp);(try simp only[e3]);(try go_simp);(try rfl);(try (exact IntWalk.i64_in _ (by omega)))) (hK _ _ (VF.mk rfl) hRW (Ext.rf _)))
  ·(have e4:uS 4=.pointer (some ⟨gh,0,none⟩):=(hD 4 (Zg (by kernel_rfl))).k rfl;exact Zl (op:=Op.fieldAddr 274 (Operand.tmp 16) 0) (t:=0) (d:=some 17) rfl (.pointer (some ⟨gh,0,none⟩)) (by simp only[Zc,Act.put,List.setIfInBounds_toArray,List.set_cons_zero,List.set_cons_succ];unfold Zj;(try go_simp);(try simp only[e4]);(try go_simp);(try rfl);(try (exact IntWalk.i64_in _ (by omega)))) (hK _ _ (VF.mk rfl) hRW (Ext.rf _)))
  ·(have e5:uS 5=.pointer (some ⟨gh,0,none⟩):=(hD 5 (Zg (by kernel_rfl))).k rfl;have rX:=Zb hRW zh h0;exact Ze (T:=111) (x:=Operand.tmp 17) (t:=111) (d:=some 18) rfl (.pointer (some ⟨gh,0,none⟩)) (Eq.trans (b:=uS 5) (by kernel_rfl) e5) (.pointer (some ⟨gm,0,none⟩)) (by go_simp) (hK _ _ (VF.mk rfl) hRW (Ext.rf _)))
  ·( have rX:=Zb hRW za a0;exact Ze (T:=188) (x:=Operand.tmp 21) (t:=188) (d:=some 22) rfl (.pointer (some ⟨ga,0,none⟩)) (by kernel_rfl) (.pointer (some ⟨gh,0,none⟩)) (by go_simp) (hK _ _ (VF.mk rfl) hRW (Ext.rf _)))
  ·(have e10:uS 10=.pointer (some ⟨gh,0,none⟩):=(hD 10 (Zg (by kernel_rfl))).k rfl;exact Zi (f:=157) (xs:=#[Operand.tmp 22,Operand.tmp 23]) (ts:=#[188,3]) (t:=3) (d:=some 24) rfl #[.pointer (some ⟨gh,0,none⟩),.int .i64 (i:Int)] (by go_simp) (Eq.trans (b:=#[uS 10,.int .i64 (i:Int)]) (by kernel_rfl) (by rw[e10])) _ (HD.out _ hRW) (by rintro e w9 ⟨rfl,xx⟩;exact⟨_,rfl,hK _ _ (VF.mk rfl) (hRW.tr xx) xx⟩))
  ·( exact Zi (f:=328) (xs:=#[Operand.tmp 26,Operand.tmp 27]) (ts:=#[3,3]) (t:=3) (d:=some 28) rfl #[.int .i64 had,.int .i64 slot] (by go_simp) (by kernel_rfl) _ (UP.out _) (by rintro e w9 ⟨rfl,xx⟩;exact⟨_,rfl,hK _ _ (VF.mk rfl) (hRW.tr xx) xx⟩))
 intro u w3 hR3 hV;have h3:=(hV (3,some 15) (by simp)).k rfl;have h4:=(hV (4,some 16) (by simp)).k rfl;have h5:=(hV (5,some 17) (by simp)).k rfl;have h6:=(hV (6,some 18) (by simp)).k rfl;have h10:=(hV (10,some 22) (by simp)).k rfl;have h12:=(hV (12,some 24) (by simp)).k rfl;have h16:=(hV (16,some 28) (by simp)).k rfl;simp only[Zc,h3,h4,h5,h6,h10,h12,h16];clear hV h3 h4 h5 h6 h10 h12 h16
 try simp only[lay]
 refine Zd 17 (by decide +kernel) (Zi (f:=296) (xs:=#[Operand.tmp 18,Operand.tmp 24,Operand.tmp 25,Operand.tmp 28]) (ts:=#[111,3,3,3]) (t:=380) (d:=some 29) rfl #[.pointer (some ⟨gm,0,none⟩),.int .i64 (q:Int),.int .i64 had,.int .i64 up] (by go_simp) (by kernel_rfl) _ (CA.out _ (MM.out.ext hR3)) ?_);rintro e w4 ⟨rfl,m4,d4⟩;have M4:=Hd m4;have D4:=Hd ((Mod.of_ext hR3:Mod (CS gm gc) w w3).tr d4);clear m4 d4 hR3 CA HD UP;refine⟨_,rfl,?_⟩
 try simp only[lay]
 refine Za 18 (.move (.tmp 29)) 380 (some 11) rfl (by kernel_rfl) Hq (by intro _;go_simp;try rfl) ?_;simp only[lay];refine Za 19 (.extract (.tmp 11) 0) 4 (some 30) rfl (by kernel_rfl) Hq (by intro _;go_simp;try rfl) ?_;simp only[lay];refine Za 20 (.extract (.tmp 11) 1) 27 (some 31) rfl (by kernel_rfl) Hq (by intro _;go_simp;try rfl) ?_;simp only[lay];refine Za 21 (.assign (.tmp 30)) 4 (some 9) rfl (by kernel_rfl) Hq (by intro _;go_simp;try rfl) ?_;simp only[lay];refine Za 22 (.assign (.tmp 31)) 27 (some 10) rfl (by kernel_rfl) Hq (by intro _;go_simp;try rfl) ?_;simp only[lay];refine wpAny_done (by kernel_rfl) ?_ _;go_simp;go_wp2_with (fail);go_ret;exact⟨rfl,M4.out,D4.out⟩
structure HAct where
 ph:Int
 slot:Int
 push:Bool
 owner:Bool
 fits:Bool
 draws:OwL
 probe:Int
 way:OwL
 heads:OwL
 low:Int
 high:Int
 pos:Int
 hd:Int
 nx:Int
 lh:Int
 rh:Int
 ch:Int
 chh:Int
 tidied:Bool
 held:Bool
 bare:Bool
def HAct.cells (a:HAct)(gh:Nat) : Array Value:=#[.pointer (some ⟨gh,0,none⟩),.int .i64 a.ph,.int .i64 a.slot,.bool a.push,.bool a.owner,.bool a.fits,a.draws.v,.int .i64 a.probe,a.way.v,a.heads.v,.int .i64 a.low,.int .i64 a.high,.int .i64 a.pos,.int .i64 a.hd,.int .i64 a.nx,.int .i64 a.lh,.int .i64 a.rh,.int .i64 a.ch,.int .i64 a.chh,.bool a.tidied,.bool a.held,.bool a.bare]
def ZF (w:World)(ga gh:Nat)(a:HAct) : Prop:=Blk w ga 293 (a.cells gh)
theorem ZaC (bs gm gc gp gn go gh b lv ga:Nat)(P:PoolS)(bd:Nat->Int)(w:World)(HH:ZN w gh gm gp b lv)(HP:PoolR w bs gm gc gp gn go P)(hbd:PB P bd)(hn:P.n<=100000)(a:HAct)(A:ZF w ga gh a)(s:Nat)(hs:a.slot=(s:Int))(hsn:s<P.n) :
  Calls Tryz.prog 321 #[.pointer (some ⟨ga,0,none⟩)] w fun e w'=>e=.returned (.int .i64 (bd s))/\Ext w w':=by
 have BO:=Hd (fun(W:World) (X:Ext w W)=>Ws bs gm gc gp gn go P W (HP.ext X) s hsn hn (bd s) (hbd s hsn));have a0:w.cell? ⟨ga,0,none⟩=some (.pointer (some ⟨gh,0,none⟩)):=(Blk.cell A 0);have a2:w.cell? ⟨ga,2,none⟩=some (.int .i64 (s:Int)):=(Blk.cell A 2).trans (by simp[HAct.cells,hs]);have h3:w.cell? ⟨gh,3,none⟩=some (.pointer (some ⟨gp,0,none⟩)):=(Blk.cell HH 3);have za:=Blk.lt A;have zh:=Blk.lt HH;clear HH HP hbd A hs hsn;generalize bd s=k at *;go_enter Tryz.func321,Tryz.ntmps321;go_upto_region 1 with(fail);refine wp_region_any (by kernel_rfl) ?_
 change wpAny _ _ _ _ _ _ _ (World.drew _)
 refine Za 0 (.move (.tmp 0)) 205 (some 3) rfl (by kernel_rfl) Hq (by intro _;go_simp;try rfl) ?_;simp only[lay];refine Za 1 (.nilCheck (.tmp 3)) 0 (some 4) rfl (by kernel_rfl) Hq (by intro _;go_simp;try rfl) ?_;simp only[lay];refine Za 2 (.fieldAddr 293 (.tmp 4) 0) 0 (some 5) rfl (by kernel_rfl) Hq (by intro _;go_simp;try rfl) ?_;simp only[lay];refine Za 7 (.move (.tmp 0)) 205 (some 10) rfl (by kernel_rfl) Hq (by intro _;go_simp;try rfl) ?_;simp only[lay];refine Za 8 (.nilCheck (.tmp 10)) 0 (some 11) rfl (by kernel_rfl) Hq (by intro _;go_simp;try rfl) ?_;simp only[lay];refine Za 9 (.fieldAddr 293 (.tmp 11) 2) 0 (some 12) rfl (by kernel_rfl) Hq (by intro _;go_simp;try rfl) ?_;simp only[lay];refine Zh (n:=1) [(3,some 6),(4,some 7),(5,some 8),(6,some 9),(10,some 13),(11,some 14)] (Ext w) (VF (fun | 3=>some (.pointer (some ⟨gh,0,none⟩)) | 4=>some (.pointer (some ⟨gh,0,none⟩)) | 5=>some (.pointer (some ⟨gh,3,none⟩)) | 6=>some (.pointer (some ⟨gp,0,none⟩)) | 10=>some (.int .i64 (s:Int)) | 11=>some (.int .i64 k) | _=>none) (fun i v W=>True)) Ext #[true,true,true,true,true,true,true,true,true,true,true,true,false] (by decide +kernel) (VF.stab ?_) ?_ ?_ (by first | exact(Ext.rf _).drew | exact Ext.rf _)
 ·intro j v W W' _ _ _;trivial
 ·intro pS hpm uS wS hRW hD K hK
  simp only[List.mem_cons,List.not_mem_nil,or_false] at hpm;rcases hpm with rfl | rfl | rfl | rfl | rfl | rfl
  ·( have rX:=Zb hRW za a0;exact Ze (T:=188) (x:=Operand.tmp 5) (t:=188) (d:=some 6) rfl (.pointer (some ⟨ga,0,none⟩)) (by kernel_rfl) (.pointer (some ⟨gh,0,none⟩)) (by go_simp) (hK _ _ (VF.mk rfl) hRW (Ext.rf _)))
  ·(have e3:uS 3=.pointer (some ⟨gh,0,none⟩):=(hD 3 (Zg (by kernel_rfl))).k rfl;exact Zl (op:=Op.nilCheck (Operand.tmp 6)) (t:=0) (d:=some 7) rfl (.pointer (some ⟨gh,0,none⟩)) (by simp only[Zc,Act.put,List.setIfInBounds_toArray,List.set_cons_zero,List.set_cons_succ];unfold Zj;(try go_simp);(try simp only[e3]);(try go_simp);(try rfl);(try (exact IntWalk.i64_in _ (by omega)))) (hK _ _ (VF.mk rfl) hRW (Ext.rf _)))
  ·(have e4:uS 4=.pointer (some ⟨gh,0,none⟩):=(hD 4 (Zg (by kernel_rfl))).k rfl;exact Zl (op:=Op.fieldAddr 274 (Operand.tmp 7) 3) (t:=0) (d:=some 8) rfl (.pointer (some ⟨gh,3,none⟩)) (by simp only[Zc,Act.put,List.setIfInBounds_toArray,List.set_cons_zero,List.set_cons_succ];unfold Zj;(try go_simp);(try simp only[e4]);(try go_simp);(try rfl);(try (exact IntWalk.i64_in _ (by omega)))) (hK _ _ (VF.mk rfl) hRW (Ext.rf _)))
  ·(have e5:uS 5=.pointer (some ⟨gh,3,none⟩):=(hD 5 (Zg (by kernel_rfl))).k rfl;have rX:=Zb hRW zh h3;exact Ze (T:=112) (x:=Operand.tmp 8) (t:=112) (d:=some 9) rfl (.pointer (some ⟨gh,3,none⟩)) (Eq.trans (b:=uS 5) (by kernel_rfl) e5) (.pointer (some ⟨gp,0,none⟩)) (by go_simp) (hK _ _ (VF.mk rfl) hRW (Ext.rf _)))
  ·( have rX:=Zb hRW za a2;exact Ze (T:=3) (x:=Operand.tmp 12) (t:=3) (d:=some 13) rfl (.pointer (some ⟨ga,2,none⟩)) (by kernel_rfl) (.int .i64 (s:Int)) (by go_simp) (hK _ _ (VF.mk rfl) hRW (Ext.rf _)))
  ·(have e6:uS 6=.pointer (some ⟨gp,0,none⟩):=(hD 6 (Zg (by kernel_rfl))).k rfl;have e10:uS 10=.int .i64 (s:Int):=(hD 10 (Zg (by kernel_rfl))).k rfl;exact Zi (f:=336) (xs:=#[Operand.tmp 9,Operand.tmp 13]) (ts:=#[112,3]) (t:=3) (d:=some 14) rfl #[.pointer (some ⟨gp,0,none⟩),.int .i64 (s:Int)] (by go_simp) (Eq.trans (b:=#[uS 6,uS 10]) (by kernel_rfl) (by rw[e6,e10])) _ (BO.out _ hRW) (by rintro e w9 ⟨rfl,xx⟩;exact⟨_,rfl,hK _ _ (VF.mk rfl) (hRW.tr xx) xx⟩))
 intro u w3 hR3 hV;have h3:=(hV (3,some 6) (by simp)).k rfl;have h4:=(hV (4,some 7) (by simp)).k rfl;have h5:=(hV (5,some 8) (by simp)).k rfl;have h6:=(hV (6,some 9) (by simp)).k rfl;have h10:=(hV (10,some 13) (by simp)).k rfl;have h11:=(hV (11,some 14) (by simp)).k rfl;simp only[Zc,h3,h4,h5,h6,h10,h11];clear hV h3 h4 h5 h6 h10 h11
 try simp only[lay]
 refine Za 12 (.assign (.tmp 14)) 3 (some 2) rfl (by kernel_rfl) Hq (by intro _;go_simp;try rfl) ?_;simp only[lay];refine wpAny_done (by kernel_rfl) ?_ _;go_simp;go_wp2_with (fail);go_ret;exact⟨rfl,hR3⟩
structure HW (w:World)(bs gm gc gp gn go gh b lv ga:Nat)(M:List Int)(P:PoolS)(a:HAct) : Prop where
 m:MemB w gm gc M
 p:PoolR w bs gm gc gp gn go P
 h:ZN w gh gm gp b lv
 a:ZF w ga gh a
section
variable {w w':World} {bs gm gc gp gn go gh b lv ga:Nat} {M:List Int} {P:PoolS} {a:HAct}
theorem HW.ext (h:HW w bs gm gc gp gn go gh b lv ga M P a)(x:Ext w w') : HW w' bs gm gc gp gn go gh b lv ga M P a:=⟨h.m.ext x,h.p.ext x,Blk.ext h.h x,Blk.ext h.a x⟩
theorem HW.cell (h:HW w bs gm gc gp gn go gh b lv ga M P a){M':List Int}(hm:MemB w' gm gc M')(hd:Mod (CS gm gc) w w') : HW w' bs gm gc gp gn go gh b lv ga M' P a:=by
 obtain⟨⟨st,k,c,o,n,d,m1⟩,m2⟩:=h.m;have q:∀ {b:Nat} {t:TypeId} {cs:Array Value},Blk w b t cs->t≠268->t≠3->¬CS gm gc b:=fun hb h1 h2 h=>by
  rcases h with rfl | rfl
  ·exact hb.ne m1 h1 rfl
  ·exact hb.ne m2 h2 rfl
 refine⟨hm,h.p.mod hd (q h.p.p (by decide) (by decide)) (q h.p.nd (by decide) (by decide)) (q h.p.ow (by decide) (by decide)) (fun k o ho b hb hS=>?_),Blk.mod h.h hd (q h.h (by decide) (by decide)),Blk.mod h.a hd (q h.a (by decide) (by decide))⟩;rcases hS with rfl | rfl
 ·exact(h.p.oi k o ho).1.ne m1 (by decide) b hb rfl
 ·exact(h.p.oi k o ho).2 hb
theorem HW.field (h:HW w bs gm gc gp gn go gh b lv ga M P a)(i:Nat)(v:Value){a':HAct}(ha:(a.cells gh).setIfInBounds i v=a'.cells gh) : HW (w.setCell ⟨ga,i,none⟩ v) bs gm gc gp gn go gh b lv ga M P a'/\Mod (fun b=>b=ga) w (w.setCell ⟨ga,i,none⟩ v):=by
 have M1:Mod (fun b=>b=ga) w (w.setCell ⟨ga,i,none⟩ v):=Mod.set (S:=fun b=>b=ga) (p:=⟨ga,i,none⟩) (Mod.rf w) (.inl rfl) _;obtain⟨⟨st,k,c,o,n,d,m1⟩,m2⟩:=h.m;refine⟨⟨h.m.mod M1 (m1.ne h.a (by decide)) (m2.ne h.a (by decide)),h.p.mod M1 (h.p.p.ne h.a (by decide)) (h.p.nd.ne h.a (by decide)) (h.p.ow.ne h.a (by decide)) (fun k q hq b hb e=>(h.p.oi k q hq).1.ne h.a (by decide) b hb e),Blk.mod h.h M1 (Blk.ne h.h h.a (by decide)),?_⟩,M1⟩;have:=Blk.set h.a i v;rw[ha] at this;exact this
end
end
section
theorem QG (bs gm gc gp gn go:Nat)(P:PoolS)(w:World)(H:PoolR w bs gm gc gp gn go P) :
  Calls Tryz.prog 155 #[.pointer (some ⟨gp,0,none⟩)] w fun e w'=>e=.returned (.int .i64 (P.n:Int))/\Ext w w':=by
 have p2:w.cell? ⟨gp,2,none⟩=some (.slice (some ⟨gn,0,none⟩) P.n P.n):=(H.p.cell 2);clear H;go_enter Tryz.func155,Tryz.ntmps155;go_wp2_with (go_quiet (fail));go_ret;exact⟨rfl,XI⟩
def Xl (ph slot:Int)(push:Bool)(ds:OwL)(p:Int) : HAct:=⟨ph,slot,push,true,false,ds,0,⟨none,0,[]⟩,⟨none,0,[]⟩,0,0,p,0,0,0,0,0,0,false,false,false⟩
def Ub (ds:List Int) : List Int:=if ds.take 4=[] then [0] else ds.take 4
theorem ZeA (gm gp gh b lv:Nat)(w:World)(H:ZN w gh gm gp b lv) :
  Calls Tryz.prog 229 #[.pointer (some ⟨gh,0,none⟩)] w fun e w'=>e=.returned (.pointer (some ⟨w.heap.size,0,none⟩))/\ZF w' w.heap.size gh (Xl 4 (-1) false ⟨none,0,[]⟩ 1)/\Ext w w':=by
 clear H;go_enter Tryz.func229,Tryz.ntmps229;go_wp2_with (go_quiet (fail));go_ret;exact⟨rfl,by unfold ZF HAct.cells Xl;exact Blk.new rfl,XI⟩
theorem Uc (ga gh:Nat)(a:HAct)(w:World)(A:ZF w ga gh a)(h:a.ph=15)(hp:a.push=false) :
  Calls Tryz.prog 231 #[.pointer (some ⟨ga,0,none⟩)] w fun e w'=>e=.returned (.int .i64 a.slot)/\Ext w w':=by
 have a1:w.cell? ⟨ga,1,none⟩=some (.int .i64 15):=(Blk.cell A 1).trans (by simp[HAct.cells,h]);have a3:w.cell? ⟨ga,3,none⟩=some (.bool false):=(Blk.cell A 3).trans (by simp[HAct.cells,hp]);have a2:w.cell? ⟨ga,2,none⟩=some (.int .i64 a.slot):=(Blk.cell A 2);clear A h hp;go_enter Tryz.func231,Tryz.ntmps231;go_wp2_with (go_quiet (fail));go_ret;exact⟨rfl,XI⟩
theorem Zdf (ga gh:Nat)(a:HAct)(w:World)(A:ZF w ga gh a) :
  Calls Tryz.prog 100 #[.pointer (some ⟨ga,0,none⟩)] w fun e w'=>e=.returned (.bool a.fits)/\Ext w w':=by
 have a5:w.cell? ⟨ga,5,none⟩=some (.bool a.fits):=(Blk.cell A 5);clear A;generalize a.fits=q at *;go_enter Tryz.func100,Tryz.ntmps100;go_wp2_with (go_quiet (fail));go_ret;exact⟨rfl,XI⟩
def ZeB (gh:Nat)(s:Nat)(ds:List Int)(w:World)(e:Ending)(w':World) : Prop:=∃ (ga:Nat) (A:Option Addr) (c:Nat),e=.returned (.pointer (some ⟨ga,0,none⟩))/\ZF w' ga gh (Xl 0 (s:Int) true ⟨A,c,Ub ds⟩ 0)/\OwI w' w.heap.size A c (Ub ds)/\w.heap.size<=ga/\Ext w w'
theorem Zdg (bs gm gc gp gn go gh b lv:Nat)(P:PoolS)(w:World)(HH:ZN w gh gm gp b lv)(HP:PoolR w bs gm gc gp gn go P)(s:Nat)(hs:s<P.n)(hn:P.n<=100000)(ds:List Int)(D:Option Addr)(d:Nat)(hd:RdI w D ds)(id:Ints ds)(ld:ds.length<=d)(ld':d<=maxLen) :
  Calls Tryz.prog 99 #[.pointer (some ⟨gh,0,none⟩),.int .i64 (s:Int),.slice D ds.length d] w (ZeB gh s ds w):=by
 have SL:=Hd (fun(W:World) (X:Ext w W)=>QG bs gm gc gp gn go P W (HP.ext X));have h3:w.cell? ⟨gh,3,none⟩=some (.pointer (some ⟨gp,0,none⟩)):=(Blk.cell HH 3);have zh:=Blk.lt HH;have e1:¬(s:Int)<0:=by omega
 have e2:¬(s:Int)>=(P.n:Int):=by omega
 obtain⟨ps,hp,ip,lp,lp',kp,ep⟩:=Zfi 4 hd id;simp only[Int.cast_ofNat_Int] at ep;have ep2:min (ds.length:Int) 4=(ps.length:Int):=(by rw[<-ep];split<;>omega);have hD:Ub ds=if ps=[] then [0] else ps:=by unfold Ub;rw[<-kp.out]
 replace hD:=Hd hD;have CL:=Hd (fun(W:World) (X:Ext w W)=>ZO D d ps W (hp.ext X) (by omega));unfold maxLen at ld';clear HH HP hd id kp hs;go_enter Tryz.func99,Tryz.ntmps99;go_wp2_with (go_quiet (fail));refine(SL.out _ XI).mono ?_;rintro e w1 ⟨rfl,x1⟩;have X1:=Hd (Ext.tr (a:=w) XI x1);clear x1 SL h3;go_wp2_with (go_quiet (fail));refine(CL.out _ (X1.out.tr XI)).mono ?_;rintro e w2 ⟨A,c,rfl,o2,x2⟩;have X2:=Hd (X1.out.tr (Ext.tr (a:=w1) XI x2));have O2:=Hd (OwI.more (base':=w.heap.size) o2 (by first | exact X1.out.size | (have:=X1.out.size;simp at *;omega)));clear x2 o2 CL;have BA:Hid (ZF (w2.alloc (.cells #[.pointer (some ⟨gh,0,none⟩),.int .i64 0,.int .i64 (s:Int),.bool true,.bool true,.bool false,.slice A ps.length c,.int .i64 0,.slice none 0 0,.slice none 0 0,.int .i64 0,.int .i64 0,.int .i64 0,.int .i64 0,.int .i64 0,.int .i64 0,.int .i64 0,.int .i64 0,.int .i64 0,.bool false,.bool false,.bool false] 293)) w2.heap.size gh (Xl 0 (s:Int) true ⟨A,c,ps⟩ 0)):=Hd (by unfold ZF HAct.cells Xl;exact Blk.new rfl);have XA:Hid (Ext w2 (w2.alloc (.cells #[.pointer (some ⟨gh,0,none⟩),.int .i64 0,.int .i64 (s:Int),.bool true,.bool true,.bool false,.slice A ps.length c,.int .i64 0,.slice none 0 0,.slice none 0 0,.int .i64 0,.int .i64 0,.int .i64 0,.int .i64 0,.int .i64 0,.int .i64 0,.int .i64 0,.int .i64 0,.int .i64 0,.bool false,.bool false,.bool false] 293))):=Hd ((Ext.rf _).alloc _);have hz:=X2.out.size;go_upto_region 4 with(go_quiet (fail));generalize (w2.alloc (.cells #[.pointer (some ⟨gh,0,none⟩),.int .i64 0,.int .i64 (s:Int),.bool true,.bool true,.bool false,.slice A ps.length c,.int .i64 0,.slice none 0 0,.slice none 0 0,.int .i64 0,.int .i64 0,.int .i64 0,.int .i64 0,.int .i64 0,.int .i64 0,.int .i64 0,.int .i64 0,.int .i64 0,.bool false,.bool false,.bool false] 293))=w3 at *;have X3:=Hd (X2.out.tr XA.out);have O3:=Hd (O2.out.ext XA.out);generalize w2.heap.size=ga at *;clear XA X2 O2 X1;have zx:w.heap.size<=w3.heap.size:=X3.out.size
 by_cases h0:ps=[]
 ·subst h0
  have k6:w3.cell? ⟨ga,6,none⟩=some (.slice A 0 c):=(Blk.cell BA.out 6);have g1:Blk (w3.alloc (.cells #[.int .i64 0] 3)) w3.heap.size 3 #[.int .i64 0]:=.new rfl;have b2:ZF (w3.alloc (.cells #[.int .i64 0] 3)) ga gh (Xl 0 (s:Int) true ⟨A,c,[]⟩ 0):=Blk.ext BA.out ((Ext.rf _).alloc _);have k7:(w3.alloc (.cells #[.int .i64 0] 3)).cell? ⟨ga,6,none⟩=some (.slice A 0 c):=(Blk.cell b2 6);have f7:(w3.alloc (.cells #[.int .i64 0] 3)).frozen? ⟨ga,6,none⟩=false:=Blk.free b2 6;have b3:=Blk.set b2 6 (.slice (some ⟨w3.heap.size,0,none⟩) 1 1);have hgg:ga≠w3.heap.size:=by have:=Blk.lt BA.out;omega
  have o3:OwI ((w3.alloc (.cells #[.int .i64 0] 3)).setCell ⟨ga,6,none⟩ (.slice (some ⟨w3.heap.size,0,none⟩) 1 1)) w.heap.size (some ⟨w3.heap.size,0,none⟩) 1 [0]:=OwI.far (OwI.new (xs:=[0]) (by simp) zx (by simp[maxLen])) b2 (by decide) _ _;have hD':Ub ds=[0]:=by rw[hD.out];rfl
  have xs3:Ext w ((w3.alloc (.cells #[.int .i64 0] 3)).setCell ⟨ga,6,none⟩ (.slice (some ⟨w3.heap.size,0,none⟩) 1 1)):=(X3.out.alloc _).mod (Mod.set (S:=fun k=>k=ga) (p:=⟨ga,6,none⟩) (Mod.rf _) (.inl rfl) _) (fun k hk e=>by subst e;omega);replace b3:=Hd b3;replace o3:=Hd o3;replace xs3:=Hd xs3;replace hD':=Hd hD';clear g1 b2;go_wp2_with (go_quiet (fail));go_ret;exact⟨ga,_,1,rfl,by rw[hD'.out];exact b3.out,by rw[hD'.out];exact o3.out,hz,xs3.out⟩
 ·have k6:w3.cell? ⟨ga,6,none⟩=some (.slice A ps.length c):=Blk.cell BA.out 6
  have hl:0<ps.length:=by cases ps with | nil=>exact absurd rfl h0 | cons x l=>simp
  have e5:¬((ps.length:Int)=0):=by omega
  have hD':Ub ds=ps:=by rw[hD.out,if_neg h0]
  replace hD':=Hd hD';go_wp2_with (go_quiet (fail));go_ret;exact⟨ga,A,c,rfl,by rw[hD'.out];exact BA.out,by rw[hD'.out];exact O3.out,hz,X3.out.tr XI⟩
def HZ (M M':List Int)(b k:Nat) : Prop:=(∀ i,1<=i->i<=k->M'[b+(i-1)]?=some 0)/\∀ j,j<b->M'[j]?=M[j]?
def Zgx (bs gm gc gp gn go b lv:Nat)(P:PoolS)(M:List Int)(w:World)(e:Ending)(w':World) : Prop:=∃ (gh:Nat) (M':List Int),e=.returned (.tuple #[.pointer (some ⟨gh,0,none⟩),.int .i64 0])/\ZN w' gh gm gp b lv/\PoolR w' bs gm gc gp gn go P/\MemB w' gm gc M'/\M'.length=M.length/\HZ M M' b (2^lv-1)/\w.heap.size<=gh/\Mod (CS gm gc) w w'
theorem QH (lv n:Nat)(w:World)(hl:1<=lv/\lv<=6)(h1:1<=n)(h2:n<=4096) :
  Calls Tryz.prog 87 #[.int .i64 (lv:Int),.int .i64 (n:Int)] w fun e w'=>e=.returned (.int .i64 (((2^lv-1:Nat):Int)+(n:Int)))/\Ext w w':=by
 have hp:2^lv<=2^6:=Nat.pow_le_pow_right (by omega) hl.2;have hp1:1<=2^lv:=Nat.one_le_two_pow;have hp2:(2:Int)^lv=((2^lv:Nat):Int):=by simp
 have w1:IntKind.i64.wrap ((2:Int)^lv)=((2^lv:Nat):Int):=by rw[hp2];exact IntWalk.i64_in _ (by omega)
 have w2:IntKind.i64.wrap (((2^lv:Nat):Int)-1)=((2^lv-1:Nat):Int):=by rw[show ((2^lv:Nat):Int)-1=((2^lv-1:Nat):Int) by omega];exact IntWalk.i64_in _ (by omega)
 have w3:IntKind.i64.wrap (((2^lv-1:Nat):Int)+(n:Int))=((2^lv-1:Nat):Int)+(n:Int):=IntWalk.i64_in _ (by omega);have e1:¬(lv:Int)<1:=by omega
 have e2:¬(lv:Int)>6:=by omega
 have e3:¬(6<(lv:Int)):=by omega
 have e4:¬(n:Int)<1:=by omega
 have e5:¬(n:Int)>4096:=by omega
 have e6:¬(4096<(n:Int)):=by omega
 clear hp2;generalize hq:((2^lv-1:Nat):Int)=q at *;replace hq:=Hd hq;generalize hr:((2^lv:Nat):Int)=r at *;replace hr:=Hd hr;go_enter Tryz.func87,Tryz.ntmps87;go_wp2_with (go_quiet (fail));go_ret;exact⟨rfl,XI⟩
theorem Jr (bs gm gc gp gn go b lv:Nat)(M:List Int)(P:PoolS)(w:World)(H:MemB w gm gc M)(HP:PoolR w bs gm gc gp gn go P)(h1:1<=P.n)(h2:P.n<=4096)(hlv:1<=lv/\lv<=6)(hM:b+((2^lv-1)+P.n)<=M.length)(hM2:M.length<=1048576) :
  Calls Tryz.prog 90 #[.pointer (some ⟨gm,0,none⟩),.int .i64 (b:Int),.int .i64 (lv:Int),.pointer (some ⟨gp,0,none⟩)] w (Zgx bs gm gc gp gn go b lv P M w):=by
 have SL:=Hd (fun(W:World) (X:Ext w W)=>QG bs gm gc gp gn go P W (HP.ext X));obtain⟨n,hn⟩:∃ n,P.n=n:=⟨_,rfl⟩;rw[hn] at SL h1 h2 hM;replace hn:=Hd hn;have hp6:2^lv<=2^6:=Nat.pow_le_pow_right (by omega) hlv.2;have hp1:1<=2^lv:=Nat.one_le_two_pow;have CE:=fun(W:World)=>QH lv n W hlv h1 h2
 have PLA:=fun(W:World) (h:ZN W w.heap.size gm gp b lv)=>h
 obtain⟨pl,hpl⟩:∃ pl,pl=2^lv-1:=⟨_,rfl⟩;rw[<-hpl] at hM;simp only[<-hpl] at CE;replace CE:=Hd CE;clear PLA;have hpl63:pl<=63:=by omega
 have hpl1:0<=pl:=by omega
 replace hpl:=Hd hpl;clear hp6 hp1;have SZ:=Hd (fun(W:World) (X:Ext w W)=>Wn gm gc M W (H.ext X));have HM:=Hd H;have HP:=Hd HP;have e1:((pl:Int)+(n:Int)==0)=false:=by simp;omega
 have e2:¬((b:Int)<0):=by omega
 have wr1:IntKind.i64.wrap ((M.length:Int)-((pl:Int)+(n:Int)))=(M.length:Int)-((pl:Int)+(n:Int)):=IntWalk.i64_in _ (by omega);have e3:¬((b:Int)>(M.length:Int)-((pl:Int)+(n:Int))):=by omega
 have e4:¬((M.length:Int)-((pl:Int)+(n:Int))<(b:Int)):=by omega
 clear H;go_enter Tryz.func90,Tryz.ntmps90;go_wp2_with (fail);refine(SL.out _ XI).mono ?_;rintro e w1 ⟨rfl,x1⟩;have X1:=Hd (Ext.tr (a:=w) XI x1);clear x1 SL;go_wp2_with (fail);refine(CE.out _).mono ?_;rintro e w2 ⟨rfl,x2⟩;have X2:=Hd (X1.out.tr (Ext.tr (a:=w1) XI x2));clear x2 CE X1;go_wp2_with (go_quiet (fail));refine(SZ.out _ (X2.out.tr XI)).mono ?_;rintro e w3 ⟨rfl,rfl⟩;clear SZ;have B2:Hid (ZN (w2.alloc (.cells #[.pointer (some ⟨gm,0,none⟩),.int .i64 (b:Int),.int .i64 (lv:Int),.pointer (some ⟨gp,0,none⟩)] 274)) w2.heap.size gm gp b lv):=Hd (by unfold ZN;exact Blk.new rfl);have M2:=Hd ((HM.out.ext X2.out).ext ((Ext.rf w2).alloc (.cells #[.pointer (some ⟨gm,0,none⟩),.int .i64 (b:Int),.int .i64 (lv:Int),.pointer (some ⟨gp,0,none⟩)] 274)));have P2:=Hd ((HP.out.ext X2.out).ext ((Ext.rf w2).alloc (.cells #[.pointer (some ⟨gm,0,none⟩),.int .i64 (b:Int),.int .i64 (lv:Int),.pointer (some ⟨gp,0,none⟩)] 274)));have D2:Hid (Mod (CS gm gc) w (w2.alloc (.cells #[.pointer (some ⟨gm,0,none⟩),.int .i64 (b:Int),.int .i64 (lv:Int),.pointer (some ⟨gp,0,none⟩)] 274))):=Hd (Mod.of_ext (X2.out.tr ((Ext.rf w2).alloc _)));have Z2:w.heap.size<=w2.heap.size:=X2.out.size;clear HM HP X2;go_upto_region 5 with(go_quiet (fail));generalize w2.alloc (.cells #[.pointer (some ⟨gm,0,none⟩),.int .i64 (b:Int),.int .i64 (lv:Int),.pointer (some ⟨gp,0,none⟩)] 274)=w3 at *;generalize w2.heap.size=gh at *;clear e1 e2 e3 e4 wr1;have PK:Hid (∀ W:World,Calls Tryz.prog 153 #[.int .i64 0,.int .i64 (-1)] W fun e w'=>e=.returned (.int .i64 0)/\W=w'):=Hd (fun W=>by
  have q:=QA 0 (-1) W (by omega);have e:pk (0%1073741824) (plc (-1))=0:=by decide
  rwa [e] at q)
 have q0:Hid (HZ M M b 0):=Hd ⟨fun i _ _=>by omega,fun j _=>rfl⟩;go_wp2_with (fail);go_loopw [12] (fun v wr=>∃ (k:Nat) (M':List Int),v=.int .i64 k/\1<=k/\k<=pl+1/\M'.length=M.length/\Hid (HZ M M' b (k-1))/\Hid (ZN wr gh gm gp b lv)/\Hid (PoolR wr bs gm gc gp gn go P)/\Hid (MemB wr gm gc M')/\Hid (Mod (CS gm gc) w wr)) (fun v _=>pl+1-(intOf v).toNat)
 case atStart=>exact⟨1,M,rfl,by omega,by omega,rfl,q0,B2,P2,M2,D2⟩
 case round =>
  clear B2 M2 P2 D2 q0;obtain⟨k,M',rfl,hk1,hk,hl,hN,HB,HP,HM,HD⟩:=hrel;have PL:=fun(W:World) (X:Ext wr W)=>YO gh gm gp b lv W (Blk.ext HB.out X) (by have:=hlv.2;omega)
  simp only[<-hpl.out] at PL;replace PL:=Hd PL
  by_cases hkn:k<=pl
  ·have g1:(k:Int)<=(pl:Int):=by omega
   have HE:=Hd (fun(W:World) (X:Ext wr W)=>V9 gh gm gp b lv W (Blk.ext HB.out X) k hk1 (by omega) (by omega));have ST:=Hd (fun(W:World) (h:MemB W gm gc M')=>Wm gm gc M' (b+(k-1)) 0 W h (by omega));have q1:HZ M (M'.set (b+(k-1)) 0) b (k+1-1):=⟨fun i h3 h4=>by
    by_cases e:i=k
    ·subst e;exact List.getElem?_set_self (by omega)
    ·rw[List.getElem?_set_ne (by omega)];exact hN.out.1 i h3 (by omega),fun j hj=>by rw[List.getElem?_set_ne (by omega)];exact hN.out.2 j hj⟩
   replace q1:=Hd q1;have l1:(M'.set (b+(k-1)) 0).length=M.length:=by simpa using hl
   generalize M'.set (b+(k-1)) 0=M3 at *;generalize ((b+(k-1):Nat):Int)=ad at *;go_wp2_with (fail);refine(PL.out _ XI).mono ?_;rintro e w4 ⟨rfl,x4⟩;have X4:=Hd (Ext.tr (a:=wr) XI x4);clear x4 PL;go_wp2_with (fail);refine(HE.out _ (X4.out.tr XI)).mono ?_;rintro e w5 ⟨rfl,x5⟩;have X5:=Hd (X4.out.tr (Ext.tr (a:=w4) XI x5));clear x5 HE X4;go_wp2_with (fail);refine(PK.out _).mono ?_;rintro e w6 ⟨rfl,rfl⟩;go_wp2_with (fail);refine(ST.out _ (HM.out.ext X5.out)).mono ?_;rintro e w8 ⟨rfl,m8,d8⟩;have P8:=Hd ((HP.out.ext X5.out).cell (HM.out.ext X5.out) d8);have B8:Hid (ZN w8 gh gm gp b lv):=by
    obtain⟨⟨st,k,c,o,n,d,m1⟩,m2⟩:=HM.out.ext X5.out;have h5:=Blk.ext HB.out X5.out;exact Hd (Blk.mod h5 d8 (fun h=>by rcases h with rfl | rfl;exact Blk.ne h5 m1 (by decide) rfl;exact Blk.ne h5 m2 (by decide) rfl))
   have M8:=Hd m8;have D8:=Hd ((HD.out.tr (Mod.of_ext X5.out)).tr d8);clear m8 d8 ST HP HM HD HB X5;go_wp2_with (fail);go_roundw
   case rel=>exact⟨k+1,M3,by go_num,by omega,by omega,l1,q1,B8,P8,M8,D8⟩
   case measure=>simp[intOf];omega
  ·obtain rfl:k=pl+1:=by omega
   have g1:¬(((pl+1:Nat):Int)<=(pl:Int)):=by omega
   have g2:(pl:Int)<((pl+1:Nat):Int):=by omega
   go_wp2_with (fail);refine(PL.out _ XI).mono ?_;rintro e w4 ⟨rfl,x4⟩;have X4:=Hd (Ext.tr (a:=wr) XI x4);clear x4 PL;go_wp2_with (fail);exact bodyPost_ret (v:=.tuple #[.pointer (some ⟨gh,0,none⟩),.int .i64 0]) (by simp[results,Tryz.results90,go_sem]) rfl ⟨gh,M',rfl,Blk.ext HB.out (X4.out.tr XI),HP.out.ext (X4.out.tr XI),HM.out.ext (X4.out.tr XI),hl,by rw[<-hpl.out];exact hN.out,Z2,HD.out.tr (Mod.of_ext (X4.out.tr XI))⟩
section
variable {w w':World} {base:Nat} {ts:List TypeId} {bs gm gc gp gn go gi gl:Nat} {M:List Int} {P:PoolS} {I:IncS}
theorem MemB.modT (h:MemB w gm gc M)(k:ModT base ts w w')(h1:268∉ts)(h2:3∉ts) : MemB w' gm gc M:=by
 obtain⟨⟨st,c,o,n,q,d,q1⟩,q2⟩:=h;exact⟨⟨st,c,o,n,q,d,q1.modT k h1⟩,q2.modT k h2⟩
theorem MemB.no (m:MemB w gm gc M){b:Nat}{t:TypeId}{cs:Array Value}(hb:Blk w b t cs)(h1:t≠268)(h2:t≠3) : ¬CS gm gc b:=by
 obtain⟨⟨st,k,c,o,n,d,m1⟩,m2⟩:=m;rintro (rfl | rfl)
 ·exact hb.ne m1 h1 rfl
 ·exact hb.ne m2 h2 rfl
theorem PoolR.modT (h:PoolR w bs gm gc gp gn go P)(k:ModT base ts w w')(h1:271∉ts)(h2:204∉ts)(h3:22∉ts)(h4:3∉ts) : PoolR w' bs gm gc gp gn go P :=
 ⟨h.p.modT k h1,h.nd.modT k h2,h.ln,h.ow.modT k h3,fun i o ho=>⟨(h.oi i o ho).1.modT k h4,(h.oi i o ho).2⟩,h.dj⟩
theorem IncR.modT (h:IncR w bs gm gc gi gl I)(k:ModT base ts w w')(h1:279∉ts)(h3:22∉ts)(h4:3∉ts) : IncR w' bs gm gc gi gl I :=
 ⟨h.b.modT k h1,h.r.modT k h3,fun i o ho=>⟨(h.x i o ho).1.modT k h4,(h.x i o ho).2⟩⟩
end
def ptr (g:Nat) : Value:=.pointer (some ⟨g,0,none⟩)
structure Bag (w0 w:World)(bs gM gf gm gc gp gn go:Nat)(mc:Array Value)(M:List Int)(P:PoolS)(A:Option Addr)(cA n:Nat)(hs:List (Nat×Nat)) : Prop where
 B:Blk w gM 120 mc
 C:Blk w gf 31 #[.int .i64 2,.int .i64 64,.int .i64 3]
 m:MemB w gm gc M
 p:PoolR w bs gm gc gp gn go P
 h:∀ x∈hs,ZN w x.1 gm gp x.2 3
 s:OwV w w0.heap.size 188 1 A n cA (hs.map fun x=>ptr x.1)
 d:Mod (fun b=>b=gM) w0 w
 z:w0.heap.size<=gm/\w0.heap.size<=gc
section
variable {w0 w w':World} {bs gM gf gm gc gp gn go cA n:Nat} {mc:Array Value} {M:List Int} {P:PoolS} {A:Option Addr} {hs:List (Nat×Nat)}
theorem Bag.ext (b:Bag w0 w bs gM gf gm gc gp gn go mc M P A cA n hs)(x:Ext w w') : Bag w0 w' bs gM gf gm gc gp gn go mc M P A cA n hs :=
 ⟨b.B.ext x,b.C.ext x,b.m.ext x,b.p.ext x,fun y hy=>Blk.ext (b.h y hy) x,b.s.ext x,b.d.ext x,b.z⟩
theorem Bag.cs (b:Bag w0 w bs gM gf gm gc gp gn go mc M P A cA n hs)(d:Mod (CS gm gc) w w') : Mod (fun b=>b=gM) w0 w' :=
 b.d.tr' d fun i hi h=>by have:=b.z;rcases h with rfl | rfl<;>omega
theorem OwV.noCS {base size m c:Nat}{e:TypeId}{B:Option Addr}{vs:List Value}(h:OwV w base e size B m c vs)(m:MemB w gm gc M)(h1:e≠268)(h2:e≠3) : ∀ g,bl B=some g->¬CS gm gc g:=by
 obtain⟨⟨st,k,c,o,n,d,m1⟩,m2⟩:=m;rintro g hg (rfl | rfl)
 ·exact h.ne m1 h1.symm _ hg rfl
 ·exact h.ne m2 h2.symm _ hg rfl
theorem Bag.cell (b:Bag w0 w bs gM gf gm gc gp gn go mc M P A cA n hs){M':List Int}(m:MemB w' gm gc M')(d:Mod (CS gm gc) w w') : Bag w0 w' bs gM gf gm gc gp gn go mc M' P A cA n hs :=
 ⟨b.B.mod d (b.m.no b.B (by decide) (by decide)),b.C.mod d (b.m.no b.C (by decide) (by decide)),m,b.p.cell b.m d,fun y hy=>Blk.mod (b.h y hy) d (b.m.no (b.h y hy) (by decide) (by decide)),b.s.mod d (b.s.noCS b.m (by decide) (by decide)),b.cs d,b.z⟩
theorem Bag.set (b:Bag w0 w bs gM gf gm gc gp gn go mc M P A cA n hs)(i:Nat)(v:Value){mc':Array Value}(hv:mc.setIfInBounds i v=mc') : Bag w0 (w.setCell ⟨gM,i,none⟩ v) bs gM gf gm gc gp gn go mc' M P A cA n hs:=by
 have k:ModT 0 [120] w (w.setCell ⟨gM,i,none⟩ v):=ModT.set w b.B (by simp) (Nat.zero_le _) i v;exact⟨hv ▸ b.B.set i v,b.C.modT k (by decide),b.m.modT k (by decide) (by decide),b.p.modT k (by decide) (by decide) (by decide) (by decide),fun y hy=>Blk.modT (b.h y hy) k (by decide),b.s.modT k (by decide),b.d.tr (Mod.set (S:=fun b=>b=gM) (p:=⟨gM,i,none⟩) (Mod.rf w) (.inl rfl) v),b.z⟩
theorem Bag.app (b:Bag w0 w bs gM gf gm gc gp gn go mc M P A cA n hs){A':Option Addr}{c' n':Nat}(x:Nat×Nat)(hx:ZN w x.1 gm gp x.2 3)(s:OwV w' w0.heap.size 188 1 A' n' c' (hs.map (fun x=>ptr x.1)++[ptr x.1]))(g:w.grownBy w' (bl A)) : Bag w0 w' bs gM gf gm gc gp gn go mc M P A' c' n' (hs++[x]):=by
 have k:=b.s.grownT g;refine⟨b.B.modT k (by decide),b.C.modT k (by decide),b.m.modT k (by decide) (by decide),b.p.modT k (by decide) (by decide) (by decide) (by decide),?_,by simpa using s,b.d.tr' k fun i hi h=>by have:=h.1;omega,b.z⟩;intro y hy;rcases List.mem_append.1 hy with h | h
 ·exact Blk.modT (b.h y h) k (by decide)
 ·rw[List.mem_singleton.1 h]
  exact Blk.modT hx k (by decide)
end
end
section
structure MIn where
 kind:Int
 nn:Int
 cap:Int
 wv:Value
 vv:Value
 cv:Value
def MIn.v (i:MIn) : Value:=.agg #[.int .i64 i.kind,.int .i64 i.nn,.int .i64 i.cap,i.wv,i.vv,i.cv]
def mcv (i:MIn)(p6 p7 p8 p9 p10 p11 p12 p13 p14:Value) : Array Value:=#[.int .i64 i.kind,.int .i64 i.nn,.int .i64 i.cap,i.wv,i.vv,i.cv,p6,p7,p8,p9,p10,p11,p12,p13,p14]
theorem ZeC : (Tryz.prog.info? 188).map (fun i=>(i.zero,i.size,i.bytes))=some (some (.pointer none),1,8):=by kernel_rfl
structure Lay0 (M:List Int)(c:Int) : Prop where
 len:M.length=210
 top:M[0]?=some 1
 fst:M[1]?=some 1
 h0:∀ i,1<=i->i<=7->M[65+(i-1)]?=some 0
 h1:∀ i,1<=i->i<=7->M[136+(i-1)]?=some 0
 best:M[207]?=some (c*64+4)
 cnt:M[208]?=some 1
 wrk:M[209]?=some 2
theorem Zgy {M1 M2 M3:List Int}{c:Int}(l1:M1.length=210)(l2:M2.length=210)(l3:M3.length=210)(n:Zet M1 64 64)(h:HZ M1 M2 65 (2^3-1))(k:HZ M2 M3 136 (2^3-1)) : Lay0 (((M3.set 207 (c*64+4)).set 208 1).set 209 2) c:=by
 have g:∀ j,j<207->(((M3.set 207 (c*64+4)).set 208 1).set 209 2)[j]?=M3[j]?:=fun j hj=>by
  rw[List.getElem?_set_ne (by omega),List.getElem?_set_ne (by omega),List.getElem?_set_ne (by omega)]
 refine⟨by simp[l3],?_,?_,fun i h1 h7=>?_,fun i h1 h7=>?_,?_,?_,?_⟩
 ·rw[g 0 (by omega),k.2 0 (by omega),h.2 0 (by omega)];exact n.1
 ·rw[g 1 (by omega),k.2 1 (by omega),h.2 1 (by omega)];exact n.2 0 (by omega)
 ·rw[g _ (by omega),k.2 _ (by omega)];exact h.1 i h1 (by omega)
 ·rw[g _ (by omega)];exact k.1 i h1 (by omega)
 ·rw[List.getElem?_set_ne (by omega),List.getElem?_set_ne (by omega),List.getElem?_set_self (by omega)]
 ·rw[List.getElem?_set_ne (by omega),List.getElem?_set_self (by simp;omega)]
 ·rw[List.getElem?_set_self (by simp;omega)]
theorem OwV.two {w:World}{base c:Nat}{e:TypeId}{A:Option Addr}{u v:Value}(h:OwV w base e 1 A 2 c [u,v]) : ∃ g cs,A=some ⟨g,0,none⟩/\Blk w g e cs/\cs[0]?=some u/\cs[1]?=some v/\base<=g:=by
 rcases h.cases with⟨-,-,h2,-⟩ | ⟨g,cur,hA,hb,hg,-,-,-,ht⟩
 ·cases h2
 ·refine⟨g,cur,hA,hg,?_,?_,hb⟩
  ·have:(cur.toList.take (2*1))[0]?=some u:=by rw[ht];rfl
   rw[List.getElem?_take_of_lt (by decide)] at this
   simpa using this
  ·have:(cur.toList.take (2*1))[1]?=some v:=by rw[ht];rfl
   rw[List.getElem?_take_of_lt (by decide)] at this
   simpa using this
def Zhh (w w':World)(bs gM:Nat)(i:MIn)(gk gt gP nP:Nat)(xs:List Int)(c:Int) : Prop :=
 ∃ (gm gc gp gn go gH cH gh0 gh1 gi gl gu:Nat) (ch:Array Value) (A:Option Addr) (k:Nat) (M:List Int),Blk w' gM 120 (mcv i (ptr gm) (ptr gk) (ptr gp) (.slice (some ⟨gH,0,none⟩) 2 cH) (ptr gi) (ptr gu) (ptr gt) (.slice none 0 0) (.slice (some ⟨gP,0,none⟩) nP nP)) /\
  (Blk w' gH 188 ch/\ch[0]?=some (ptr gh0)/\ch[1]?=some (ptr gh1))/\MemB w' gm gc M/\Lay0 M c/\PoolR w' bs gm gc gp gn go ⟨0,64,ZH 64,List.replicate 2 ⟨none,0,[]⟩⟩/\ZN w' gh0 gm gp 65 3/\ZN w' gh1 gm gp 136 3/\IncR w' bs gm gc gi gl ⟨207,2,List.replicate 4 ⟨none,0,[]⟩++[⟨A,k,xs⟩]⟩/\Xo w' gu gm 208 /\
  ((w.heap.size<=gm/\w.heap.size<=gc)/\(w.heap.size<=go/\w.heap.size<=gn)/\go<gl)/\Mod (fun b=>b=gM) w w'
theorem ZbK (bs gM:Nat)(i:MIn)(gk gt gP nP:Nat)(xs:List Int)(c:Int)(w:World)(hbs:bs<=w.heap.size)(hc:0<=c/\c<=1125899906842624)(hxl:xs.length<=64)(B:Blk w gM 120 (mcv i (.pointer none) (ptr gk) (.pointer none) (.slice none 0 0) (.pointer none) (.pointer none) (ptr gt) (.slice none 0 0) (.slice (some ⟨gP,0,none⟩) nP nP)))
  (HG:∀ W,Mod (fun b=>b=gM) w W->Calls Tryz.prog 91 #[i.v] W fun e w'=>(∃ A k,e=.returned (.tuple #[.slice A xs.length k,.int .i64 c,.int .i64 0])/\RdI w' A xs)/\Ext W w') :
  Calls Tryz.prog 49 #[ptr gM,.agg #[.int .i64 2,.int .i64 64,.int .i64 3]] w fun e w'=>e=.returned (.int .i64 0)/\Zhh w w' bs gM i gk gt gP nP xs c:=by
 have PC:Hid (∀ W:World,Calls Tryz.prog 86 #[.int .i64 64] W fun e w'=>e=.returned (.int .i64 65)/\Ext W w'):=Hd fun W=>QD 64 W (by decide) (by decide)
 have HC:Hid (∀ W:World,Calls Tryz.prog 87 #[.int .i64 3,.int .i64 64] W fun e w'=>e=.returned (.int .i64 71)/\Ext W w'):=Hd fun W=>QH 3 64 W (by decide) (by decide) (by decide)
 have CN:Hid (∀ W:World,Calls Tryz.prog 88 #[.int .i64 210] W fun e w'=>∃ gm,e=.returned (.tuple #[.pointer (some ⟨gm,0,none⟩),.int .i64 0])/\∃ gc,MemB w' gm gc (List.replicate 210 0)/\W.heap.size<=gm/\W.heap.size<=gc/\Ext W w'):=Hd fun W=>Zer 210 W (by decide)
 have zM:=B.lt;unfold MIn.v at HG;replace HG:=Hd HG;have C0:Hid (Blk (w.alloc (.cells #[.int .i64 2,.int .i64 64,.int .i64 3] 31)) w.heap.size 31 #[.int .i64 2,.int .i64 64,.int .i64 3]):=Hd (Blk.new rfl);have B0:=Hd (B.ext ((Ext.rf w).alloc (.cells #[.int .i64 2,.int .i64 64,.int .i64 3] 31)));have X0:=Hd ((Ext.rf w).alloc (.cells #[.int .i64 2,.int .i64 64,.int .i64 3] 31));have zf:w.heap.size<(w.alloc (.cells #[.int .i64 2,.int .i64 64,.int .i64 3] 31)).heap.size:=Blk.lt C0.out;have zM0:gM<(w.alloc (.cells #[.int .i64 2,.int .i64 64,.int .i64 3] 31)).heap.size:=B0.out.lt;clear B;unfold ptr at B0 ⊢;go_enter Tryz.func49,Tryz.ntmps49;go_upto_region 1 with(fail);generalize w.alloc (.cells #[.int .i64 2,.int .i64 64,.int .i64 3] 31)=w0 at *;obtain⟨gf,hgf⟩:∃ gf,gf=w.heap.size:=⟨_,rfl⟩;rw[<-hgf] at C0 zf;rw[<-hgf];have c0:w0.cell? ⟨gf,0,none⟩=some (.int .i64 2):=(C0.out.cell 0);have c1:w0.cell? ⟨gf,1,none⟩=some (.int .i64 64):=(C0.out.cell 1);have c2:w0.cell? ⟨gf,2,none⟩=some (.int .i64 3):=(C0.out.cell 2);replace hgf:=Hd hgf;go_wp2_with (go_quiet (fail));refine(PC.out _).mono ?_;rintro e w1 ⟨rfl,x1⟩;have X1:=Hd (Ext.tr (a:=w0) XI x1);have c0:=Zb X1.out zf c0;have c1:=Zb X1.out zf c1;have c2:=Zb X1.out zf c2;clear x1 PC;go_wp2_with (go_quiet (fail));refine(HC.out _).mono ?_;rintro e w2 ⟨rfl,x2⟩;have X2:=Hd (X1.out.tr (Ext.tr (a:=w1) XI x2));have c0:=Zb (Ext.tr (a:=w1) XI x2) (by have:=X1.out.size;omega) c0;clear x2 HC X1;go_wp2_with (go_quiet (fail));refine(CN.out _).mono ?_;rintro e w3 ⟨gm,rfl,gc,m3,zm,zc,x3⟩;have M3:=Hd m3;have X3:=Hd (X2.out.tr (Ext.tr (a:=w2) XI x3));have zm':w.heap.size<=gm:=by have:=X0.out.size;have:=X2.out.size;have:w2.heap.size<=gm:=zm;omega
 have zc':w.heap.size<=gc:=by have:=X0.out.size;have:=X2.out.size;have:w2.heap.size<=gc:=zc;omega
 clear m3 zm zc x3 X2 CN c0 c1 c2;have B3:=Hd (B0.out.ext X3.out);have C3:=Hd (C0.out.ext X3.out);have k6:w3.cell? ⟨gM,6,none⟩=some (.pointer none):=(B3.out.cell 6);have f6:=B3.out.free 6;clear B0 C0;have nM:∀ {k:Nat},w.heap.size<=k->k≠gM:=fun h e=>by omega
 have nfM:gf≠gM:=by have:=hgf.out;omega
 have ngm:gm≠gM:=by omega
 have ngc:gc≠gM:=by omega
 have Z3:w.heap.size<=w3.heap.size:=by have:=X0.out.size;have:=X3.out.size;omega
 go_upto_region 7 with(go_quiet (fail));have D4:Mod (fun b=>b=gM) w3 (w3.setCell ⟨gM,6,none⟩ (.pointer (some ⟨gm,0,none⟩))):=Mod.set (S:=fun b=>b=gM) (p:=⟨gM,6,none⟩) (Mod.rf w3) (.inl rfl) _;have B4:Hid (Blk (w3.setCell ⟨gM,6,none⟩ (.pointer (some ⟨gm,0,none⟩))) gM 120 (mcv i (.pointer (some ⟨gm,0,none⟩)) (.pointer (some ⟨gk,0,none⟩)) (.pointer none) (.slice none 0 0) (.pointer none) (.pointer none) (.pointer (some ⟨gt,0,none⟩)) (.slice none 0 0) (.slice (some ⟨gP,0,none⟩) nP nP))):=Hd (B3.out.set 6 _);have C4:=Hd (C3.out.mod D4 nfM);have M4:=Hd (M3.out.mod D4 ngm ngc);have D4w:Hid (Mod (fun b=>b=gM) w (w3.setCell ⟨gM,6,none⟩ (.pointer (some ⟨gm,0,none⟩)))):=Hd ((Mod.of_ext (X0.out.tr X3.out)).tr D4);have Z4:w.heap.size<=(w3.setCell ⟨gM,6,none⟩ (.pointer (some ⟨gm,0,none⟩))).heap.size:=D4w.out.size;clear B3 C3 M3 D4 k6 f6 X3 Z3;generalize w3.setCell ⟨gM,6,none⟩ (.pointer (some ⟨gm,0,none⟩))=w4 at *;have c0:w4.cell? ⟨gf,0,none⟩=some (.int .i64 2):=(C4.out.cell 0);have c1:w4.cell? ⟨gf,1,none⟩=some (.int .i64 64):=(C4.out.cell 1);have PN:=Hd (fun(W:World) (h:MemB W gm gc (List.replicate 210 0))=>Zda bs gm gc 64 2 (List.replicate 210 0) W h (by decide) (by decide) (by simp) (by simp) (by decide));go_wp2_with (go_quiet (fail));refine(PN.out _ (M4.out.ext XI)).mono ?_;rintro e w5 ⟨gp,gn,go,M1,rfl,p5,m5,l5,n5,⟨zp,zn,zo⟩,d5⟩;have zo':w.heap.size<=go:=by have h4:w4.heap.size<=go:=zo;omega
 have zn':w.heap.size<=gn:=by have h4:w4.heap.size<=gn:=zn;omega
 have d5w:=Mod.tr (a:=w4) (Mod.of_ext XI) d5;have Y5:=Hd (Bag.mk (w0:=w) (A:=none) (cA:=0) (n:=0) (hs:=[]) (B4.out.mod d5w (M4.out.no B4.out (by decide) (by decide))) (C4.out.mod d5w (M4.out.no C4.out (by decide) (by decide))) m5 p5 (by simp) (OwV.nil _ _ _ _) (D4w.out.tr' d5w fun i hi h=>by rcases h with rfl | rfl<;>omega) ⟨zm',zc'⟩);replace n5:=Hd n5;clear d5 d5w p5 m5 zp zn zo B4 C4 M4 D4w PN c0 c1;have k8:w5.cell? ⟨gM,8,none⟩=some (.pointer none):=(Y5.out.B.cell 8);have f8:=Y5.out.B.free 8;go_upto_region 10 with(go_quiet (fail));have Y6:=Hd (Y5.out.set 8 (.pointer (some ⟨gp,0,none⟩)) (mc':=mcv i (.pointer (some ⟨gm,0,none⟩)) (.pointer (some ⟨gk,0,none⟩)) (.pointer (some ⟨gp,0,none⟩)) (.slice none 0 0) (.pointer none) (.pointer none) (.pointer (some ⟨gt,0,none⟩)) (.slice none 0 0) (.slice (some ⟨gP,0,none⟩) nP nP)) rfl);clear k8 f8 Y5;generalize w5.setCell ⟨gM,8,none⟩ (.pointer (some ⟨gp,0,none⟩))=w6 at *;have c0:w6.cell? ⟨gf,0,none⟩=some (.int .i64 2):=(Y6.out.C.cell 0);go_wp2_with (go_quiet (fail));clear c0;obtain⟨i0,hi,hz0,hz1,hz2⟩:=info_parts ZeC;replace hi:=Hd hi;replace hz0:=Hd hz0;replace hz1:=Hd hz1;replace hz2:=Hd hz2;have hM1:M1.length=210:=by simpa using l5
 have HN:=Hd (fun(W:World) (M:List Int) (h:MemB W gm gc M) (h2:PoolR W bs gm gc gp gn go ⟨0,64,ZH 64,List.replicate 2 ⟨none,0,[]⟩⟩) (l:M.length=210)=>Jr bs gm gc gp gn go 65 3 M ⟨0,64,ZH 64,List.replicate 2 ⟨none,0,[]⟩⟩ W h h2 (by decide) (by decide) (by decide) (by rw[l];decide) (by rw[l];decide));have HN2:=Hd (fun(W:World) (M:List Int) (h:MemB W gm gc M) (h2:PoolR W bs gm gc gp gn go ⟨0,64,ZH 64,List.replicate 2 ⟨none,0,[]⟩⟩) (l:M.length=210)=>Jr bs gm gc gp gn go 136 3 M ⟨0,64,ZH 64,List.replicate 2 ⟨none,0,[]⟩⟩ W h h2 (by decide) (by decide) (by decide) (by rw[l];decide) (by rw[l];decide));refine wp_loop_rounds 3 ?_;rw[rounds_succ];go_upto_region 12 with(fail);refine wp_region_any (by kernel_rfl) ?_
 change wpAny _ _ _ _ _ _ _ (World.drew _)
 have c2:w6.drew.cell? ⟨gf,2,none⟩=some (.int .i64 3):=(Y6.out.C.cell 2);have c8:w6.drew.cell? ⟨gM,8,none⟩=some (.pointer (some ⟨gp,0,none⟩)):=(Y6.out.B.cell 8);refine Za 0 (.move (.tmp 7)) 111 (some 60) rfl (by kernel_rfl) Hq (by intro _;go_simp;try rfl) ?_;simp only[lay];refine Za 1 (.move (.tmp 5)) 3 (some 61) rfl (by kernel_rfl) Hq (by intro _;go_simp;try rfl) ?_;simp only[lay];refine Za 2 (.fieldAddr 31 (.tmp 3) 2) 0 (some 62) rfl (by kernel_rfl) Hq (by intro _;go_simp;try rfl) ?_;simp only[lay];refine Za 4 (.move (.tmp 0)) 78 (some 64) rfl (by kernel_rfl) Hq (by intro _;go_simp;try rfl) ?_;simp only[lay];refine Za 5 (.nilCheck (.tmp 64)) 0 (some 65) rfl (by kernel_rfl) Hq (by intro _;go_simp;try rfl) ?_;simp only[lay];refine Za 6 (.fieldAddr 120 (.tmp 65) 2) 0 (some 66) rfl (by kernel_rfl) Hq (by intro _;go_simp;try rfl) ?_;simp only[lay];refine Za 7 (.fieldAddr 117 (.tmp 66) 1) 0 (some 67) rfl (by kernel_rfl) Hq (by intro _;go_simp;try rfl) ?_;simp only[lay];refine Zm (n:=6) [(3,some 63),(8,some 68)] (fun | 3=>.int .i64 3 | 8=>.pointer (some ⟨gp,0,none⟩) | _=>undef) #[true,true,true,true,true,true,true,true,true,false,false,false,false,false,false] (by decide +kernel) ?_ ?_
 ·intro pS hpm uS hD K hK
  simp only[List.mem_cons,List.not_mem_nil,or_false] at hpm;rcases hpm with rfl | rfl
  ·exact Ze (T:=3) (x:=Operand.tmp 62) (t:=3) (d:=some 63) rfl (.pointer (some ⟨gf,2,none⟩)) (by kernel_rfl) (.int .i64 3) (by go_simp) hK
  ·exact Ze (T:=112) (x:=Operand.tmp 67) (t:=112) (d:=some 68) rfl (.pointer (some ⟨gM,8,none⟩)) (by kernel_rfl) (.pointer (some ⟨gp,0,none⟩)) (by go_simp) hK
 simp only[Zc,Act.put,List.setIfInBounds_toArray,List.set_cons_zero,List.set_cons_succ];refine Zd 9 (by decide +kernel) (Zi (f:=90) (xs:=#[Operand.tmp 60,Operand.tmp 61,Operand.tmp 63,Operand.tmp 68]) (ts:=#[111,3,3,112]) (t:=189) (d:=some 69) rfl #[.pointer (some ⟨gm,0,none⟩),.int .i64 65,.int .i64 3,.pointer (some ⟨gp,0,none⟩)] (by go_simp) (by kernel_rfl) _ (HN.out w6.drew M1 (Y6.out.m.ext (Ext.rf _).drew) (Y6.out.p.ext (Ext.rf _).drew) hM1) ?_);rintro e w7 ⟨gh0,M2,rfl,hb0,pq0,mq0,lq0,qz0,zh0,dq0⟩;have Y7:=Hd (Bag.cell (Y6.out.ext (Ext.rf _).drew) mq0 dq0);replace hb0:=Hd hb0;replace qz0:=Hd qz0;have zi0:w.heap.size<=gh0:=by have:=Y6.out.d.size;have:w6.heap.size<=gh0:=zh0;omega
 have LN0:M2.length=210:=by rw[lq0];exact hM1
 clear Y6 pq0 mq0 lq0 dq0 c2 c8 zh0;refine⟨_,rfl,?_⟩
 try simp only[lay]
 refine Za 10 (.move (.tmp 69)) 189 (some 59) rfl (by kernel_rfl) Hq (by intro _;go_simp;try rfl) ?_;simp only[lay];refine Za 11 (.extract (.tmp 59) 0) 188 (some 70) rfl (by kernel_rfl) Hq (by intro _;go_simp;try rfl) ?_;simp only[lay];refine Za 12 (.extract (.tmp 59) 1) 27 (some 71) rfl (by kernel_rfl) Hq (by intro _;go_simp;try rfl) ?_;simp only[lay];refine Za 13 (.assign (.tmp 70)) 188 (some 9) rfl (by kernel_rfl) Hq (by intro _;go_simp;try rfl) ?_;simp only[lay];refine Za 14 (.assign (.tmp 71)) 27 (some 10) rfl (by kernel_rfl) Hq (by intro _;go_simp;try rfl) ?_;simp only[lay];refine wpAny_done (by kernel_rfl) ?_ _;go_simp;have k9:w7.cell? ⟨gM,9,none⟩=some (.slice none 0 0):=(Y7.out.B.cell 9);go_upto_region 16 with(at_builtin;(refine Zw _ (e:=188) Tryz.underlying113 hi.out hz0.out hz1.out hz2.out (by simp[Value.cells]) (by omega) rfl _ _ rfl w.heap.size none 0 0 [] (some ⟨w7.heap.size,0,none⟩) 1 1 [.pointer (some ⟨gh0,0,none⟩)] rfl rfl (OwV.ext Y7.out.s ((Ext.rf _).alloc _)) (RdV.blk (.new (by simp))).rdC (by simp) (by simp[Value.oneCell']) (by simp[maxLen]) (by decide) (by have:=Y7.out.d.size;simp;omega) ?_;rintro AH0 cH0 w8 sH0 gr0 oH0;have Y8:=Hd (Bag.app (n':=0+1) (Y7.out.ext ((Ext.rf _).alloc (.cells #[.pointer (some ⟨gh0,0,none⟩)] 188))) (gh0,65) (Blk.ext hb0.out ((Ext.rf _).alloc _)) sH0 gr0);clear sH0 gr0 Y7 k9 hb0;have k9:w8.cell? ⟨gM,9,none⟩=some (.slice none 0 0):=Y8.out.B.cell 9;have f9:=Y8.out.B.free 9));have Y9:=Hd (Y8.out.set 9 (.slice AH0 1 cH0) (mc':=mcv i (.pointer (some ⟨gm,0,none⟩)) (.pointer (some ⟨gk,0,none⟩)) (.pointer (some ⟨gp,0,none⟩)) (.slice AH0 1 cH0) (.pointer none) (.pointer none) (.pointer (some ⟨gt,0,none⟩)) (.slice none 0 0) (.slice (some ⟨gP,0,none⟩) nP nP)) rfl);clear k9 f9 Y8;generalize w8.setCell ⟨gM,9,none⟩ (.slice AH0 1 cH0)=w9 at *;go_wp2_with (fail);rw[rounds_succ];go_upto_region 12 with(fail);refine wp_region_any (by kernel_rfl) ?_
 change wpAny _ _ _ _ _ _ _ (World.drew _)
 have c2:w9.drew.cell? ⟨gf,2,none⟩=some (.int .i64 3):=(Y9.out.C.cell 2);have c8:w9.drew.cell? ⟨gM,8,none⟩=some (.pointer (some ⟨gp,0,none⟩)):=(Y9.out.B.cell 8);refine Za 0 (.move (.tmp 7)) 111 (some 60) rfl (by kernel_rfl) Hq (by intro _;go_simp;try rfl) ?_;simp only[lay];refine Za 1 (.move (.tmp 5)) 3 (some 61) rfl (by kernel_rfl) Hq (by intro _;go_simp;try rfl) ?_;simp only[lay];refine Za 2 (.fieldAddr 31 (.tmp 3) 2) 0 (some 62) rfl (by kernel_rfl) Hq (by intro _;go_simp;try rfl) ?_;simp only[lay];refine Za 4 (.move (.tmp 0)) 78 (some 64) rfl (by kernel_rfl) Hq (by intro _;go_simp;try rfl) ?_;simp only[lay];refine Za 5 (.nilCheck (.tmp 64)) 0 (some 65) rfl (by kernel_rfl) Hq (by intro _;go_simp;try rfl) ?_;simp only[lay];refine Za 6 (.fieldAddr 120 (.tmp 65) 2) 0 (some 66) rfl (by kernel_rfl) Hq (by intro _;go_simp;try rfl) ?_;simp only[lay];refine Za 7 (.fieldAddr 117 (.tmp 66) 1) 0 (some 67) rfl (by kernel_rfl) Hq (by intro _;go_simp;try rfl) ?_;simp only[lay];refine Zm (n:=6) [(3,some 63),(8,some 68)] (fun | 3=>.int .i64 3 | 8=>.pointer (some ⟨gp,0,none⟩) | _=>undef) #[true,true,true,true,true,true,true,true,true,false,false,false,false,false,false] (by decide +kernel) ?_ ?_
 ·intro pS hpm uS hD K hK
  simp only[List.mem_cons,List.not_mem_nil,or_false] at hpm;rcases hpm with rfl | rfl
  ·exact Ze (T:=3) (x:=Operand.tmp 62) (t:=3) (d:=some 63) rfl (.pointer (some ⟨gf,2,none⟩)) (by kernel_rfl) (.int .i64 3) (by go_simp) hK
  ·exact Ze (T:=112) (x:=Operand.tmp 67) (t:=112) (d:=some 68) rfl (.pointer (some ⟨gM,8,none⟩)) (by kernel_rfl) (.pointer (some ⟨gp,0,none⟩)) (by go_simp) hK
 simp only[Zc,Act.put,List.setIfInBounds_toArray,List.set_cons_zero,List.set_cons_succ];refine Zd 9 (by decide +kernel) (Zi (f:=90) (xs:=#[Operand.tmp 60,Operand.tmp 61,Operand.tmp 63,Operand.tmp 68]) (ts:=#[111,3,3,112]) (t:=189) (d:=some 69) rfl #[.pointer (some ⟨gm,0,none⟩),.int .i64 136,.int .i64 3,.pointer (some ⟨gp,0,none⟩)] (by go_simp) (by kernel_rfl) _ (HN2.out w9.drew M2 (Y9.out.m.ext (Ext.rf _).drew) (Y9.out.p.ext (Ext.rf _).drew) LN0) ?_);rintro e w10 ⟨gh1,M3,rfl,hb1,pq1,mq1,lq1,qz1,zh1,dq1⟩;have Y10:=Hd (Bag.cell (Y9.out.ext (Ext.rf _).drew) mq1 dq1);replace hb1:=Hd hb1;replace qz1:=Hd qz1;have zi1:w.heap.size<=gh1:=by have:=Y9.out.d.size;have:w9.heap.size<=gh1:=zh1;omega
 have LN1:M3.length=210:=by rw[lq1];exact LN0
 clear Y9 pq1 mq1 lq1 dq1 c2 c8 zh1;refine⟨_,rfl,?_⟩
 try simp only[lay]
 refine Za 10 (.move (.tmp 69)) 189 (some 59) rfl (by kernel_rfl) Hq (by intro _;go_simp;try rfl) ?_;simp only[lay];refine Za 11 (.extract (.tmp 59) 0) 188 (some 70) rfl (by kernel_rfl) Hq (by intro _;go_simp;try rfl) ?_;simp only[lay];refine Za 12 (.extract (.tmp 59) 1) 27 (some 71) rfl (by kernel_rfl) Hq (by intro _;go_simp;try rfl) ?_;simp only[lay];refine Za 13 (.assign (.tmp 70)) 188 (some 9) rfl (by kernel_rfl) Hq (by intro _;go_simp;try rfl) ?_;simp only[lay];refine Za 14 (.assign (.tmp 71)) 27 (some 10) rfl (by kernel_rfl) Hq (by intro _;go_simp;try rfl) ?_;simp only[lay];refine wpAny_done (by kernel_rfl) ?_ _;go_simp;have k9:w10.cell? ⟨gM,9,none⟩=some (.slice AH0 1 cH0):=(Y10.out.B.cell 9);go_upto_region 16 with(at_builtin;(refine Zw _ (e:=188) Tryz.underlying113 hi.out hz0.out hz1.out hz2.out (by simp[Value.cells]) (by omega) rfl _ _ rfl w.heap.size AH0 1 cH0 [.pointer (some ⟨gh0,0,none⟩)] (some ⟨w10.heap.size,0,none⟩) 1 1 [.pointer (some ⟨gh1,0,none⟩)] rfl rfl (OwV.ext Y10.out.s ((Ext.rf _).alloc _)) (RdV.blk (.new (by simp))).rdC (by simp) (by simp[Value.oneCell']) (by simp[maxLen]) (by decide) (by have:=Y10.out.d.size;simp;omega) ?_;rintro AH1 cH1 w11 sH1 gr1 oH1;have Y11:=Hd (Bag.app (n':=1+1) (Y10.out.ext ((Ext.rf _).alloc (.cells #[.pointer (some ⟨gh1,0,none⟩)] 188))) (gh1,136) (Blk.ext hb1.out ((Ext.rf _).alloc _)) sH1 gr1);clear sH1 gr1 Y10 k9 hb1;have k9:w11.cell? ⟨gM,9,none⟩=some (.slice AH0 1 cH0):=Y11.out.B.cell 9;have f9:=Y11.out.B.free 9));have Y12:=Hd (Y11.out.set 9 (.slice AH1 2 cH1) (mc':=mcv i (.pointer (some ⟨gm,0,none⟩)) (.pointer (some ⟨gk,0,none⟩)) (.pointer (some ⟨gp,0,none⟩)) (.slice AH1 2 cH1) (.pointer none) (.pointer none) (.pointer (some ⟨gt,0,none⟩)) (.slice none 0 0) (.slice (some ⟨gP,0,none⟩) nP nP)) rfl);clear k9 f9 Y11;generalize w11.setCell ⟨gM,9,none⟩ (.slice AH1 2 cH1)=w12 at *;go_wp2_with (fail);rw[rounds_succ];go_upto_region 18 with(fail);have k0:w12.cell? ⟨gM,0,none⟩=some (.int .i64 i.kind):=(Y12.out.B.cell 0);have k1:w12.cell? ⟨gM,1,none⟩=some (.int .i64 i.nn):=(Y12.out.B.cell 1);have k2:w12.cell? ⟨gM,2,none⟩=some (.int .i64 i.cap):=(Y12.out.B.cell 2);have k3:w12.cell? ⟨gM,3,none⟩=some i.wv:=(Y12.out.B.cell 3);have k4:w12.cell? ⟨gM,4,none⟩=some i.vv:=(Y12.out.B.cell 4);have k5:w12.cell? ⟨gM,5,none⟩=some i.cv:=(Y12.out.B.cell 5);go_wp2_with (go_quiet (fail));refine(HG.out _ (Y12.out.d.ext XI)).mono ?_;rintro e w13 ⟨⟨A,k,rfl,ra⟩,x13⟩;have Y13:=Hd (Y12.out.ext (Ext.tr (a:=w12) XI x13));replace ra:=Hd ra;clear x13 Y12 HG k0 k1 k2 k3 k4 k5;go_upto_region 21 with(go_quiet (fail));have c0:w13.cell? ⟨gf,0,none⟩=some (.int .i64 2):=(Y13.out.C.cell 0);have IN:=Hd (fun(W:World) (h:MemB W gm gc M3) (hr:RdI W A xs) (hz:bs<=W.heap.size)=>ZbH bs gm gc 207 2 M3 xs A k c W h hz (by rw[LN1];decide) (by rw[LN1];decide) (by decide) hc hr (by omega));go_wp2_with (go_quiet (fail));refine(IN.out _ (Y13.out.m.ext XI) (ra.out.ext XI) (by have:=Y13.out.d.size;simp;omega)).mono ?_;rintro e w14 ⟨gi,gl,A',k',rfl,i14,m14,⟨zi,zl⟩,d14⟩;have Y14:=Hd (Bag.cell (Y13.out.ext (w':=_) XI) m14 d14);have zgl:go<gl:=by have h4:w13.heap.size<=gl:=zl;have:=Y13.out.p.ow.lt;omega
 replace i14:=Hd i14;clear IN Y13 c0 ra m14 d14 zi zl;have k10:w14.cell? ⟨gM,10,none⟩=some (.pointer none):=(Y14.out.B.cell 10);have f10:=Y14.out.B.free 10;go_upto_region 24 with(go_quiet (fail));have Y15:=Hd (Y14.out.set 10 (.pointer (some ⟨gi,0,none⟩)) (mc':=mcv i (.pointer (some ⟨gm,0,none⟩)) (.pointer (some ⟨gk,0,none⟩)) (.pointer (some ⟨gp,0,none⟩)) (.slice AH1 2 cH1) (.pointer (some ⟨gi,0,none⟩)) (.pointer none) (.pointer (some ⟨gt,0,none⟩)) (.slice none 0 0) (.slice (some ⟨gP,0,none⟩) nP nP)) rfl);have i15:=Hd (i14.out.modT (ModT.set w14 (ts:=[120]) Y14.out.B (by simp) (Nat.zero_le _) 10 (.pointer (some ⟨gi,0,none⟩))) (by decide) (by decide) (by decide));clear k10 f10 Y14 i14;generalize w14.setCell ⟨gM,10,none⟩ (.pointer (some ⟨gi,0,none⟩))=w15 at *;have c0:w15.cell? ⟨gf,0,none⟩=some (.int .i64 2):=(Y15.out.C.cell 0);have CO:=Hd (fun(W:World) (M:List Int) (h:MemB W gm gc M) (l:M.length=210)=>ZbF gm gc 208 M 1 2 W h (by rw[l];decide) (by rw[l];decide) (by decide) (by decide));have LN2:(M3.set 207 (c*64+(2*((2:Nat):Int)))).length=210:=by simp[LN1]
 go_wp2_with (go_quiet (fail));refine(CO.out _ _ (Y15.out.m.ext XI) LN2).mono ?_;rintro e w16 ⟨gu,rfl,u16,m16,zu,d16⟩;have i16:=Hd (IncR.cell (i15.out.ext (w':=_) XI) (Y15.out.m.ext XI) d16);have Y16:=Hd (Bag.cell (Y15.out.ext (w':=_) XI) m16 d16);replace u16:=Hd u16;clear Y15 i15 c0 CO m16 d16 zu;have k11:w16.cell? ⟨gM,11,none⟩=some (.pointer none):=(Y16.out.B.cell 11);have f11:=Y16.out.B.free 11;go_wp2_with (go_quiet (fail));have Y17:=Y16.out.set 11 (.pointer (some ⟨gu,0,none⟩)) (mc':=mcv i (.pointer (some ⟨gm,0,none⟩)) (.pointer (some ⟨gk,0,none⟩)) (.pointer (some ⟨gp,0,none⟩)) (.slice AH1 2 cH1) (.pointer (some ⟨gi,0,none⟩)) (.pointer (some ⟨gu,0,none⟩)) (.pointer (some ⟨gt,0,none⟩)) (.slice none 0 0) (.slice (some ⟨gP,0,none⟩) nP nP)) rfl;have md:=ModT.set w16 (ts:=[120]) Y16.out.B (by simp) (Nat.zero_le _) 11 (.pointer (some ⟨gu,0,none⟩));have i17:=i16.out.modT md (by decide) (by decide) (by decide);have u17:Xo _ gu gm 208:=Blk.modT u16.out md (by decide);obtain⟨gH,ch,hA,hch,e0,e1,-⟩:=OwV.two (u:=ptr gh0) (v:=ptr gh1) Y17.s;subst hA;refine bodyPost_ret (v:=.int .i64 0) (by simp[results,Tryz.results49,go_sem]) rfl ⟨rfl,gm,gc,gp,gn,go,gH,cH1,gh0,gh1,gi,gl,gu,ch,A',k',_,Y17.B,⟨hch,e0,e1⟩,Y17.m,?_,Y17.p,Y17.h (gh0,65) (by simp),Y17.h (gh1,136) (by simp),i17,u17,⟨Y17.z,⟨zo',zn'⟩,zgl⟩,Y17.d⟩;exact Zgy hM1 LN0 LN1 n5.out qz0.out qz1.out
theorem ZfC (ga gh:Nat)(a:HAct)(w:World)(A:ZF w ga gh a)(h:a.ph=0)(R:World->HAct->Prop)(hR:∀ W b,R W b->ZF W ga gh b)(HC:Calls Tryz.prog 278 #[.pointer (some ⟨ga,0,none⟩)] w fun e w'=>e=.returned (.tuple #[])/\∃ b,R w' b) :
  Calls Tryz.prog 230 #[.pointer (some ⟨ga,0,none⟩)] w fun e w'=>∃ b,e=.returned (.bool (b.ph==15))/\R w' b:=by
 have a4:w.cell? ⟨ga,1,none⟩=some (.int .i64 0):=(Blk.cell A 1).trans (by simp[HAct.cells,h]);replace HC:=Hd HC;clear A h;go_enter Tryz.func230,Tryz.ntmps230;go_wp2_with (go_quiet (fail));refine HC.out.mono ?_;rintro e w1 ⟨rfl,b,hb⟩;have b4:w1.cell? ⟨ga,1,none⟩=some (.int .i64 b.ph):=Blk.cell (hR w1 b hb) 1;replace hb:=Hd hb;clear a4 HC;go_wp2_with (go_quiet (fail));go_ret;exact⟨b,rfl,hb.out⟩
theorem ZfD (ga gh:Nat)(a:HAct)(w:World)(A:ZF w ga gh a)(h:a.ph=1)(R:World->HAct->Prop)(hR:∀ W b,R W b->ZF W ga gh b)(HC:Calls Tryz.prog 279 #[.pointer (some ⟨ga,0,none⟩)] w fun e w'=>e=.returned (.tuple #[])/\∃ b,R w' b) :
  Calls Tryz.prog 230 #[.pointer (some ⟨ga,0,none⟩)] w fun e w'=>∃ b,e=.returned (.bool (b.ph==15))/\R w' b:=by
 have a4:w.cell? ⟨ga,1,none⟩=some (.int .i64 1):=(Blk.cell A 1).trans (by simp[HAct.cells,h]);replace HC:=Hd HC;clear A h;go_enter Tryz.func230,Tryz.ntmps230;go_wp2_with (go_quiet (fail));refine HC.out.mono ?_;rintro e w1 ⟨rfl,b,hb⟩;have b4:w1.cell? ⟨ga,1,none⟩=some (.int .i64 b.ph):=Blk.cell (hR w1 b hb) 1;replace hb:=Hd hb;clear a4 HC;go_wp2_with (go_quiet (fail));go_ret;exact⟨b,rfl,hb.out⟩
theorem ZfE (ga gh:Nat)(a:HAct)(w:World)(A:ZF w ga gh a)(h:a.ph=2)(R:World->HAct->Prop)(hR:∀ W b,R W b->ZF W ga gh b)(HC:Calls Tryz.prog 280 #[.pointer (some ⟨ga,0,none⟩)] w fun e w'=>e=.returned (.tuple #[])/\∃ b,R w' b) :
  Calls Tryz.prog 230 #[.pointer (some ⟨ga,0,none⟩)] w fun e w'=>∃ b,e=.returned (.bool (b.ph==15))/\R w' b:=by
 have a4:w.cell? ⟨ga,1,none⟩=some (.int .i64 2):=(Blk.cell A 1).trans (by simp[HAct.cells,h]);replace HC:=Hd HC;clear A h;go_enter Tryz.func230,Tryz.ntmps230;go_wp2_with (go_quiet (fail));refine HC.out.mono ?_;rintro e w1 ⟨rfl,b,hb⟩;have b4:w1.cell? ⟨ga,1,none⟩=some (.int .i64 b.ph):=Blk.cell (hR w1 b hb) 1;replace hb:=Hd hb;clear a4 HC;go_wp2_with (go_quiet (fail));go_ret;exact⟨b,rfl,hb.out⟩
theorem ZfF (ga gh:Nat)(a:HAct)(w:World)(A:ZF w ga gh a)(h:a.ph=3)(R:World->HAct->Prop)(hR:∀ W b,R W b->ZF W ga gh b)(HC:Calls Tryz.prog 281 #[.pointer (some ⟨ga,0,none⟩)] w fun e w'=>e=.returned (.tuple #[])/\∃ b,R w' b) :
  Calls Tryz.prog 230 #[.pointer (some ⟨ga,0,none⟩)] w fun e w'=>∃ b,e=.returned (.bool (b.ph==15))/\R w' b:=by
 have a4:w.cell? ⟨ga,1,none⟩=some (.int .i64 3):=(Blk.cell A 1).trans (by simp[HAct.cells,h]);replace HC:=Hd HC;clear A h;go_enter Tryz.func230,Tryz.ntmps230;go_wp2_with (go_quiet (fail));refine HC.out.mono ?_;rintro e w1 ⟨rfl,b,hb⟩;have b4:w1.cell? ⟨ga,1,none⟩=some (.int .i64 b.ph):=Blk.cell (hR w1 b hb) 1;replace hb:=Hd hb;clear a4 HC;go_wp2_with (go_quiet (fail));go_ret;exact⟨b,rfl,hb.out⟩
theorem ZcA (ga gh:Nat)(a:HAct)(w:World)(A:ZF w ga gh a)(h:a.ph=4)(R:World->HAct->Prop)(hR:∀ W b,R W b->ZF W ga gh b)(HC:Calls Tryz.prog 282 #[.pointer (some ⟨ga,0,none⟩)] w fun e w'=>e=.returned (.tuple #[])/\∃ b,R w' b) :
  Calls Tryz.prog 230 #[.pointer (some ⟨ga,0,none⟩)] w fun e w'=>∃ b,e=.returned (.bool (b.ph==15))/\R w' b:=by
 have a4:w.cell? ⟨ga,1,none⟩=some (.int .i64 4):=(Blk.cell A 1).trans (by simp[HAct.cells,h]);replace HC:=Hd HC;clear A h;go_enter Tryz.func230,Tryz.ntmps230;go_wp2_with (go_quiet (fail));refine HC.out.mono ?_;rintro e w1 ⟨rfl,b,hb⟩;have b4:w1.cell? ⟨ga,1,none⟩=some (.int .i64 b.ph):=Blk.cell (hR w1 b hb) 1;replace hb:=Hd hb;clear a4 HC;go_wp2_with (go_quiet (fail));go_ret;exact⟨b,rfl,hb.out⟩
theorem ZfG (ga gh:Nat)(a:HAct)(w:World)(A:ZF w ga gh a)(h:a.ph=5)(R:World->HAct->Prop)(hR:∀ W b,R W b->ZF W ga gh b)(HC:Calls Tryz.prog 283 #[.pointer (some ⟨ga,0,none⟩)] w fun e w'=>e=.returned (.tuple #[])/\∃ b,R w' b) :
  Calls Tryz.prog 230 #[.pointer (some ⟨ga,0,none⟩)] w fun e w'=>∃ b,e=.returned (.bool (b.ph==15))/\R w' b:=by
 have a4:w.cell? ⟨ga,1,none⟩=some (.int .i64 5):=(Blk.cell A 1).trans (by simp[HAct.cells,h]);replace HC:=Hd HC;clear A h;go_enter Tryz.func230,Tryz.ntmps230;go_wp2_with (go_quiet (fail));refine HC.out.mono ?_;rintro e w1 ⟨rfl,b,hb⟩;have b4:w1.cell? ⟨ga,1,none⟩=some (.int .i64 b.ph):=Blk.cell (hR w1 b hb) 1;replace hb:=Hd hb;clear a4 HC;go_wp2_with (go_quiet (fail));go_ret;exact⟨b,rfl,hb.out⟩
theorem ZfH (ga gh:Nat)(a:HAct)(w:World)(A:ZF w ga gh a)(h:a.ph=6)(R:World->HAct->Prop)(hR:∀ W b,R W b->ZF W ga gh b)(HC:Calls Tryz.prog 284 #[.pointer (some ⟨ga,0,none⟩)] w fun e w'=>e=.returned (.tuple #[])/\∃ b,R w' b) :
  Calls Tryz.prog 230 #[.pointer (some ⟨ga,0,none⟩)] w fun e w'=>∃ b,e=.returned (.bool (b.ph==15))/\R w' b:=by
 have a4:w.cell? ⟨ga,1,none⟩=some (.int .i64 6):=(Blk.cell A 1).trans (by simp[HAct.cells,h]);replace HC:=Hd HC;clear A h;go_enter Tryz.func230,Tryz.ntmps230;go_wp2_with (go_quiet (fail));refine HC.out.mono ?_;rintro e w1 ⟨rfl,b,hb⟩;have b4:w1.cell? ⟨ga,1,none⟩=some (.int .i64 b.ph):=Blk.cell (hR w1 b hb) 1;replace hb:=Hd hb;clear a4 HC;go_wp2_with (go_quiet (fail));go_ret;exact⟨b,rfl,hb.out⟩
theorem ZfI (ga gh:Nat)(a:HAct)(w:World)(A:ZF w ga gh a)(h:a.ph=7)(R:World->HAct->Prop)(hR:∀ W b,R W b->ZF W ga gh b)(HC:Calls Tryz.prog 285 #[.pointer (some ⟨ga,0,none⟩)] w fun e w'=>e=.returned (.tuple #[])/\∃ b,R w' b) :
  Calls Tryz.prog 230 #[.pointer (some ⟨ga,0,none⟩)] w fun e w'=>∃ b,e=.returned (.bool (b.ph==15))/\R w' b:=by
 have a4:w.cell? ⟨ga,1,none⟩=some (.int .i64 7):=(Blk.cell A 1).trans (by simp[HAct.cells,h]);replace HC:=Hd HC;clear A h;go_enter Tryz.func230,Tryz.ntmps230;go_wp2_with (go_quiet (fail));refine HC.out.mono ?_;rintro e w1 ⟨rfl,b,hb⟩;have b4:w1.cell? ⟨ga,1,none⟩=some (.int .i64 b.ph):=Blk.cell (hR w1 b hb) 1;replace hb:=Hd hb;clear a4 HC;go_wp2_with (go_quiet (fail));go_ret;exact⟨b,rfl,hb.out⟩
theorem ZfJ (ga gh:Nat)(a:HAct)(w:World)(A:ZF w ga gh a)(h:a.ph=8)(R:World->HAct->Prop)(hR:∀ W b,R W b->ZF W ga gh b)(HC:Calls Tryz.prog 286 #[.pointer (some ⟨ga,0,none⟩)] w fun e w'=>e=.returned (.tuple #[])/\∃ b,R w' b) :
  Calls Tryz.prog 230 #[.pointer (some ⟨ga,0,none⟩)] w fun e w'=>∃ b,e=.returned (.bool (b.ph==15))/\R w' b:=by
 have a4:w.cell? ⟨ga,1,none⟩=some (.int .i64 8):=(Blk.cell A 1).trans (by simp[HAct.cells,h]);replace HC:=Hd HC;clear A h;go_enter Tryz.func230,Tryz.ntmps230;go_wp2_with (go_quiet (fail));refine HC.out.mono ?_;rintro e w1 ⟨rfl,b,hb⟩;have b4:w1.cell? ⟨ga,1,none⟩=some (.int .i64 b.ph):=Blk.cell (hR w1 b hb) 1;replace hb:=Hd hb;clear a4 HC;go_wp2_with (go_quiet (fail));go_ret;exact⟨b,rfl,hb.out⟩
theorem ZfK (ga gh:Nat)(a:HAct)(w:World)(A:ZF w ga gh a)(h:a.ph=9)(R:World->HAct->Prop)(hR:∀ W b,R W b->ZF W ga gh b)(HC:Calls Tryz.prog 287 #[.pointer (some ⟨ga,0,none⟩)] w fun e w'=>e=.returned (.tuple #[])/\∃ b,R w' b) :
  Calls Tryz.prog 230 #[.pointer (some ⟨ga,0,none⟩)] w fun e w'=>∃ b,e=.returned (.bool (b.ph==15))/\R w' b:=by
 have a4:w.cell? ⟨ga,1,none⟩=some (.int .i64 9):=(Blk.cell A 1).trans (by simp[HAct.cells,h]);replace HC:=Hd HC;clear A h;go_enter Tryz.func230,Tryz.ntmps230;go_wp2_with (go_quiet (fail));refine HC.out.mono ?_;rintro e w1 ⟨rfl,b,hb⟩;have b4:w1.cell? ⟨ga,1,none⟩=some (.int .i64 b.ph):=Blk.cell (hR w1 b hb) 1;replace hb:=Hd hb;clear a4 HC;go_wp2_with (go_quiet (fail));go_ret;exact⟨b,rfl,hb.out⟩
def HRuns (ga:Nat)(Q:World->Prop) : Nat->World->Prop
 | 0,_=>False
 | f+1,w=>∀ W,Ext w W->Calls Tryz.prog 230 #[.pointer (some ⟨ga,0,none⟩)] W fun e w'=>(e=.returned (.bool true)/\Q w')\/(e=.returned (.bool false)/\HRuns ga Q f w')
theorem HRuns.ext {ga:Nat}{Q:World->Prop}{f:Nat}{w w':World}(h:HRuns ga Q f w)(x:Ext w w') : HRuns ga Q f w':=by
 cases f with
 | zero=>exact h
 | succ f=>exact fun W X=>h W (x.tr X)
theorem HRuns.of {ga gh:Nat}{Q:World->Prop}{f:Nat}{w:World}{R:World->HAct->Prop}(C:∀ W,Ext w W->Calls Tryz.prog 230 #[.pointer (some ⟨ga,0,none⟩)] W fun e w'=>∃ b,e=.returned (.bool (b.ph==15))/\R w' b)(K:∀ w' b,R w' b->if b.ph=15 then Q w' else HRuns ga Q f w') : HRuns ga Q (f+1) w:=fun W X=>by
 refine(C W X).mono ?_;rintro e w' ⟨b,rfl,hb⟩;have:=K w' b hb
 by_cases h:b.ph=15
 ·rw[if_pos h] at this
  exact .inl ⟨by simp[h],this⟩
 ·rw[if_neg h] at this
  exact .inr ⟨by simp[h],this⟩
theorem Zhi {ga gh:Nat}{Q:World->Prop}{f:Nat}{w:World}{a:HAct}(A:ZF w ga gh a)(h:a.ph=0)(R:World->HAct->Prop)(hR:∀ W b,R W b->ZF W ga gh b)(C:∀ W,Ext w W->Calls Tryz.prog 278 #[.pointer (some ⟨ga,0,none⟩)] W fun e w'=>e=.returned (.tuple #[])/\∃ b,R w' b)(K:∀ w' b,R w' b->if b.ph=15 then Q w' else HRuns ga Q f w') : HRuns ga Q (f+1) w :=
 HRuns.of (gh:=gh) (fun W X=>ZfC ga gh a W (Blk.ext A X) h R hR (C W X)) K
theorem ZgZ {ga gh:Nat}{Q:World->Prop}{f:Nat}{w:World}{a:HAct}(A:ZF w ga gh a)(h:a.ph=1)(R:World->HAct->Prop)(hR:∀ W b,R W b->ZF W ga gh b)(C:∀ W,Ext w W->Calls Tryz.prog 279 #[.pointer (some ⟨ga,0,none⟩)] W fun e w'=>e=.returned (.tuple #[])/\∃ b,R w' b)(K:∀ w' b,R w' b->if b.ph=15 then Q w' else HRuns ga Q f w') : HRuns ga Q (f+1) w :=
 HRuns.of (gh:=gh) (fun W X=>ZfD ga gh a W (Blk.ext A X) h R hR (C W X)) K
theorem Zhj {ga gh:Nat}{Q:World->Prop}{f:Nat}{w:World}{a:HAct}(A:ZF w ga gh a)(h:a.ph=2)(R:World->HAct->Prop)(hR:∀ W b,R W b->ZF W ga gh b)(C:∀ W,Ext w W->Calls Tryz.prog 280 #[.pointer (some ⟨ga,0,none⟩)] W fun e w'=>e=.returned (.tuple #[])/\∃ b,R w' b)(K:∀ w' b,R w' b->if b.ph=15 then Q w' else HRuns ga Q f w') : HRuns ga Q (f+1) w :=
 HRuns.of (gh:=gh) (fun W X=>ZfE ga gh a W (Blk.ext A X) h R hR (C W X)) K
theorem Zhk {ga gh:Nat}{Q:World->Prop}{f:Nat}{w:World}{a:HAct}(A:ZF w ga gh a)(h:a.ph=3)(R:World->HAct->Prop)(hR:∀ W b,R W b->ZF W ga gh b)(C:∀ W,Ext w W->Calls Tryz.prog 281 #[.pointer (some ⟨ga,0,none⟩)] W fun e w'=>e=.returned (.tuple #[])/\∃ b,R w' b)(K:∀ w' b,R w' b->if b.ph=15 then Q w' else HRuns ga Q f w') : HRuns ga Q (f+1) w :=
 HRuns.of (gh:=gh) (fun W X=>ZfF ga gh a W (Blk.ext A X) h R hR (C W X)) K
def VM (x n:Int) : Int:=(IntKind.u64.wrap x).tmod n
theorem ZbL (x:Int) : 0<=IntKind.u64.wrap x:=by
 simp only[IntKind.wrap,IntKind.signed,IntKind.bits,Bool.false_and];exact Int.emod_nonneg _ (by decide)
theorem ZcB {x n:Int}(hn:1<=n) : 0<=VM x n/\VM x n<n:=by
 unfold VM;rw[Int.tmod_eq_emod_of_nonneg (ZbL x)];exact⟨Int.emod_nonneg _ (by omega),Int.emod_lt_of_pos _ (by omega)⟩
theorem Zgz {x:Int}(h0:0<=x)(h1:x<=9223372036854775807) : IntKind.u64.wrap x=x:=by
 simp only[IntKind.wrap,IntKind.signed,IntKind.bits,Bool.false_and];exact Int.emod_eq_of_lt h0 (by omega)
abbrev It := Int×Int
abbrev Ls := List (List It)
def WL : Nat->Nat->List Nat
 | 0,_=>[]
 | f+1,i=>if i=0 then [] else i::WL f (i / 2)
def Xg (leaf:Nat) : List Nat:=(WL (leaf+1) leaf).reverse
section
variable {w w':World} {E SE:TypeId} {h:Nat} {ls:Ls}
end
end
section
theorem ZbM (x n:Int)(w:World)(hn:1<=n/\n<=9223372036854775807) :
  Calls Tryz.prog 294 #[.int .i64 x,.int .i64 n] w fun e w'=>e=.returned (.int .i64 (VM x n))/\w=w':=by
 have hb:=ZcB (x:=x) hn.1;unfold VM;unfold VM at hb;go_enter Tryz.func294,Tryz.ntmps294;go_wp2;go_ret;exact⟨rfl,rfl⟩
def RevTo (xs ys:List Int)(i:Nat) : Prop:=ys.length=xs.length/\∀ k,k<xs.length->ys[k]?=if k<i\/xs.length-i<=k then xs[xs.length-1-k]? else xs[k]?
theorem RevTo.start (xs:List Int) : RevTo xs xs 0:=⟨rfl,fun k hk=>by rw[if_neg (by omega)]⟩
theorem RevTo.step {xs ys:List Int}{i:Nat}{x y:Int}(h:RevTo xs ys i)(hi:i+i+1<xs.length)(hx:ys[i]?=some x)(hy:ys[xs.length-1-i]?=some y) : RevTo xs ((ys.set i y).set (xs.length-1-i) x) (i+1):=by
 obtain⟨h1,h2⟩:=h;have ei:=h2 i (by omega);have ej:=h2 (xs.length-1-i) (by omega);rw[if_neg (by omega),hx] at ei;rw[if_neg (by omega),hy] at ej;refine⟨by simpa using h1,fun k hk=>?_⟩
 by_cases hkj:xs.length-1-i=k
 ·subst hkj
  rw[List.getElem?_set_self (by simp;omega),if_pos (by omega),show xs.length-1-(xs.length-1-i)=i by omega,<-ei]
 ·rw[List.getElem?_set_ne hkj]
  by_cases hki:i=k
  ·subst hki
   rw[List.getElem?_set_self (by omega),if_pos (by omega),<-ej]
  ·rw[List.getElem?_set_ne hki,h2 k hk]
   by_cases hc:k<i\/xs.length-i<=k
   ·rw[if_pos hc,if_pos (by omega)]
   ·rw[if_neg hc,if_neg (by omega)]
theorem RevTo.done {xs ys:List Int}{i:Nat}(h:RevTo xs ys i)(hi:xs.length<=i+i+1) : ys=xs.reverse:=by
 obtain⟨h1,h2⟩:=h;apply List.ext_getElem?;intro k
 by_cases hk:k<xs.length
 ·rw[h2 k hk,List.getElem?_reverse hk]
  split
  ·rfl
  ·rw[show xs.length-1-k=k by omega]
 ·rw[List.getElem?_eq_none (by omega),List.getElem?_eq_none (by simp;omega)]
theorem ZaD (A:Option Addr)(c base:Nat)(xs:List Int)(w:World)(h:OwI w base A c xs)(hl:xs.length<=2^44) :
  Calls Tryz.prog 317 #[.slice A xs.length c] w fun e w'=>e=.returned (.tuple #[])/\OwI w' base A c xs.reverse/\Mod (fun k=>bl A=some k) w w':=by
 go_enter Tryz.func317,Tryz.ntmps317;go_wp2_with fail;go_loopw [2,3] (fun i j wr=>∃ (k:Nat) (ys:List Int),i=.int .i64 k/\j=.int .i64 ((xs.length:Int)-1-k)/\k+k<=xs.length/\RevTo xs ys k/\OwI wr base A c ys/\Mod (fun k=>bl A=some k) w wr) (fun i _ _=>xs.length-(intOf i).toNat)
 case atStart=>exact⟨0,xs,rfl,by simp,by omega,RevTo.start _,h,Mod.rf _⟩
 case round =>
  obtain⟨k,ys,rfl,rfl,hk,hr,ho,hm⟩:=hrel
  by_cases hlt:k+k+1<xs.length
  ·have hly:ys.length=xs.length:=hr.1
   obtain⟨g,x,rfl,hg,hgl,hc1,hf1,hx,hs1⟩:=ho.at (k:=k) (by omega);obtain⟨y,hc2,hf2,_,hy,_⟩:=ho.cell (k:=xs.length-1-k) (by omega);obtain⟨_,_,_,_,_,hs2⟩:=(hs1.out y).cell (k:=xs.length-1-k) (by rw[List.length_set];omega);have hr2:=Hd (hr.step hlt hx.out hy.out);replace hly:=Hd hly;replace hr:=Hd hr;replace ho:=Hd ho;have hlt':(k:Int)<(xs.length:Int)-1-k:=by omega
   have hej:(xs.length:Int)-1-(k:Int)=((xs.length-1-k:Nat):Int):=by omega
   rw[hej] at hlt' ⊢;generalize hj:xs.length-1-k=j at *;have hkj:k<j:=by omega
   have hjl:j<xs.length:=by omega
   replace hj:=Hd hj;replace hej:=Hd hej;go_wp2_with (go_region);go_roundw
   case rel=>exact⟨k+1,_,by go_num,by congr 1;have:=hej.out;omega,by omega,hr2.out,(hs2.out x).ext ((Ext.rf _).drew),((hm.set (p:=⟨g,k,none⟩) (.inl rfl) _).set (p:=⟨g,j,none⟩) (.inl rfl) _).drew⟩
   case measure=>simp[intOf];omega
  ·have hle:¬(k:Int)<(xs.length:Int)-1-k:=by omega
   go_wp2;go_end0;exact⟨rfl,by have:=hr.done (by omega);rw[<-this];exact ho,hm⟩
def ints (l:List Nat) : List Int:=l.map (fun(i:Nat)=>(i:Int))
theorem XN (l:List Nat) : (ints l).length=l.length:=by simp[ints]
theorem Js (f i:Nat)(hi:0<i) : WL (f+1) i=i::WL f (i / 2):=by rw[WL,if_neg (by omega)]
theorem Zdh (f:Nat) : WL f 0=[]:=by cases f<;>simp[WL]
theorem ZaE : ∀ (f i:Nat),(WL f i).length<=i
 | 0,_=>by simp[WL]
 | f+1,i=>by
  by_cases hi:i=0
  ·simp[WL,hi]
  ·rw[WL,if_neg hi,List.length_cons]
   have:=ZaE f (i / 2);omega
theorem ZaF {l:List Nat}{k:Nat}(hk:k<l.length) : (ints l)[k]?=some ((l.getD k 0:Nat):Int):=by
 simp[ints,List.getD,hk]
def cnt (a:It)(ls:Ls) : Nat:=(ls.map (List.count a)).sum
theorem OwI.grownT {w w':World}{base:Nat}{A:Option Addr}{c:Nat}{xs:List Int}(h:OwI w base A c xs)(hg:w.grownBy w' (bl A)) : ModT base [3] w w':=by
 refine Mod.grown hg fun g hA=>?_
 rcases h.cases with⟨rfl,_,_⟩ | ⟨g',cur,rfl,hb,hh,_⟩
 ·simp[bl] at hA
 ·simp[bl] at hA
  subst hA;exact⟨hb,cur,_,hh,by simp⟩
end
end Go.Proofs.YtocfmioihaefoaaGreatDoor
