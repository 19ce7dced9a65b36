/- packed and squeezed by programs (see wip/) -/
import Derived.Test.YtmojhhlcocjoaaaGreatDoorShowLinesP2
import Derived.Sort.BigQuietIn
import Derived.Deep.QuietTactic
import Derived.BigQuiet
set_option maxRecDepth 100000
set_option maxHeartbeats 16000000
set_option linter.unusedVariables false
set_option linter.unusedSimpArgs false
namespace Go.Proofs.YtmojhhlcocjoaaaGreatDoor
open Go.RowKit Go.ChangeShapes Go.WideShapes Go.ChangeAt Go.Deep
section
variable {ops:Array Oper} {i:Nat} {t:TypeId} {d:Option Tmp} {a:Act} {w:World} {K:Act->World->Prop} {Q:Exit->Act->World->Prop}
theorem Zbv {x y:Operand}(hi:W5 ops i=some (none,.makeSlice 22 x y,t,d))(base n:Nat)(L:Int)(hx:a.eval x=.int .i64 L)(hy:a.eval y=.int .i64 L)(hL:L=(n:Int))(hn:n<=2^44)(hb:base<=w.heap.size)
  (hK:∀ w',OwI w' base (some ⟨w.heap.size,0,none⟩) n (List.replicate n 0)->w.grownBy w' none->K (a.put d (.slice (some ⟨w.heap.size,0,none⟩) n n)) w'):wpOp Tryz.prog ops Q i K a w:=by
 obtain⟨i0,hi0,hz0,hz1,hz2⟩:=info_parts YF;subst hL;obtain⟨w',hrun,h2,h3⟩:=run_make_full (P:=Tryz.prog) w base 22 3 i0 _ 1 Tryz.underlying22 hi0 hz0 hz1 .i64 .i64 n (by rw[hz2];omega) (by simp only[maxLen];omega) hb;refine Zz hi _ (by simp[Zd,execOp,hx,hy,hrun]) (hK w' ?_ h3);have e:(madeCells (Value.int .i64 0).cells (n*1)).toList=(List.replicate n (0:Int)).map (Value.int .i64):=by
  simp[madeCells,Value.cells,List.map_const',Nat.mod_one]
 rw[e] at h2
 simpa [OwI] using h2
end
def KernB (w:World)(base g:Nat)(cap:Int)(l:List Nat)(ws vs bs:List Int) : Prop :=
 ∃ (PA:Option Addr) (pc:Nat) (WA:Option Addr) (wc:Nat) (VA:Option Addr) (vc:Nat) (HA:Option Addr) (hc:Nat),
  Blk w g 119 #[.int .i64 cap,.slice PA l.length pc,.slice WA ws.length wc,.slice VA vs.length vc,.slice HA bs.length hc]/\base<=g /\
  (RdI w PA (nl l)/\∀ k,bl PA=some k->base<=k)/\(RdI w WA ws/\∀ k,bl WA=some k->base<=k)/\(RdI w VA vs/\∀ k,bl VA=some k->base<=k)/\(RdI w HA bs/\∀ k,bl HA=some k->base<=k)
theorem KernB.ext {w w':World}{base g:Nat}{cap:Int}{l:List Nat}{ws vs bs:List Int}(h:KernB w base g cap l ws vs bs)(x:Ext w w') : KernB w' base g cap l ws vs bs:=by
 obtain⟨PA,pc,WA,wc,VA,vc,HA,hc,h1,h2,h3,h4,h5,h6⟩:=h;exact⟨PA,pc,WA,wc,VA,vc,HA,hc,h1.ext x,h2,⟨h3.1.ext x,h3.2⟩,⟨h4.1.ext x,h4.2⟩,⟨h5.1.ext x,h5.2⟩,⟨h6.1.ext x,h6.2⟩⟩
theorem RdI.mod {S:Nat->Prop}{w w':World}{A:Option Addr}{xs:List Int}(h:RdI w A xs)(k:Mod S w w')(hb:∀ b,bl A=some b->¬S b) : RdI w' A xs:=by
 rcases h with rfl | ⟨b,off,rfl,hlt,hc⟩
 ·exact .inl rfl
 ·refine .inr ⟨b,off,rfl,Nat.lt_of_lt_of_le hlt k.size,fun j x hj=>?_⟩
  rw[<-hc j x hj];exact World.cell?_of_block (k.block b hlt (hb b rfl))
theorem KernB.mod {S:Nat->Prop}{w w':World}{base g:Nat}{cap:Int}{l:List Nat}{ws vs bs:List Int}(h:KernB w base g cap l ws vs bs)(x:Mod S w w')(hS:∀ k,base<=k->¬S k) : KernB w' base g cap l ws vs bs:=by
 obtain⟨PA,pc,WA,wc,VA,vc,HA,hc,h1,h2,h3,h4,h5,h6⟩:=h;exact⟨PA,pc,WA,wc,VA,vc,HA,hc,h1.mod x (hS _ h2),h2,⟨h3.1.mod x fun b hb=>hS _ (h3.2 b hb),h3.2⟩,⟨h4.1.mod x fun b hb=>hS _ (h4.2 b hb),h4.2⟩,⟨h5.1.mod x fun b hb=>hS _ (h5.2 b hb),h5.2⟩,⟨h6.1.mod x fun b hb=>hS _ (h6.2 b hb),h6.2⟩⟩
def Dis (A B:Option Addr) : Prop:=∀ k,bl A=some k->bl B≠some k
theorem Dis.symm {A B:Option Addr}(h:Dis A B) : Dis B A:=fun k hk hA=>h k hA hk
theorem Dis.none (B:Option Addr) : Dis none B:=fun k hk=>by simp[bl] at hk
def Fill (w:World)(base g:Nat)(cap:Int)(PA:Option Addr)(pn pc:Nat)(ws vs bs:List Int) : Prop :=
 ∃ (WA:Option Addr) (wc:Nat) (VA:Option Addr) (vc:Nat) (HA:Option Addr) (hc:Nat),
  Blk w g 119 #[.int .i64 cap,.slice PA pn pc,.slice WA ws.length wc,.slice VA vs.length vc,.slice HA bs.length hc]/\base<=g /\
  OwI w base WA wc ws/\OwI w base VA vc vs/\OwI w base HA hc bs/\Dis WA VA/\Dis WA HA/\Dis VA HA
theorem U6 {w w':World}{base:Nat}{A:Option Addr}{c:Nat}{xs:List Int}(h:OwI w base A c xs)(hg:w.grownBy w' (bl A)) : Mod (fun k=>bl A=some k) w w':=Mod.grown hg fun g hA=>hA
theorem Dis.after {w:World}{base:Nat}{A A' B:Option Addr}{c:Nat}{ys:List Int}(h:Dis A B)(hB:OwI w base B c ys)(hA:bl A'=bl A\/∃ g,bl A'=some g/\w.heap.size<=g) : Dis A' B:=by
 intro k hk hb;rcases hA with hA | ⟨g,hg,hlt⟩
 ·exact h k (hA ▸ hk) hb
 ·rw[hk] at hg
  obtain rfl:=Option.some.inj hg;have:=(hB.lt k hb).2;omega
theorem Fill.ext {w w':World}{base g:Nat}{cap:Int}{PA:Option Addr}{pn pc:Nat}{ws vs bs:List Int}(h:Fill w base g cap PA pn pc ws vs bs)(x:Ext w w') : Fill w' base g cap PA pn pc ws vs bs:=by
 obtain⟨WA,wc,VA,vc,HA,hc,h1,h2,h3,h4,h5,h6⟩:=h;exact⟨WA,wc,VA,vc,HA,hc,h1.ext x,h2,h3.ext x,h4.ext x,h5.ext x,h6⟩
end Go.Proofs.YtmojhhlcocjoaaaGreatDoor
namespace Go.Proofs.YtmojhhlcocjoaaaGreatDoor
open Go.RowKit Go.ChangeShapes Go.WideShapes Go.ChangeAt Go.Deep
section
variable {w w2:World} {base g pn pc wc vc hc c':Nat} {cap x:Int} {PA WA VA HA A':Option Addr} {ws vs bs:List Int}
theorem ZdG (hB:Blk w g 119 #[.int .i64 cap,.slice PA pn pc,.slice WA ws.length wc,.slice VA vs.length vc,.slice HA bs.length hc])(hg:base<=g)
  (hW:OwI w base WA wc ws) (hV:OwI w base VA vc vs) (hH:OwI w base HA hc bs) (d1:Dis WA VA) (d2:Dis WA HA) (d3:Dis VA HA)
  (hgr:w.grownBy w2 (bl WA)) (o2:OwI w2 base A' c' (ws++[x])) (alt:bl A'=bl WA\/∃ g,bl A'=some g/\w.heap.size<=g) :
  Blk w2 g 119 #[.int .i64 cap,.slice PA pn pc,.slice WA ws.length wc,.slice VA vs.length vc,.slice HA bs.length hc] /\
  Fill (w2.setCell ⟨g,2,none⟩ (.slice A' (ws.length+1) c')) base g cap PA pn pc (ws++[x]) vs bs:=by
 have M:Mod (fun k=>bl WA=some k) w w2:=U6 hW hgr;have hB2:=hB.mod M fun h=>hW.ne hB (by decide) g h rfl
 have hV2:=hV.mod M fun k hk h=>d1 k h hk
 have hH2:=hH.mod M fun k hk h=>d2 k h hk
 refine⟨hB2,A',c',VA,vc,HA,hc,?_,hg,o2.far hB2 (by decide) 2 _,hV2.far hB2 (by decide) 2 _,hH2.far hB2 (by decide) 2 _,d1.after hV alt,d2.after hH alt,d3⟩;rw[List.length_append];exact hB2.set 2 _
theorem ZdH (hB:Blk w g 119 #[.int .i64 cap,.slice PA pn pc,.slice WA ws.length wc,.slice VA vs.length vc,.slice HA bs.length hc])(hg:base<=g)
  (hW:OwI w base WA wc ws) (hV:OwI w base VA vc vs) (hH:OwI w base HA hc bs) (d1:Dis WA VA) (d2:Dis WA HA) (d3:Dis VA HA)
  (hgr:w.grownBy w2 (bl VA)) (o2:OwI w2 base A' c' (vs++[x])) (alt:bl A'=bl VA\/∃ g,bl A'=some g/\w.heap.size<=g) :
  Blk w2 g 119 #[.int .i64 cap,.slice PA pn pc,.slice WA ws.length wc,.slice VA vs.length vc,.slice HA bs.length hc] /\
  Fill (w2.setCell ⟨g,3,none⟩ (.slice A' (vs.length+1) c')) base g cap PA pn pc ws (vs++[x]) bs:=by
 have M:Mod (fun k=>bl VA=some k) w w2:=U6 hV hgr;have hB2:=hB.mod M fun h=>hV.ne hB (by decide) g h rfl
 have hW2:=hW.mod M fun k hk h=>d1.symm k h hk
 have hH2:=hH.mod M fun k hk h=>d3 k h hk
 refine⟨hB2,WA,wc,A',c',HA,hc,?_,hg,hW2.far hB2 (by decide) 3 _,o2.far hB2 (by decide) 3 _,hH2.far hB2 (by decide) 3 _,(d1.symm.after hW alt).symm,d2,d3.after hH alt⟩;rw[List.length_append];exact hB2.set 3 _
end
theorem ZdI {w:World}{base g pn pc wc vc hc hb k:Nat}{cap y:Int}{PA WA VA:Option Addr}{ws vs bs:List Int}(hB:Blk w g 119 #[.int .i64 cap,.slice PA pn pc,.slice WA ws.length wc,.slice VA vs.length vc,.slice (some ⟨hb,0,none⟩) bs.length hc])(hg:base<=g)
  (hW:OwI w base WA wc ws) (hV:OwI w base VA vc vs) (hH:OwI w base (some ⟨hb,0,none⟩) hc bs) (d1:Dis WA VA) (d2:Dis WA (some ⟨hb,0,none⟩)) (d3:Dis VA (some ⟨hb,0,none⟩))
  (hs:OwI (w.setCell ⟨hb,k,none⟩ (.int .i64 y)) base (some ⟨hb,0,none⟩) hc (bs.set k y)) :
  Fill (w.setCell ⟨hb,k,none⟩ (.int .i64 y)) base g cap PA pn pc ws vs (bs.set k y):=by
 have M:Mod (fun q=>q=hb) w (w.setCell ⟨hb,k,none⟩ (.int .i64 y)):=Mod.set (S:=fun q=>q=hb) (p:=⟨hb,k,none⟩) (Mod.rf w) (.inl rfl) _;have hne:¬g=hb:=fun h=>hH.ne hB (by decide) hb rfl h.symm
 refine⟨WA,wc,VA,vc,_,hc,?_,hg,hW.mod M fun q hq h=>d2 q hq (by subst h;rfl),hV.mod M fun q hq h=>d3 q hq (by subst h;rfl),hs,d1,d2,d3⟩;rw[List.length_set];exact hB.mod M hne
def Yv (vs:List Int)(k:Nat) : List Int:=(List.range (vs.length+1)).map fun i=>if i<k then 0 else Zi (vs.drop i)
theorem XQ (vs:List Int)(k:Nat) : (Yv vs k).length=vs.length+1:=by simp[Yv]
theorem Zao (vs:List Int) : Yv vs vs.length=List.replicate (vs.length+1) 0:=by
 refine List.ext_getElem (by simp[Yv]) fun i h1 h2=>?_
 simp only[Yv,List.getElem_map,List.getElem_range,List.getElem_replicate];split
 ·rfl
 ·rw[List.drop_of_length_le (by omega)];rfl
theorem QK {vs:List Int}{k i:Nat}(hi:i<=vs.length)(hk:k<=i) : (Yv vs k)[i]?=some (Zi (vs.drop i)):=by
 unfold Yv;rw[List.getElem?_map,List.getElem?_range (by omega)];simp[show ¬i<k by omega]
theorem Zbw {vs:List Int}{k:Nat}{v:Int}(hv:vs[k]?=some v) : (Yv vs (k+1)).set k (Zi (vs.drop (k+1))+v)=Yv vs k:=by
 obtain⟨hk,hv⟩:=List.getElem?_eq_some_iff.1 hv;refine List.ext_getElem (by simp[Yv]) fun i h1 h2=>?_
 rw[List.getElem_set];simp only[Yv,List.getElem_map,List.getElem_range]
 by_cases h:k=i
 ·subst h
  rw[if_pos rfl,if_neg (by omega),List.drop_eq_getElem_cons hk,hv];simp only[Zi];omega
 ·rw[if_neg h]
  by_cases h3:i<k
  ·rw[if_pos (by omega),if_pos h3]
  ·rw[if_neg (by omega),if_neg h3]
theorem UC {vs:List Int}(h:Small31 vs)(k:Nat) : 0<=Zi (vs.drop k)/\Zi (vs.drop k)<=2147483647*vs.length:=by
 have key:∀ l:List Int,(∀ x∈l,0<=x/\x<=2147483647)->0<=Zi l/\Zi l<=2147483647*l.length:=by
  intro l
  induction l with
  | nil=>intro _;simp[Zi]
  | cons x l ih =>
   intro hl;have h1:=hl x (by simp);have h2:=ih fun y hy=>hl y (by simp[hy])
   simp only[Zi,List.length_cons,Int.natCast_add,Int.natCast_one];omega
 have h1:=key (vs.drop k) fun x hx=>h x (List.mem_of_mem_drop hx)
 have h2:(vs.drop k).length<=vs.length:=by simp
 omega
theorem Z5 (l:List Nat)(v:List Int) : (Zp l v).length=l.length:=by simp[Zp]
theorem Vy {l:List Nat}{k n:Nat}{v:List Int}{x:Int}(h:l[k]?=some n)(hx:v[n]?=some x) : Zp (l.take (k+1)) v=Zp (l.take k) v++[x]:=by
 obtain⟨hk,h⟩:=List.getElem?_eq_some_iff.1 h;unfold Zp;rw[List.take_succ_eq_append_getElem hk,List.map_append,h];simp[List.getD,hx]
theorem XG {l:List Nat}{k n:Nat}{v:List Int}{x:Int}(h:l[k]?=some n)(hx:v[n]?=some x) : (Zp l v)[k]?=some x:=by
 unfold Zp;rw[List.getElem?_map,h];simp[List.getD,hx]
end Go.Proofs.YtmojhhlcocjoaaaGreatDoor
namespace Go.Proofs.YtmojhhlcocjoaaaGreatDoor
open Go.RowKit Go.ChangeShapes Go.WideShapes Go.ChangeAt Go.Deep
def Za5 (i:InstP)(w:World)(e:Ending)(w':World) : Prop :=
 ∃ g,e=.returned (.tuple #[.pointer (some ⟨g,0,none⟩),.int .i64 0])/\KernB w' w.heap.size g i.cap (ZB i.value i.weight) (Zp (ZB i.value i.weight) i.weight) (Zp (ZB i.value i.weight) i.value) (Yv (Zp (ZB i.value i.weight) i.value) 0)/\Ext w w'
theorem Zde (i:InstP)(vs:List Value)(w:World)(H:RInst w vs i)(hc:Zn i=0)(hk:i.kind=1) :
  Calls Tryz.prog 36 #[.agg (List.toArray vs)] w (Za5 i w):=by
 have ok:=YL hc hk;have C:=fun(W:World) (x:Ext w W)=>ZT i vs W (H.ext x) (by have:=ok.w;have:=ok.n2;omega) (by have:=ok.v;have:=ok.n2;omega)
 simp only[hc] at C;obtain⟨kind,nn,cap,xw,xv,co⟩:=i;obtain⟨n1,n2,okw,okv,okc,sw,sv,oke⟩:=ok;simp only at *;obtain⟨A,a,B,b,D,d,rfl,⟨rA,iA,lA,mA⟩,⟨rB,iB,lB,mB⟩,-⟩:=H;simp only at *;subst hk oke;obtain⟨n,rfl⟩:∃ n:Nat,nn=(n:Int):=⟨nn.toNat,by omega⟩;have lw:Hid (xw.length=n):=by(have h:xw.length=n:=by omega);exact h
 have lv:Hid (xv.length=n):=by(have h:xv.length=n:=by omega);exact h
 clear okw okv hc;obtain⟨bd1,bd2⟩:1<=n/\n<=64:=by omega
 have R:=fun(W:World) (x:Ext w W)=>Zbu B A b a xv xw W (rB.ext x) (rA.ext x) (by rw[lv.out,lw.out]) (by rw[lv.out];omega) sv sw
 have RL:Hid ((ZB xv xw).length=n):=Hd (by rw[Yy,lv.out]);have RM:Hid (∀ k q,(ZB xv xw)[k]?=some q->q<n):=fun k q h=>by have:=WZ h;rw[lv.out] at this;exact this
 have HI:Hid (∃ l,l=ZB xv xw):=⟨_,rfl⟩;obtain⟨l,hl⟩:=HI.out;rw[<-hl] at RL RM;simp only[<-hl] at R;replace hl:=Hd hl;replace C:=Hd C;replace R:=Hd R;replace rA:=Hd rA;replace rB:=Hd rB;replace iA:=Hd iA;replace iB:=Hd iB;replace mA:=Hd mA;replace mB:=Hd mB;replace sw:=Hd sw;replace sv:=Hd sv;have B1:Hid (Blk (w.alloc (.cells #[.int .i64 1,.int .i64 n,.int .i64 cap,.slice A xw.length a,.slice B xv.length b,.slice D 0 d] 25)) w.heap.size 25 #[.int .i64 1,.int .i64 n,.int .i64 cap,.slice A xw.length a,.slice B xv.length b,.slice D 0 d]):=.new rfl;clear HI;go_enter Tryz.func36,Tryz.ntmps36;go_wp2_with (fail);refine(C.out _ (by(repeat (first | assumption | exact Ext.rf _ | apply Ext.drew | apply Ext.drewN | apply Ext.alloc)))).mono ?_;rintro e w2 ⟨rfl,x2⟩;have X2:=Hd (Ext.tr (a:=w) (by(repeat (first | assumption | exact Ext.rf _ | apply Ext.drew | apply Ext.drewN | apply Ext.alloc))) x2);have B2:=Hd (B1.out.ext x2);have c0:=B2.out.c0;have c3:=B2.out.c3;have c4:=B2.out.c4;clear x2;go_wp2_with (fail);refine(R.out _ X2.out).mono ?_;rintro e w3 ⟨PA,pc,rfl,rP,lP,mP,x3,bP⟩;have X3:=Hd (X2.out.tr x3);have B3:=Hd (B2.out.ext x3);replace rP:=Hd rP;have bP':Hid (∀ k,bl PA=some k->w.heap.size<=k):=fun k hk=>Nat.le_trans X2.out.size (bP k hk)
 clear c0 c3 c4 x3 bP;go_wp2_with (fail);have k1:=B3.out.c1;have k2:=B3.out.c2;have zb:=B3.out.lt;refine wp_region_any (by kernel_rfl) ?_
 change wpAny _ _ _ _ _ _ _ (World.drew _)
 refine Zc (i:=0) (op:=Op.fieldAddr 25 (Operand.tmp 1) 2) (t:=0) (d:=some 30) (v:=?_) rfl (by decide +kernel) (by decide +kernel) (by decide +kernel) (fun _ _ _ h=>h) ?_ ?_
 case refine_2=>(intro _;unfold Zd;go_simp;try with_reducible rfl)
 try simp only[lay]
 refine Zc (i:=2) (op:=Op.move (Operand.tmp 5)) (t:=22) (d:=some 32) (v:=?_) rfl (by decide +kernel) (by decide +kernel) (by decide +kernel) (fun _ _ _ h=>h) ?_ ?_
 case refine_2=>(intro _;unfold Zd;go_simp;try with_reducible rfl)
 try simp only[lay]
 refine Zc (i:=3) (op:=Op.fieldAddr 25 (Operand.tmp 1) 1) (t:=0) (d:=some 33) (v:=?_) rfl (by decide +kernel) (by decide +kernel) (by decide +kernel) (fun _ _ _ h=>h) ?_ ?_
 case refine_2=>(intro _;unfold Zd;go_simp;try with_reducible rfl)
 try simp only[lay]
 refine Zv (n:=3) [(1,some 31),(4,some 34),(5,some 35),(6,some 36)] (Ext w3)
  (VF (fun | 1=>some (.int .i64 cap) | 4=>some (.int .i64 n) | 5=>some (.int .i64 ((n:Int)+1)) | _=>none)
   (fun j v W=>j=6->∃ h,v=.slice (some ⟨h,0,none⟩) (n+1) (n+1)/\OwI W w3.heap.size (some ⟨h,0,none⟩) (n+1) (List.replicate (n+1) 0)))
  Ext #[true,true,true,true,true,true,true,false,false,false] (by kernel_rfl) (VF.stab ?_) ?_ ?_ ((Ext.rf _).drew)
 ·intro j v W W' _ g6 hx h
  obtain⟨h,q1,q2⟩:=g6 h;exact⟨h,q1,q2.ext hx⟩
 ·intro pq hpm u W hRW hD K hK
  have r1:=Ze hRW zb k1;have r2:=Ze hRW zb k2;have z2:=hRW.size;simp only[List.mem_cons,List.not_mem_nil,or_false] at hpm;rcases hpm with rfl | rfl | rfl | rfl
  ·exact Zr (T:=3) rfl (.pointer (some ⟨w.heap.size,2,none⟩)) (by kernel_rfl) (.int .i64 cap) (by go_simp) (hK _ _ (VF.mk rfl) hRW (Ext.rf _))
  ·exact Zr (T:=3) rfl (.pointer (some ⟨w.heap.size,1,none⟩)) (by kernel_rfl) (.int .i64 n) (by go_simp) (hK _ _ (VF.mk rfl) hRW (Ext.rf _))
  ·have h4:=(hD 4 (Zf (by kernel_rfl))).k rfl
   exact Zz rfl (.int .i64 ((n:Int)+1)) (by simp only[Zj,h4];unfold Zd;go_simp;exact IntWalk.i64_in _ (by omega)) (hK _ _ (VF.mk rfl) hRW (Ext.rf _))
  ·have h5:=(hD 5 (Zf (by kernel_rfl))).k rfl
   refine Zbv rfl w3.heap.size (n+1) ((n:Int)+1) (Eq.trans (b:=u 5) (by kernel_rfl) h5) (Eq.trans (b:=u 5) (by kernel_rfl) h5) (by omega) (by omega) z2 (fun w' o6 g6=>hK _ _ (VF.mg rfl fun _=>⟨_,rfl,o6⟩) (hRW.grownNone g6) ((Ext.rf _).grownNone g6))
 ·intro u w4 hRW hV
  have h1:=(hV (1,some 31) (by simp)).k rfl;have h4:=(hV (4,some 34) (by simp)).k rfl;have h5:=(hV (5,some 35) (by simp)).k rfl;obtain⟨hb,h6,o6⟩:=(hV (6,some 36) (by simp)).g rfl rfl;simp only[Zj,h1,h4,h5,h6];clear hV h1 h4 h5 h6 k1 k2
  try simp only[lay]
  refine Zc (i:=7) (op:=Op.build 119 #[(0,Operand.tmp 31),(1,Operand.tmp 32),(4,Operand.tmp 36)]) (t:=119) (d:=some 37) (v:=?_) rfl (by decide +kernel) (by decide +kernel) (by decide +kernel) (fun _ _ _ h=>h) ?_ ?_
  case refine_2=>(intro _;unfold Zd;go_simp;try with_reducible rfl)
  try simp only[lay]
  refine Zm 8 (by kernel_rfl) (Zz (op:=.box 119 (.tmp 37)) rfl (.pointer (some ⟨w4.heap.size,0,none⟩)) (w':=w4.alloc (.cells #[.int .i64 cap,.slice PA l.length pc,.slice none 0 0,.slice none 0 0,.slice (some ⟨hb,0,none⟩) (n+1) (n+1)] 119)) (by unfold Zd;go_simp) ?_)
  try simp only[lay]
  refine Zc (i:=9) (op:=Op.assign (Operand.tmp 38)) (t:=69) (d:=some 7) (v:=?_) rfl (by decide +kernel) (by decide +kernel) (by decide +kernel) (fun _ _ _ h=>h) ?_ ?_
  case refine_2=>(intro _;unfold Zd;go_simp;try with_reducible rfl)
  try simp only[lay]
  refine wpAny_done (by kernel_rfl) ?_ _;have X4:=Hd ((Ext.tr X3.out hRW).alloc (.cells #[.int .i64 cap,.slice PA l.length pc,.slice none 0 0,.slice none 0 0,.slice (some ⟨hb,0,none⟩) (n+1) (n+1)] 119));have Y4:=Hd (hRW.alloc (.cells #[.int .i64 cap,.slice PA l.length pc,.slice none 0 0,.slice none 0 0,.slice (some ⟨hb,0,none⟩) (n+1) (n+1)] 119));have F4:Hid (Fill (w4.alloc (.cells #[.int .i64 cap,.slice PA l.length pc,.slice none 0 0,.slice none 0 0,.slice (some ⟨hb,0,none⟩) (n+1) (n+1)] 119)) w3.heap.size w4.heap.size cap PA l.length pc [] [] (List.replicate (n+1) 0)):=by
   refine⟨none,0,none,0,some ⟨hb,0,none⟩,n+1,?_,hRW.size,OwI.nil _ _,OwI.nil _ _,o6.ext ((Ext.rf _).alloc _),Dis.none _,Dis.none _,Dis.none _⟩;simp only[List.length_replicate,List.length_nil];exact .new rfl
  clear o6;generalize hw4:w4.alloc (.cells #[.int .i64 cap,.slice PA l.length pc,.slice none 0 0,.slice none 0 0,.slice (some ⟨hb,0,none⟩) (n+1) (n+1)] 119)=w5 at *;clear hw4 hRW;generalize w4.heap.size=g at *;clear w4;go_simp;go_wp2_with (fail);have lP9:=rP.out;have hbs:Hid (∀ (u:World) (z:Int),(Instr.buildSlice 22 1 #[(0,.int .i64 z)]).run Tryz.prog u=.ok (.slice (some ⟨u.heap.size,0,none⟩) 1 1) (u.alloc (.cells #[.int .i64 z] 3))):=fun u z=>by go_simp
  have F4':Hid (Fill w5 w3.heap.size g cap PA l.length pc (Zp (l.take 0) xw) (Zp (l.take 0) xv) (List.replicate (n+1) 0)):=F4.out;clear F4 lP9;go_loopw [41] (fun i wr=>∃ j:Nat,i=.int .i64 j/\j<=n/\Hid (Fill wr w3.heap.size g cap PA l.length pc (Zp (l.take j) xw) (Zp (l.take j) xv) (List.replicate (n+1) 0))/\Ext w3 wr) (fun i _=>n-(intOf i).toNat)
  case atStart=>exact⟨0,rfl,by omega,F4',Y4.out⟩
  case round =>
   obtain⟨wo,rfl⟩:∃ wo:World,wo=wr:=⟨_,rfl⟩;obtain⟨j,rfl,hj,HF,Y⟩:=hrel;have Bi:=Hd (B3.out.ext Y)
   by_cases hlt:j<n
   ·obtain⟨pb,po,qi,rfl,_,cq,eq1,_⟩:=(rP.out.ext Y).at (k:=j) (by rw[ZF,RL.out];exact hlt)
    have hj':j<l.length:=by rw[RL.out];exact hlt
    obtain⟨q,hq0⟩:∃ q,Hid (l[j]?=some q):=⟨l[j],List.getElem?_eq_getElem hj'⟩;obtain rfl:qi=(q:Int):=by
     have h1:=Zam hq0.out;rw[eq1.out] at h1;exact Option.some.inj h1
    have hqn:q<n:=RM.out j q hq0.out;have hqw:q<xw.length:=by rw[lw.out];exact hqn
    have hqv:q<xv.length:=by rw[lv.out];exact hqn
    obtain⟨ab,ao,x,rfl,zs2',cs2',ex,_⟩:=(rA.out.ext X3.out).at hqw;obtain⟨bb,bo,y,rfl,zs3',cs3',ey,_⟩:=(rB.out.ext X3.out).at hqv;have EW:Hid (Zp (l.take (j+1)) xw=Zp (l.take j) xw++[x]):=Vy hq0.out ex.out;have EV:Hid (Zp (l.take (j+1)) xv=Zp (l.take j) xv++[y]):=Vy hq0.out ey.out;have lW:(Zp (l.take j) xw).length<=64:=by rw[Z5];simp;omega
    have lV:(Zp (l.take j) xv).length<=64:=by rw[Z5];simp;omega
    generalize Zp (l.take j) xw=WL at *;generalize Zp (l.take j) xv=VL at *;have zi:=Bi.out.lt;go_wp2_with (fail);obtain⟨WA,wc,VA,vc,HA,hc,Bg,hgb,OW,OV,OH,dd1,dd2,dd3⟩:=HF.out;have zg:=Bg.lt;have zs2:=Nat.lt_of_lt_of_le zs2' Y.size;have cs2:=Ze Y zs2' cs2';replace Bg:=Hd Bg;replace OW:=Hd OW;replace OV:=Hd OV;replace OH:=Hd OH;refine wp_region_any (by kernel_rfl) ?_
    change wpAny _ _ _ _ _ _ _ (World.drew _)
    refine Zc (i:=0) (op:=Op.move (Operand.tmp 7)) (t:=69) (d:=some 45) (v:=?_) rfl (by decide +kernel) (by decide +kernel) (by decide +kernel) (fun _ _ _ h=>h) ?_ ?_
    case refine_2=>(intro _;unfold Zd;go_simp;try with_reducible rfl)
    try simp only[lay]
    refine Zc (i:=1) (op:=Op.move (Operand.tmp 7)) (t:=69) (d:=some 46) (v:=?_) rfl (by decide +kernel) (by decide +kernel) (by decide +kernel) (fun _ _ _ h=>h) ?_ ?_
    case refine_2=>(intro _;unfold Zd;go_simp;try with_reducible rfl)
    try simp only[lay]
    refine Zc (i:=2) (op:=Op.nilCheck (Operand.tmp 46)) (t:=0) (d:=some 47) (v:=?_) rfl (by decide +kernel) (by decide +kernel) (by decide +kernel) (fun _ _ _ h=>h) ?_ ?_
    case refine_2=>(intro _;unfold Zd;go_simp;try with_reducible rfl)
    try simp only[lay]
    refine Zc (i:=3) (op:=Op.fieldAddr 119 (Operand.tmp 47) 2) (t:=0) (d:=some 48) (v:=?_) rfl (by decide +kernel) (by decide +kernel) (by decide +kernel) (fun _ _ _ h=>h) ?_ ?_
    case refine_2=>(intro _;unfold Zd;go_simp;try with_reducible rfl)
    try simp only[lay]
    refine Zc (i:=5) (op:=Op.fieldAddr 25 (Operand.tmp 1) 3) (t:=0) (d:=some 50) (v:=?_) rfl (by decide +kernel) (by decide +kernel) (by decide +kernel) (fun _ _ _ h=>h) ?_ ?_
    case refine_2=>(intro _;unfold Zd;go_simp;try with_reducible rfl)
    try simp only[lay]
    refine Zc (i:=7) (op:=Op.move (Operand.tmp 9)) (t:=3) (d:=some 52) (v:=?_) rfl (by decide +kernel) (by decide +kernel) (by decide +kernel) (fun _ _ _ h=>h) ?_ ?_
    case refine_2=>(intro _;unfold Zd;go_simp;try with_reducible rfl)
    try simp only[lay]
    refine Zv (n:=4) [(4,some 49),(6,some 51),(8,some 53),(9,some 54),(10,some 55)] (Ext wo)
     (VF (fun | 4=>some (.slice WA WL.length wc) | 6=>some (.slice (some ⟨ab,ao,none⟩) xw.length a) | 8=>some (.pointer (some ⟨ab,ao+q,none⟩)) | 9=>some (.int .i64 x) | _=>none)
      (fun j v W=>j=10->∃ h,v=.slice (some ⟨h,0,none⟩) 1 1/\Blk W h 3 #[.int .i64 x]))
     Ext #[true,true,true,true,true,true,true,true,true,true,true,false,false,false,false] (by kernel_rfl) (VF.stab ?_) ?_ ?_ ((Ext.rf _).drew)
    ·intro j v W W' _ g6 hx h
     obtain⟨h,q1,q2⟩:=g6 h;exact⟨h,q1,q2.ext hx⟩
    ·intro pq hpm u W hRW hD K hK
     have r1:=Ze hRW zg (Bg.out.cell 2);have r2:=Ze hRW zi (Bi.out.cell 3);have r3:=Ze hRW zs2 cs2;simp only[List.mem_cons,List.not_mem_nil,or_false] at hpm;rcases hpm with rfl | rfl | rfl | rfl | rfl
     ·exact Zr (T:=22) rfl (.pointer (some ⟨g,2,none⟩)) (by kernel_rfl) (.slice WA WL.length wc) (by go_simp) (hK _ _ (VF.mk rfl) hRW (Ext.rf _))
     ·exact Zr (T:=22) rfl (.pointer (some ⟨w.heap.size,3,none⟩)) (by kernel_rfl) (.slice (some ⟨ab,ao,none⟩) xw.length a) (by go_simp) (hK _ _ (VF.mk rfl) hRW (Ext.rf _))
     ·have h6:=(hD 6 (Zf (by kernel_rfl))).k rfl
      exact Yt (T:=22) rfl (.slice (some ⟨ab,ao,none⟩) xw.length a) (.int .i64 q) (Eq.trans (b:=u 6) (by kernel_rfl) h6) (by kernel_rfl) (.pointer (some ⟨ab,ao+q,none⟩)) (by go_simp) (hK _ _ (VF.mk rfl) hRW (Ext.rf _))
     ·have h8:=(hD 8 (Zf (by kernel_rfl))).k rfl
      exact Zr (T:=3) rfl (.pointer (some ⟨ab,ao+q,none⟩)) (Eq.trans (b:=u 8) (by kernel_rfl) h8) (.int .i64 x) (by go_simp) (hK _ _ (VF.mk rfl) hRW (Ext.rf _))
     ·have h9:=(hD 9 (Zf (by kernel_rfl))).k rfl
      exact VZ rfl _ (Eq.trans (b:=u 9) (by kernel_rfl) h9) _ (hbs.out _ _) (hK _ _ (VF.mg rfl fun _=>⟨_,rfl,.new rfl⟩) (hRW.alloc _) ((Ext.rf _).alloc _))
    ·intro u w6 hRW hV
     have h4:=(hV (4,some 49) (by simp)).k rfl;have h6:=(hV (6,some 51) (by simp)).k rfl;have h8:=(hV (8,some 53) (by simp)).k rfl;have h9:=(hV (9,some 54) (by simp)).k rfl;obtain⟨hq,h10,b10⟩:=(hV (10,some 55) (by simp)).g rfl rfl;simp only[Zj,h4,h6,h8,h9,h10];obtain⟨A7,c7,w7,hrun,o7,g7,alt7⟩:=Xk w6 w3.heap.size 22 WA WL.length wc WL [x] (some ⟨hq,0,none⟩) 1 rfl (OW.out.ext hRW) (.blk b10 rfl) (by simp;omega) (Nat.le_trans Y.size hRW.size);obtain⟨b7,F7⟩:=ZdG (Bg.out.ext hRW) hgb (OW.out.ext hRW) (OV.out.ext hRW) (OH.out.ext hRW) dd1 dd2 dd3 g7 o7 alt7;have x7:Ext w3 w7:=(Y.tr hRW).grow g7 (fun k hk=>(OW.out.lt k hk).1);have cg7:=b7.c2;have fg7:=b7.free 2;have Y7:Ext w3 (w7.setCell ⟨g,2,none⟩ (.slice A7 (WL.length+1) c7)):=x7.setNew (p:=⟨g,2,none⟩) hgb _;replace F7:=Hd F7;rw[show (WL++[x]).length=WL.length+1 from by simp] at hrun;clear h4 h6 h8 h9 h10 hV b10 o7 g7 alt7 b7;refine Zm 11 (by kernel_rfl) (V0 rfl (.slice WA WL.length wc) (.slice (some ⟨hq,0,none⟩) 1 1) (by kernel_rfl) (by kernel_rfl) _ hrun ?_)
     try simp only[lay]
     refine Zc (i:=12) (op:=Op.nilCheck (Operand.tmp 45)) (t:=0) (d:=some 57) (v:=?_) rfl (by decide +kernel) (by decide +kernel) (by decide +kernel) (fun _ _ _ h=>h) ?_ ?_
     case refine_2=>(intro _;unfold Zd;go_simp;try with_reducible rfl)
     try simp only[lay]
     refine Zc (i:=13) (op:=Op.fieldAddr 119 (Operand.tmp 57) 2) (t:=0) (d:=some 58) (v:=?_) rfl (by decide +kernel) (by decide +kernel) (by decide +kernel) (fun _ _ _ h=>h) ?_ ?_
     case refine_2=>(intro _;unfold Zd;go_simp;try with_reducible rfl)
     try simp only[lay]
     refine Zm 14 (by kernel_rfl) (YH rfl (.pointer (some ⟨g,2,none⟩)) (.slice A7 (WL.length+1) c7) (by kernel_rfl) (by kernel_rfl) (by go_simp;rfl) ?_);refine wpAny_done (by kernel_rfl) ?_ _;clear hrun hRW cg7 fg7 x7;generalize w7.setCell ⟨g,2,none⟩ (.slice A7 (WL.length+1) c7)=w8 at *;clear w7;go_simp;clear Bg OW OV OH dd1 dd2 dd3 HF zg cs2 zs2 Bi zi;have Bi:=Hd (B3.out.ext Y7);have zi:=Bi.out.lt;go_wp2_with (fail);obtain⟨WA2,wc2,VA2,vc2,HA2,hc2,Bg,hgb,OW,OV,OH,dd1,dd2,dd3⟩:=F7.out;have zg:=Bg.lt;have zs3:=Nat.lt_of_lt_of_le zs3' Y7.size;have cs3:=Ze Y7 zs3' cs3';replace Bg:=Hd Bg;replace OW:=Hd OW;replace OV:=Hd OV;replace OH:=Hd OH;clear F7;refine wp_region_any (by kernel_rfl) ?_
     change wpAny _ _ _ _ _ _ _ (World.drew _)
     refine Zc (i:=0) (op:=Op.move (Operand.tmp 7)) (t:=69) (d:=some 59) (v:=?_) rfl (by decide +kernel) (by decide +kernel) (by decide +kernel) (fun _ _ _ h=>h) ?_ ?_
     case refine_2=>(intro _;unfold Zd;go_simp;try with_reducible rfl)
     try simp only[lay]
     refine Zc (i:=1) (op:=Op.move (Operand.tmp 7)) (t:=69) (d:=some 60) (v:=?_) rfl (by decide +kernel) (by decide +kernel) (by decide +kernel) (fun _ _ _ h=>h) ?_ ?_
     case refine_2=>(intro _;unfold Zd;go_simp;try with_reducible rfl)
     try simp only[lay]
     refine Zc (i:=2) (op:=Op.nilCheck (Operand.tmp 60)) (t:=0) (d:=some 61) (v:=?_) rfl (by decide +kernel) (by decide +kernel) (by decide +kernel) (fun _ _ _ h=>h) ?_ ?_
     case refine_2=>(intro _;unfold Zd;go_simp;try with_reducible rfl)
     try simp only[lay]
     refine Zc (i:=3) (op:=Op.fieldAddr 119 (Operand.tmp 61) 3) (t:=0) (d:=some 62) (v:=?_) rfl (by decide +kernel) (by decide +kernel) (by decide +kernel) (fun _ _ _ h=>h) ?_ ?_
     case refine_2=>(intro _;unfold Zd;go_simp;try with_reducible rfl)
     try simp only[lay]
     refine Zc (i:=5) (op:=Op.fieldAddr 25 (Operand.tmp 1) 4) (t:=0) (d:=some 64) (v:=?_) rfl (by decide +kernel) (by decide +kernel) (by decide +kernel) (fun _ _ _ h=>h) ?_ ?_
     case refine_2=>(intro _;unfold Zd;go_simp;try with_reducible rfl)
     try simp only[lay]
     refine Zc (i:=7) (op:=Op.move (Operand.tmp 9)) (t:=3) (d:=some 66) (v:=?_) rfl (by decide +kernel) (by decide +kernel) (by decide +kernel) (fun _ _ _ h=>h) ?_ ?_
     case refine_2=>(intro _;unfold Zd;go_simp;try with_reducible rfl)
     try simp only[lay]
     refine Zv (n:=4) [(4,some 63),(6,some 65),(8,some 67),(9,some 68),(10,some 69)] (Ext w8)
      (VF (fun | 4=>some (.slice VA2 VL.length vc2) | 6=>some (.slice (some ⟨bb,bo,none⟩) xv.length b) | 8=>some (.pointer (some ⟨bb,bo+q,none⟩)) | 9=>some (.int .i64 y) | _=>none)
       (fun j v W=>j=10->∃ h,v=.slice (some ⟨h,0,none⟩) 1 1/\Blk W h 3 #[.int .i64 y]))
      Ext #[true,true,true,true,true,true,true,true,true,true,true,false,false,false,false] (by kernel_rfl) (VF.stab ?_) ?_ ?_ ((Ext.rf _).drew)
     ·intro j v W W' _ g6 hx h
      obtain⟨h,q1,q2⟩:=g6 h;exact⟨h,q1,q2.ext hx⟩
     ·intro pq hpm u W hRW hD K hK
      have r1:=Ze hRW zg (Bg.out.cell 3);have r2:=Ze hRW zi (Bi.out.cell 4);have r3:=Ze hRW zs3 cs3;simp only[List.mem_cons,List.not_mem_nil,or_false] at hpm;rcases hpm with rfl | rfl | rfl | rfl | rfl
      ·exact Zr (T:=22) rfl (.pointer (some ⟨g,3,none⟩)) (by kernel_rfl) (.slice VA2 VL.length vc2) (by go_simp) (hK _ _ (VF.mk rfl) hRW (Ext.rf _))
      ·exact Zr (T:=22) rfl (.pointer (some ⟨w.heap.size,4,none⟩)) (by kernel_rfl) (.slice (some ⟨bb,bo,none⟩) xv.length b) (by go_simp) (hK _ _ (VF.mk rfl) hRW (Ext.rf _))
      ·have h6:=(hD 6 (Zf (by kernel_rfl))).k rfl
       exact Yt (T:=22) rfl (.slice (some ⟨bb,bo,none⟩) xv.length b) (.int .i64 q) (Eq.trans (b:=u 6) (by kernel_rfl) h6) (by kernel_rfl) (.pointer (some ⟨bb,bo+q,none⟩)) (by go_simp) (hK _ _ (VF.mk rfl) hRW (Ext.rf _))
      ·have h8:=(hD 8 (Zf (by kernel_rfl))).k rfl
       exact Zr (T:=3) rfl (.pointer (some ⟨bb,bo+q,none⟩)) (Eq.trans (b:=u 8) (by kernel_rfl) h8) (.int .i64 y) (by go_simp) (hK _ _ (VF.mk rfl) hRW (Ext.rf _))
      ·have h9:=(hD 9 (Zf (by kernel_rfl))).k rfl
       exact VZ rfl _ (Eq.trans (b:=u 9) (by kernel_rfl) h9) _ (hbs.out _ _) (hK _ _ (VF.mg rfl fun _=>⟨_,rfl,.new rfl⟩) (hRW.alloc _) ((Ext.rf _).alloc _))
     ·intro u w6 hRW hV
      have h4:=(hV (4,some 63) (by simp)).k rfl;have h6:=(hV (6,some 65) (by simp)).k rfl;have h8:=(hV (8,some 67) (by simp)).k rfl;have h9:=(hV (9,some 68) (by simp)).k rfl;obtain⟨hq,h10,b10⟩:=(hV (10,some 69) (by simp)).g rfl rfl;simp only[Zj,h4,h6,h8,h9,h10];obtain⟨A7,c7,w7,hrun,o7,g7,alt7⟩:=Xk w6 w3.heap.size 22 VA2 VL.length vc2 VL [y] (some ⟨hq,0,none⟩) 1 rfl (OV.out.ext hRW) (.blk b10 rfl) (by simp;omega) (Nat.le_trans Y7.size hRW.size);obtain⟨b7,F7⟩:=ZdH (Bg.out.ext hRW) hgb (OW.out.ext hRW) (OV.out.ext hRW) (OH.out.ext hRW) dd1 dd2 dd3 g7 o7 alt7;have x7:Ext w3 w7:=(Y7.tr hRW).grow g7 (fun k hk=>(OV.out.lt k hk).1);have cg7:=b7.c3;have fg7:=b7.free 3;have Y9:Ext w3 (w7.setCell ⟨g,3,none⟩ (.slice A7 (VL.length+1) c7)):=x7.setNew (p:=⟨g,3,none⟩) hgb _;have F9:=Hd F7;rw[show (VL++[y]).length=VL.length+1 from by simp] at hrun;clear F7 h4 h6 h8 h9 h10 hV b10 o7 g7 alt7 b7;refine Zm 11 (by kernel_rfl) (V0 rfl (.slice VA2 VL.length vc2) (.slice (some ⟨hq,0,none⟩) 1 1) (by kernel_rfl) (by kernel_rfl) _ hrun ?_)
      try simp only[lay]
      refine Zc (i:=12) (op:=Op.nilCheck (Operand.tmp 59)) (t:=0) (d:=some 71) (v:=?_) rfl (by decide +kernel) (by decide +kernel) (by decide +kernel) (fun _ _ _ h=>h) ?_ ?_
      case refine_2=>(intro _;unfold Zd;go_simp;try with_reducible rfl)
      try simp only[lay]
      refine Zc (i:=13) (op:=Op.fieldAddr 119 (Operand.tmp 71) 3) (t:=0) (d:=some 72) (v:=?_) rfl (by decide +kernel) (by decide +kernel) (by decide +kernel) (fun _ _ _ h=>h) ?_ ?_
      case refine_2=>(intro _;unfold Zd;go_simp;try with_reducible rfl)
      try simp only[lay]
      refine Zm 14 (by kernel_rfl) (YH rfl (.pointer (some ⟨g,3,none⟩)) (.slice A7 (VL.length+1) c7) (by kernel_rfl) (by kernel_rfl) (by go_simp;rfl) ?_);refine wpAny_done (by kernel_rfl) ?_ _;clear hrun hRW cg7 fg7 x7;generalize w7.setCell ⟨g,3,none⟩ (.slice A7 (VL.length+1) c7)=w9 at *;clear w7;go_simp;go_wp2_with (fail);go_roundw
      case rel=>exact⟨j+1,by go_num,by omega,by rw[EW.out,EV.out];exact F9.out,Y9⟩
      case measure=>simp[intOf];omega
   ·obtain rfl:j=n:=by omega
    have eF:Hid (l.take j=l):=List.take_of_length_le (by rw[RL.out];exact Nat.le_refl _);have HF':Hid (Fill wo w3.heap.size g cap PA l.length pc (Zp l xw) (Zp l xv) (List.replicate (j+1) 0)):=by
     have h:=HF.out;rw[eF.out] at h;exact h
    have lV:(Zp l xv).length=j:=by rw[Z5];exact RL.out
    have bV:Small31 (Zp l xv):=by
     intro z hz;obtain⟨q,hq,rfl⟩:=List.mem_map.1 hz;obtain⟨k,hk⟩:=List.mem_iff_getElem?.1 hq;have hqn:=RM.out k q hk;have:xv[q]?=some (xv[q]'(by rw[lv.out];exact hqn)):=List.getElem?_eq_getElem _;rw[getD_some this];exact sv.out _ (List.getElem_mem _)
    have HF2:Hid (Fill wo w3.heap.size g cap PA l.length pc (Zp l xw) (Zp l xv) (Yv (Zp l xv) j)):=by
     have h:=HF'.out;have e9:=Zao (Zp l xv);rw[lV] at e9;rw[<-e9] at h;exact h
    have hWe:Hid (Zp l xw=Zp (ZB xv xw) xw):=by rw[hl.out];exact rfl
    have hVe:Hid (Zp l xv=Zp (ZB xv xw) xv):=by rw[hl.out];exact rfl
    generalize Zp l xw=XW at *;generalize Zp l xv=XV at *;have k1:=Bi.out.c1;clear HF HF' eF;replace lV:=Hd lV;replace bV:=Hd bV;have hge:l.length<=j:=by rw[RL.out];exact Nat.le_refl _
    have hgeb:decide (j<l.length)=false:=by simpa using hge
    go_wp2_with (fail);go_loopw [10] (fun i wr=>∃ (k:Nat) (z:Int),i=.int .i64 z/\z+1=(k:Int)/\k<=j/\Hid (Fill wr w3.heap.size g cap PA l.length pc XW XV (Yv XV k))/\Ext w3 wr) (fun i _=>(intOf i+1).toNat)
    case atStart=>exact⟨j,_,rfl,by omega,by omega,HF2,Y⟩
    case round =>
     obtain⟨wq,rfl⟩:∃ wq:World,wq=wr:=⟨_,rfl⟩;obtain⟨k,z,rfl,hz,hk,HG,Z⟩:=hrel
     by_cases h0:1<=k
     ·obtain⟨m,rfl⟩:∃ m,k=m+1:=⟨k-1,by omega⟩
      obtain rfl:z=(m:Int):=by omega
      obtain⟨WA,wc,VA,vc,HA,hc,Bg,hgb,OW,OV,OH,dd1,dd2,dd3⟩:=HG.out;obtain⟨hb,x0,rfl,hbb,zh,_,_,_,hset⟩:=OH.at (k:=m) (by rw[XQ,lV.out];omega);obtain⟨hb',x1,e1,_,_,ch1,_,ex1,_⟩:=OH.at (k:=m+1) (by rw[XQ,lV.out];omega);obtain rfl:hb=hb':=by injection e1 with e1;injection e1
      obtain rfl:x1=Zi (XV.drop (m+1)):=by
       have h1:=QK (vs:=XV) (k:=m+1) (i:=m+1) (by rw[lV.out];omega) (Nat.le_refl _);rw[ex1.out] at h1;exact Option.some.inj h1
      obtain⟨vb,y,rfl,_,zv,cv,_,ey,_⟩:=OV.at (k:=m) (by rw[lV.out];omega);have bd1:=UC bV.out (m+1);rw[lV.out] at bd1;have bd2:=bV.out.get ey.out;have cB:=Bg.cell 4;have cV:=Bg.cell 3;have zg:=Bg.lt;have lB:(Yv XV (m+1)).length=j+1:=by rw[XQ,lV.out]
      simp only[lB,lV.out] at cB cV;obtain⟨S,hS⟩:∃ S,Hid (S=Zi (XV.drop (m+1))):=⟨_,rfl⟩;rw[<-hS.out] at bd1 ch1;replace Bg:=Hd Bg;replace OW:=Hd OW;replace OV:=Hd OV;replace OH:=Hd OH;clear hset HG lB ex1 e1 hz h0;replace cB:wq.cell? ⟨g,4,none⟩=some (.slice (some ⟨hb,0,none⟩) (j+1) hc):=cB;replace cV:wq.cell? ⟨g,3,none⟩=some (.slice (some ⟨vb,0,none⟩) j vc):=cV;have hmj:m<j:=by omega
      have q1:(0:Int)<=(m:Int)+1:=by omega
      have q2:(m:Int)<(j:Int)+1:=by omega
      have q3:(m:Int)+1<(j:Int)+1:=by omega
      have q4:¬((m:Int)+1<0):=by omega
      clear HF2;go_wp2_with (fail);refine wp_region_any (by kernel_rfl) ?_
      change wpAny _ _ _ _ _ _ _ (World.drew _)
      refine Zc (i:=0) (op:=Op.move (Operand.tmp 7)) (t:=69) (d:=some 81) (v:=?_) rfl (by decide +kernel) (by decide +kernel) (by decide +kernel) (fun _ _ _ h=>h) ?_ ?_
      case refine_2=>(intro _;unfold Zd;go_simp;try with_reducible rfl)
      try simp only[lay]
      refine Zc (i:=1) (op:=Op.nilCheck (Operand.tmp 81)) (t:=0) (d:=some 82) (v:=?_) rfl (by decide +kernel) (by decide +kernel) (by decide +kernel) (fun _ _ _ h=>h) ?_ ?_
      case refine_2=>(intro _;unfold Zd;go_simp;try with_reducible rfl)
      try simp only[lay]
      refine Zc (i:=2) (op:=Op.fieldAddr 119 (Operand.tmp 82) 4) (t:=0) (d:=some 83) (v:=?_) rfl (by decide +kernel) (by decide +kernel) (by decide +kernel) (fun _ _ _ h=>h) ?_ ?_
      case refine_2=>(intro _;unfold Zd;go_simp;try with_reducible rfl)
      try simp only[lay]
      refine Zc (i:=4) (op:=Op.move (Operand.tmp 10)) (t:=3) (d:=some 85) (v:=?_) rfl (by decide +kernel) (by decide +kernel) (by decide +kernel) (fun _ _ _ h=>h) ?_ ?_
      case refine_2=>(intro _;unfold Zd;go_simp;try with_reducible rfl)
      try simp only[lay]
      refine Zc (i:=5) (op:=Op.move (Operand.tmp 7)) (t:=69) (d:=some 86) (v:=?_) rfl (by decide +kernel) (by decide +kernel) (by decide +kernel) (fun _ _ _ h=>h) ?_ ?_
      case refine_2=>(intro _;unfold Zd;go_simp;try with_reducible rfl)
      try simp only[lay]
      refine Zc (i:=6) (op:=Op.nilCheck (Operand.tmp 86)) (t:=0) (d:=some 87) (v:=?_) rfl (by decide +kernel) (by decide +kernel) (by decide +kernel) (fun _ _ _ h=>h) ?_ ?_
      case refine_2=>(intro _;unfold Zd;go_simp;try with_reducible rfl)
      try simp only[lay]
      refine Zc (i:=7) (op:=Op.fieldAddr 119 (Operand.tmp 87) 4) (t:=0) (d:=some 88) (v:=?_) rfl (by decide +kernel) (by decide +kernel) (by decide +kernel) (fun _ _ _ h=>h) ?_ ?_
      case refine_2=>(intro _;unfold Zd;go_simp;try with_reducible rfl)
      try simp only[lay]
      refine Zc (i:=9) (op:=Op.move (Operand.tmp 10)) (t:=3) (d:=some 90) (v:=?_) rfl (by decide +kernel) (by decide +kernel) (by decide +kernel) (fun _ _ _ h=>h) ?_ ?_
      case refine_2=>(intro _;unfold Zd;go_simp;try with_reducible rfl)
      try simp only[lay]
      refine Zc (i:=13) (op:=Op.move (Operand.tmp 7)) (t:=69) (d:=some 94) (v:=?_) rfl (by decide +kernel) (by decide +kernel) (by decide +kernel) (fun _ _ _ h=>h) ?_ ?_
      case refine_2=>(intro _;unfold Zd;go_simp;try with_reducible rfl)
      try simp only[lay]
      refine Zc (i:=14) (op:=Op.nilCheck (Operand.tmp 94)) (t:=0) (d:=some 95) (v:=?_) rfl (by decide +kernel) (by decide +kernel) (by decide +kernel) (fun _ _ _ h=>h) ?_ ?_
      case refine_2=>(intro _;unfold Zd;go_simp;try with_reducible rfl)
      try simp only[lay]
      refine Zc (i:=15) (op:=Op.fieldAddr 119 (Operand.tmp 95) 3) (t:=0) (d:=some 96) (v:=?_) rfl (by decide +kernel) (by decide +kernel) (by decide +kernel) (fun _ _ _ h=>h) ?_ ?_
      case refine_2=>(intro _;unfold Zd;go_simp;try with_reducible rfl)
      try simp only[lay]
      refine Zc (i:=17) (op:=Op.move (Operand.tmp 10)) (t:=3) (d:=some 98) (v:=?_) rfl (by decide +kernel) (by decide +kernel) (by decide +kernel) (fun _ _ _ h=>h) ?_ ?_
      case refine_2=>(intro _;unfold Zd;go_simp;try with_reducible rfl)
      try simp only[lay]
      refine Zv (n:=2) [(3,some 84),(8,some 89),(10,some 91),(11,some 92),(12,some 93),(16,some 97),(18,some 99),(19,some 100),(20,some 101)] (Ext wq)
       (VF (fun | 3=>some (.slice (some ⟨hb,0,none⟩) (j+1) hc) | 8=>some (.slice (some ⟨hb,0,none⟩) (j+1) hc) | 10=>some (.int .i64 ((m:Int)+1)) | 11=>some (.pointer (some ⟨hb,m+1,none⟩)) | 12=>some (.int .i64 S) | 16=>some (.slice (some ⟨vb,0,none⟩) j vc) | 18=>some (.pointer (some ⟨vb,m,none⟩)) | 19=>some (.int .i64 y) | 20=>some (.int .i64 (S+y)) | _=>none) (fun _ _ _=>True))
       Ext #[true,true,true,true,true,true,true,true,true,true,true,true,true,true,true,true,true,true,true,true,true,false,false] (by kernel_rfl) (VF.stab ?_) ?_ ?_ ((Ext.rf _).drew)
      ·intro j v W W' _ h _
       exact h
      ·intro pq hpm u W hRW hD K hK
       have r1:=Ze hRW zg cB;have r2:=Ze hRW zg cV;have r3:=Ze hRW zh ch1;have r4:=Ze hRW zv cv;simp only[List.mem_cons,List.not_mem_nil,or_false] at hpm;rcases hpm with rfl | rfl | rfl | rfl | rfl | rfl | rfl | rfl | rfl
       ·exact Zr (T:=22) rfl (.pointer (some ⟨g,4,none⟩)) (by kernel_rfl) (.slice (some ⟨hb,0,none⟩) (j+1) hc) (by go_simp) (hK _ _ (VF.mk rfl) hRW (Ext.rf _))
       ·exact Zr (T:=22) rfl (.pointer (some ⟨g,4,none⟩)) (by kernel_rfl) (.slice (some ⟨hb,0,none⟩) (j+1) hc) (by go_simp) (hK _ _ (VF.mk rfl) hRW (Ext.rf _))
       ·exact Zz rfl (.int .i64 ((m:Int)+1)) (by simp only[Zj];unfold Zd;go_simp;exact IntWalk.i64_in _ (by omega)) (hK _ _ (VF.mk rfl) hRW (Ext.rf _))
       ·have h8:=(hD 8 (Zf (by kernel_rfl))).k rfl
        have h10:=(hD 10 (Zf (by kernel_rfl))).k rfl;exact Yt (T:=22) rfl (.slice (some ⟨hb,0,none⟩) (j+1) hc) (.int .i64 ((m:Int)+1)) (Eq.trans (b:=u 8) (by kernel_rfl) h8) (Eq.trans (b:=u 10) (by kernel_rfl) h10) (.pointer (some ⟨hb,m+1,none⟩)) (by go_simp) (hK _ _ (VF.mk rfl) hRW (Ext.rf _))
       ·have h11:=(hD 11 (Zf (by kernel_rfl))).k rfl
        exact Zr (T:=3) rfl (.pointer (some ⟨hb,m+1,none⟩)) (Eq.trans (b:=u 11) (by kernel_rfl) h11) (.int .i64 S) (by go_simp) (hK _ _ (VF.mk rfl) hRW (Ext.rf _))
       ·exact Zr (T:=22) rfl (.pointer (some ⟨g,3,none⟩)) (by kernel_rfl) (.slice (some ⟨vb,0,none⟩) j vc) (by go_simp) (hK _ _ (VF.mk rfl) hRW (Ext.rf _))
       ·have h16:=(hD 16 (Zf (by kernel_rfl))).k rfl
        exact Yt (T:=22) rfl (.slice (some ⟨vb,0,none⟩) j vc) (.int .i64 m) (Eq.trans (b:=u 16) (by kernel_rfl) h16) (by kernel_rfl) (.pointer (some ⟨vb,m,none⟩)) (by go_simp) (hK _ _ (VF.mk rfl) hRW (Ext.rf _))
       ·have h18:=(hD 18 (Zf (by kernel_rfl))).k rfl
        exact Zr (T:=3) rfl (.pointer (some ⟨vb,m,none⟩)) (Eq.trans (b:=u 18) (by kernel_rfl) h18) (.int .i64 y) (by go_simp) (hK _ _ (VF.mk rfl) hRW (Ext.rf _))
       ·have h12:=(hD 12 (Zf (by kernel_rfl))).k rfl
        have h19:=(hD 19 (Zf (by kernel_rfl))).k rfl;exact Zz rfl (.int .i64 (S+y)) (by simp only[Zj,h12,h19];unfold Zd;go_simp;exact IntWalk.i64_in _ (by omega)) (hK _ _ (VF.mk rfl) hRW (Ext.rf _))
      ·intro u w6 hRW hV
       have h3:=(hV (3,some 84) (by simp)).k rfl;have h8:=(hV (8,some 89) (by simp)).k rfl;have h10:=(hV (10,some 91) (by simp)).k rfl;have h11:=(hV (11,some 92) (by simp)).k rfl;have h12:=(hV (12,some 93) (by simp)).k rfl;have h16:=(hV (16,some 97) (by simp)).k rfl;have h18:=(hV (18,some 99) (by simp)).k rfl;have h19:=(hV (19,some 100) (by simp)).k rfl;have h20:=(hV (20,some 101) (by simp)).k rfl;simp only[Zj,h3,h8,h10,h11,h12,h16,h18,h19,h20];clear hV h3 h8 h10 h11 h12 h16 h18 h19 h20;have Z6:=Z.tr hRW;obtain⟨x2,ch2,fh2,_,_,hset⟩:=(OH.out.ext hRW).cell (k:=m) (by rw[XQ,lV.out];omega);have HN:Hid (Fill (w6.setCell ⟨hb,m,none⟩ (.int .i64 (S+y))) w3.heap.size g cap PA l.length pc XW XV (Yv XV m)):=by
        have h:=ZdI (Bg.out.ext hRW) hgb (OW.out.ext hRW) (OV.out.ext hRW) (OH.out.ext hRW) dd1 dd2 dd3 (k:=m) (y:=S+y) (hset.out _);rw[hS.out,Zbw ey.out] at h;rw[hS.out];exact h
       have ZN:=Hd (Z6.setNew (p:=⟨hb,m,none⟩) hbb (.int .i64 (S+y)));clear hset
       try simp only[lay]
       refine Zc (i:=21) (op:=Op.indexAddr 22 (Operand.tmp 84) (Operand.tmp 85)) (t:=0) (d:=some 102) (v:=?_) rfl (by decide +kernel) (by decide +kernel) (by decide +kernel) (fun _ _ _ h=>h) ?_ ?_
       case refine_2=>(intro _;unfold Zd;go_simp;try with_reducible rfl)
       try simp only[lay]
       refine Zm 22 (by kernel_rfl) (YH rfl (.pointer (some ⟨hb,m,none⟩)) (.int .i64 (S+y)) (by kernel_rfl) (by kernel_rfl) (by go_simp;rfl) ?_);refine wpAny_done (by kernel_rfl) ?_ _;clear ch2 fh2 hRW Z6;generalize w6.setCell ⟨hb,m,none⟩ (.int .i64 (S+y))=w8 at *;clear w6;go_simp;go_wp2_with (fail);go_roundw
       case rel=>exact⟨m,_,rfl,by omega,by omega,HN,ZN.out⟩
       case measure=>simp[intOf]
     ·obtain rfl:k=0:=by omega
      obtain rfl:z=-1:=by omega
      go_wp2_with (fail);go_ret2;obtain⟨WA,wc,VA,vc,HA,hc,Bg,hgb,OW,OV,OH,-,-,-⟩:=HG.out;have bw3:=X3.out.size;refine⟨g,rfl,⟨PA,pc,WA,wc,VA,vc,HA,hc,?_,Nat.le_trans bw3 hgb,⟨?_,bP'.out⟩,⟨?_,fun k hk=>Nat.le_trans bw3 (OW.lt k hk).1⟩,⟨?_,fun k hk=>Nat.le_trans bw3 (OV.lt k hk).1⟩,⟨?_,fun k hk=>Nat.le_trans bw3 (OH.lt k hk).1⟩⟩,X3.out.tr Z⟩
      ·rw[<-hWe.out,<-hVe.out,<-hl.out]
       exact Bg
      ·rw[<-hl.out]
       exact rP.out.ext Z
      ·rw[<-hWe.out]
       exact OW.read
      ·rw[<-hVe.out]
       exact OV.read
      ·rw[<-hVe.out]
       exact OH.read
structure KOk (cap:Int)(l:List Nat)(ws vs bs:List Int) : Prop where
 cap:0<=cap/\cap<=2147483647
 l64:l.length<=64
 lw:ws.length=l.length
 lv:vs.length=l.length
 lb:bs.length=l.length+1
 sw:Small31 ws
 sv:Small31 vs
def Zcq : Option (Int×Int)->Value
 | some (r,o)=>.tuple #[.int .i64 r,.int .i64 o,.bool true]
 | none=>.tuple #[.int .i64 0,.int .i64 0,.bool false]
theorem Zbx {base g:Nat}{cap:Int}{l:List Nat}{ws vs bs:List Int}(P:Option Addr)(c:Nat)(p:List Int)(w:World)(H:KernB w base g cap l ws vs bs)(ok:KOk cap l ws vs bs)(hP:RdI w P p)(lp:p.length<=1000000000) :
  Calls Tryz.prog 253 #[.pointer (some ⟨g,0,none⟩),.slice P p.length c] w fun e w'=>e=.returned (Zcq (stP cap 0 ws vs p))/\Ext w w':=by
 obtain⟨PA,pc,WA,wc,VA,vc,HA,hc,hB,-,-,⟨rW,-⟩,⟨rV,-⟩,-⟩:=H;obtain⟨okc,l64,lw,lv,lb,sw,sv⟩:=ok;have c0:=hB.c0;have c1:=hB.c1;have c2:=hB.c2;have c3:=hB.c3;have zg:=hB.lt;replace hB:=Hd hB;replace lw:=Hd lw;replace lv:=Hd lv;replace lb:=Hd lb
 by_cases hlen:l.length<p.length
 ·have HN:Hid (stP cap 0 ws vs p=none):=Wx (by rw[lw.out];exact hlen)
  have hgt:decide (l.length<p.length)=true:=by simpa using hlen
  go_enter Tryz.func253,Tryz.ntmps253;go_wp2;go_ret3;exact⟨by rw[HN.out];rfl,Ext.rf _⟩
 ·have hgt:decide (l.length<p.length)=false:=by simpa using hlen
  go_enter Tryz.func253,Tryz.ntmps253;go_wp2_with (fail);go_loopw [4,5,27] (fun r o i wr=>∃ (k:Nat) (room out:Int),i=.int .i64 k/\r=.int .i64 room/\o=.int .i64 out/\k<=p.length/\0<=room/\room<=2147483647/\0<=out/\out<=2147483647*(k:Int)/\Hid (stP cap 0 ws vs p=stP room out (ws.drop k) (vs.drop k) (p.drop k))/\Ext w wr) (fun _ _ i _=>p.length-(intOf i).toNat)
  case atStart=>exact⟨0,cap,0,rfl,rfl,rfl,by omega,okc.1,okc.2,by omega,by omega,by exact rfl,Ext.rf _⟩
  case round =>
   obtain⟨k,room,out,rfl,rfl,rfl,hk,b1,b2,b3,b4,HS,Y⟩:=hrel
   by_cases hlt:k<p.length
   ·obtain⟨pb,po,x,rfl,_,cx,ex,dx⟩:=(hP.ext Y).at hlt
    have hkw:k<ws.length:=by rw[lw.out];omega
    have hkv:k<vs.length:=by rw[lv.out];omega
    obtain⟨wb,wo,u,rfl,_,cu,eu,du⟩:=(rW.ext Y).at hkw;obtain⟨vb,vo,v,rfl,_,cv,ev,dv⟩:=(rV.ext Y).at hkv;have bu:=sw.get eu.out;have bv:=sv.get ev.out;have k0:=Ze Y zg c0;have k2:=Ze Y zg c2;have k3:=Ze Y zg c3;have HT:Hid (stP cap 0 ws vs p=if x=1 then(if room-u<0 then none else stP (room-u) out (ws.drop (k+1)) (vs.drop (k+1)) (p.drop (k+1))) else if x=0 then(if room<0 then none else stP room (out+v) (ws.drop (k+1)) (vs.drop (k+1)) (p.drop (k+1))) else none):=by
     have h:=HS.out;rw[dx.out,du.out,dv.out] at h;exact h
    clear HS ex eu ev dx du dv sw sv
    by_cases x1:x=1
    ·subst x1
     by_cases hneg:room-u<0
     ·have HN:Hid (stP cap 0 ws vs p=none):=by
       have h:=HT.out;rw[if_pos rfl,if_pos hneg] at h;exact h
      go_wp2;go_ret3;exact⟨by rw[HN.out];rfl,Y⟩
     ·have HN:Hid (stP cap 0 ws vs p=stP (room-u) out (ws.drop (k+1)) (vs.drop (k+1)) (p.drop (k+1))):=by
       have h:=HT.out;rw[if_pos rfl,if_neg hneg] at h;exact h
      go_wp2;go_roundw
      case rel=>exact⟨k+1,room-u,out,by go_num,rfl,rfl,by omega,by omega,by omega,by omega,by omega,HN,Y⟩
      case measure=>simp[intOf];omega
    ·have x1':(x==1)=false:=by simpa using x1
     by_cases x0:x=0
     ·subst x0
      have HN:Hid (stP cap 0 ws vs p=stP room (out+v) (ws.drop (k+1)) (vs.drop (k+1)) (p.drop (k+1))):=by
       have h:=HT.out;rw[if_neg x1,if_pos rfl,if_neg (by omega)] at h;exact h
      clear x1;go_wp2;go_roundw
      case rel=>exact⟨k+1,room,out+v,by go_num,rfl,rfl,by omega,by omega,by omega,by omega,by omega,HN,Y⟩
      case measure=>simp[intOf];omega
     ·have x0':(x==0)=false:=by simpa using x0
      have HN:Hid (stP cap 0 ws vs p=none):=by
       have h:=HT.out;rw[if_neg x1,if_neg x0] at h;exact h
      clear x1 x0;go_wp2;go_ret3;exact⟨by rw[HN.out];rfl,Y⟩
   ·have HN:Hid (stP cap 0 ws vs p=some (room,out)):=by
     have h:=HS.out;rw[List.drop_of_length_le (l:=p) (by omega)] at h;rw[h]
     cases ws.drop k<;>cases vs.drop k<;>rfl
    clear HS sw sv;go_wp2;go_ret3;exact⟨by rw[HN.out];rfl,Y⟩
theorem Zby (x y:Int)(w:World)(hx:0<=x)(hx':x<=4611686014132420609)(hy:1<=y)(hy':y<=2147483647) :
  Calls Tryz.prog 256 #[.int .u64 0,.int .u64 x,.int .u64 y] w fun e w'=>e=.returned (.tuple #[.int .u64 (x / y),.int .u64 (x%y)])/\Ext w w':=by
 have y0:(y==0)=false:=by rw[beq_eq_false_iff_ne];omega
 have y1:decide (y<=0)=false:=by simp;omega
 go_enter Tryz.func256,Tryz.ntmps256;go_wp2_with (go_quiet (fail));go_ret2;exact⟨rfl,by(repeat (first | assumption | exact Ext.rf _ | apply Ext.drew | apply Ext.drewN | apply Ext.alloc))⟩
theorem Zcr (a b c:Int)(w:World)(ha:0<=a/\a<=2147483647)(hb:0<=b/\b<=2147483647)(hc:1<=c/\c<=2147483647) :
  Calls Tryz.prog 255 #[.int .i64 a,.int .i64 b,.int .i64 c] w fun e w'=>e=.returned (.tuple #[.int .i64 (a*b / c),.bool true])/\Ext w w':=by
 obtain⟨ha,ha'⟩:=ha;obtain⟨hb,hb'⟩:=hb;obtain⟨hc,hc'⟩:=hc;have hm:=Wl ha ha' hb hb';have wa:IntKind.u64.wrap a=a:=wraps_u64 _ ha (by omega);have wb:IntKind.u64.wrap b=b:=wraps_u64 _ hb (by omega);have wc:IntKind.u64.wrap c=c:=wraps_u64 _ (by omega) (by omega);have M:=QI a b;have D:=Zby (a*b) c;have hq:0<=a*b / c/\a*b / c<=4611686014132420609:=by
  refine⟨Int.ediv_nonneg hm.1 (by omega),?_⟩;have:=Int.ediv_le_self c hm.1;omega
 have na:decide (a<0)=false:=by simpa using ha
 have nb:decide (b<0)=false:=by simpa using hb
 have nc:decide (c<=0)=false:=by simp;omega
 generalize a*b=p at *;generalize p / c=q at *;generalize p%c=r at *;obtain⟨hm1,hm2⟩:=hm;obtain⟨hq1,hq2⟩:=hq;have wq:IntKind.i64.wrap q=q:=IntWalk.i64_in _ (by omega);have hcc:decide (c<=0)=false:=nc;have ng:¬(9223372036854775807<q):=by omega
 replace M:=Hd M;replace D:=Hd D;go_enter Tryz.func255,Tryz.ntmps255;go_wp2_with (fail);refine(M.out _ ha ha' hb hb').mono ?_;rintro e w1 ⟨rfl,x1⟩;go_wp2_with (fail);refine(D.out _ hm1 hm2 hc hc').mono ?_;rintro e w2 ⟨rfl,x2⟩;go_wp2;go_ret2;exact⟨rfl,Ext.tr x1 x2⟩
theorem Zap {base g:Nat}{cap:Int}{l:List Nat}{ws vs bs:List Int}(from_:Nat)(room:Int)(w:World)(H:KernB w base g cap l ws vs bs)(ok:KOk cap l ws vs bs)(hf:from_<=l.length)(hr:0<=room/\room<=2147483647) :
  Calls Tryz.prog 254 #[.pointer (some ⟨g,0,none⟩),.int .i64 from_,.int .i64 room] w fun e w'=>e=.returned (.int .i64 (Zu room (ws.drop from_) (vs.drop from_)))/\Ext w w':=by
 obtain⟨PA,pc,WA,wc,VA,vc,HA,hc,hB,-,-,⟨rW,-⟩,⟨rV,-⟩,-⟩:=H;obtain⟨okc,l64,lw,lv,lb,sw,sv⟩:=ok;have c1:=hB.c1;have c2:=hB.c2;have c3:=hB.c3;have zg:=hB.lt;replace hB:=Hd hB;replace lw:=Hd lw;replace lv:=Hd lv;replace lb:=Hd lb;obtain⟨hr1,hr2⟩:=hr;go_enter Tryz.func254,Tryz.ntmps254;go_wp2_with (fail);go_loopw [2,7,8] (fun r o i wr=>∃ (k:Nat) (rm up:Int),i=.int .i64 k/\r=.int .i64 rm/\o=.int .i64 up/\k<=l.length/\0<=rm/\rm<=2147483647/\0<=up/\up<=2147483647*(k:Int)/\Hid (Zu room (ws.drop from_) (vs.drop from_)=up+Zu rm (ws.drop k) (vs.drop k))/\Ext w wr) (fun _ _ i _=>l.length-(intOf i).toNat)
 case atStart=>exact⟨from_,room,0,rfl,rfl,rfl,hf,hr1,hr2,by omega,by omega,(Int.zero_add _).symm,Ext.rf _⟩
 case round =>
  obtain⟨k,rm,up,rfl,rfl,rfl,hk,b1,b2,b3,b4,HS,Y⟩:=hrel;have k1:=Ze Y zg c1
  by_cases hlt:k<l.length
  ·have hkw:k<ws.length:=by rw[lw.out];omega
   have hkv:k<vs.length:=by rw[lv.out];omega
   obtain⟨wb,wo,u,rfl,zu,cu,eu,du⟩:=(rW.ext Y).at hkw;obtain⟨vb,vo,v,rfl,zv,cv,ev,dv⟩:=(rV.ext Y).at hkv;have bu:=sw.get eu.out;have bv:=sv.get ev.out;have k2:=Ze Y zg c2;have k3:=Ze Y zg c3;have zg':=Nat.lt_of_lt_of_le zg Y.size
   by_cases hgt:rm<u
   ·have HN:Hid (Zu room (ws.drop from_) (vs.drop from_)=up+v*rm / u):=by
     have h:=HS.out;rw[du.out,dv.out,Zu,if_pos hgt] at h;exact h
    have hm:=Wl bv.1 bv.2 b1 b2;have hq:0<=v*rm / u/\v*rm / u<=4611686014132420609:=by
     refine⟨Int.ediv_nonneg hm.1 (by omega),?_⟩;have:=Int.ediv_le_self u hm.1;omega
    have PP:=Hd (fun W=>Zcr v rm u W bv ⟨b1,b2⟩ ⟨by omega,bu.2⟩);generalize v*rm / u=q at *;clear hm HS eu du ev dv sw sv;obtain⟨q1,q2⟩:=hq;go_wp2_with (fail);go_region_held3 (fun w'=>w'.cell? ⟨g,2,none⟩=some (.slice (some ⟨wb,wo,none⟩) ws.length wc)/\w'.cell? ⟨g,3,none⟩=some (.slice (some ⟨vb,vo,none⟩) vs.length vc)/\w'.cell? ⟨wb,wo+k,none⟩=some (.int .i64 u)/\w'.cell? ⟨vb,vo+k,none⟩=some (.int .i64 v)) (go_keep)
     (first | (go_at_call 255;refine(PP.out _).mono ?_;rintro e w2 ⟨rfl,x2⟩;have X2:=Ext.tr (a:=wr) (by(repeat (first | assumption | exact Ext.rf _ | apply Ext.drew | apply Ext.drewN | apply Ext.alloc))) x2;have s1:=Ze X2 zg' k2;have s2:=Ze X2 zg' k3;have s3:=Ze X2 zu cu;have s4:=Ze X2 zv cv))
    all_goals go_wp2
    all_goals go_ret
    all_goals exact⟨ZW HN.out.symm,Ext.tr Y (by(repeat (first | assumption | exact Ext.rf _ | apply Ext.drew | apply Ext.drewN | apply Ext.alloc)))⟩
   ·have HN:Hid (Zu room (ws.drop from_) (vs.drop from_)=(up+v)+Zu (rm-u) (ws.drop (k+1)) (vs.drop (k+1))):=by
     have h:=HS.out;rw[du.out,dv.out,Zu,if_neg hgt,<-Int.add_assoc] at h;exact h
    clear HS eu du ev dv sw sv;go_wp2;go_roundw
    case rel=>exact⟨k+1,rm-u,up+v,by go_num,rfl,rfl,by omega,by omega,by omega,by omega,by omega,HN,Y⟩
    case measure=>simp[intOf];omega
  ·have HN:Hid (Zu room (ws.drop from_) (vs.drop from_)=up):=by
    have h:=HS.out;rw[List.drop_of_length_le (l:=ws) (i:=k) (by rw[lw.out];omega)] at h;rw[h];have h0:Zu rm [] (vs.drop k)=0:=by cases vs.drop k<;>rfl
    exact(by rw[h0,Int.add_zero]:up+Zu rm [] (vs.drop k)=up)
   clear HS sw sv;go_wp2;go_ret;exact⟨ZW HN.out.symm,Y⟩
def JH (b:Int×Int) : Value:=.tuple #[.int .i64 b.1,.int .i64 b.2]
theorem Zbz {base g:Nat}{cap:Int}{l:List Nat}{ws vs bs:List Int}(P:Option Addr)(c:Nat)(p:List Int)(w:World)(H:KernB w base g cap l ws vs bs)(ok:KOk cap l ws vs bs)(hbs:bs=Yv vs 0)(hP:RdI w P p)(lp:p.length<=1000000000) :
  Calls Tryz.prog 250 #[.pointer (some ⟨g,0,none⟩),.slice P p.length c] w fun e w'=>e=.returned (JH (Wc cap ws vs p))/\Ext w w':=by
 have ST:=Zbx P c p w H ok hP lp;have HBr:=fun(room:Int) (hf:p.length<=l.length) (hr:0<=room/\room<=2147483647) W (x:Ext w W)=>Zap p.length room W (H.ext x) ok hf hr
 obtain⟨PA,pc,WA,wc,VA,vc,HA,hc,hB,-,-,-,-,⟨rH,-⟩⟩:=H;obtain⟨okc,l64,lw,lv,lb,sw,sv⟩:=ok;have c4:=hB.c4;have zg:=hB.lt;replace hB:=Hd hB;replace ST:=Hd ST;replace HBr:=Hd HBr;have HK:∀ o,stP cap 0 ws vs p=o->Wc cap ws vs p=(match o with
  | none=>(0,1)
  | some (room,out)=>(out+Zi (vs.drop p.length)-Zu room (ws.drop p.length) (vs.drop p.length),0)):=fun o ho=>by subst ho;rfl
 replace HK:=Hd HK;obtain⟨st,hst⟩:∃ st,Hid (stP cap 0 ws vs p=st):=⟨_,rfl⟩;rw[hst.out] at ST;have HK2:=HK.out _ hst.out;clear HK;rcases st with _ | ⟨room,out⟩
 ·simp only at HK2
  rw[HK2];replace hbs:=Hd hbs;replace lw:=Hd lw;replace lv:=Hd lv;replace lb:=Hd lb;clear HK2;go_enter Tryz.func250,Tryz.ntmps250;go_wp2_with (fail);refine ST.out.mono ?_;rintro e w1 ⟨rfl,x1⟩;unfold Zcq;go_wp2;go_ret2;exact⟨rfl,x1⟩
 ·simp only at HK2
  have hle:p.length<=l.length:=by
   by_cases h:ws.length<p.length
   ·have h2:=hst.out;rw[Wx h] at h2;cases h2
   ·omega
  have bR:=UP (fun x hx=>(sw x hx).1) okc.1 hst.out;have bO:=QY sv hst.out;have hx:bs[p.length]?=some (Zi (vs.drop p.length)):=by
   rw[hbs];exact QK (by omega) (by omega)
  obtain⟨hb,ho,x,rfl,zh,ch,ex,_⟩:=rH.at (k:=p.length) (by omega);obtain rfl:x=Zi (vs.drop p.length):=by
   have h:=ex.out;rw[hx] at h;exact(Option.some.inj h).symm
  have bS:=UC sv p.length;rw[lv] at bS;have HB0:=HBr.out room hle ⟨bR.1,by omega⟩;have bN:=YG (room:=room) (ws:=ws.drop p.length) (vs:=vs.drop p.length) bR.1 (fun x hx=>(sw x (List.mem_of_mem_drop hx)).1) (fun x hx=>(sv x (List.mem_of_mem_drop hx)).1);have bL:=Wd (room:=room) (ws:=ws.drop p.length) (vs:=vs.drop p.length) bR.1 (fun x hx=>(sw x (List.mem_of_mem_drop hx)).1) (fun x hx=>(sv x (List.mem_of_mem_drop hx)).1);rw[HK2];generalize Zi (vs.drop p.length)=S at *;generalize Zu room (ws.drop p.length) (vs.drop p.length)=br at *;obtain⟨bR1,bR2⟩:=bR;obtain⟨bO1,bO2⟩:=bO;obtain⟨bS1,bS2⟩:=bS;have ad1:Hid (IntKind.i64.wrap (out+S)=out+S):=IntWalk.i64_in _ (by omega);have ad2:Hid (IntKind.i64.wrap (out+S-br)=out+S-br):=IntWalk.i64_in _ (by omega);have hpb:(p.length:Int)<(bs.length:Int):=by omega
  have hpb2:p.length<bs.length:=by omega
  replace hbs:=Hd hbs;replace lw:=Hd lw;replace lv:=Hd lv;replace lb:=Hd lb;replace HB0:=Hd HB0;clear HK2 hx ex HBr;go_enter Tryz.func250,Tryz.ntmps250;go_wp2_with (fail);refine ST.out.mono ?_;rintro e w1 ⟨rfl,x1⟩;unfold Zcq;have k4:=Ze x1 zg c4;have kh:=Ze x1 zh ch;have zg1:=Nat.lt_of_lt_of_le zg x1.size;have zh1:=Nat.lt_of_lt_of_le zh x1.size;go_wp2_with (fail);have ad1':=ad1.out;have ad2':=ad2.out;go_region_held3 (fun w'=>w'.cell? ⟨g,4,none⟩=some (.slice (some ⟨hb,ho,none⟩) bs.length hc)/\w'.cell? ⟨hb,ho+p.length,none⟩=some (.int .i64 S)) (go_keep)
   (first | (go_at_call 254;refine(HB0.out _ (Ext.tr (a:=w) x1 (by(repeat (first | assumption | exact Ext.rf _ | apply Ext.drew | apply Ext.drewN | apply Ext.alloc))))).mono ?_;rintro e w2 ⟨rfl,x2⟩;have X2:=Ext.tr (a:=w1) (by(repeat (first | assumption | exact Ext.rf _ | apply Ext.drew | apply Ext.drewN | apply Ext.alloc))) x2;have s1:=Ze X2 zg1 k4;have s2:=Ze X2 zh1 kh))
  all_goals go_wp2
  all_goals go_ret2
  all_goals exact⟨rfl,Ext.tr x1 (by(repeat (first | assumption | exact Ext.rf _ | apply Ext.drew | apply Ext.drewN | apply Ext.alloc)))⟩
def WP (rows:List (List Int)) : Nat->List Nat->Int
 | last,[]=>Za rows last 0
 | last,u::q=>Za rows last u+WP rows u q
def WQ (co:List (List Int)) : List Nat->Int
 | []=>0
 | u::q=>WP co u q
theorem Vz {rows:List (List Int)}(num:∀ a b,a<rows.length->b<rows.length->0<=Za rows a b/\Za rows a b<=2147483647) : ∀ (q:List Nat) (s:Nat),s<rows.length->(∀ x∈q,x<rows.length)->0<=WP rows s q/\WP rows s q<=2147483647*((q.length:Int)+1)
 | [],s,hs,_=>by have:=num s 0 hs (by omega);simp only[WP,List.length_nil];omega
 | u::q,s,hs,h=>by
  have h1:=num s u hs (h u (by simp));have h2:=Vz num q u (h u (by simp)) fun x hx=>h x (by simp[hx])
  simp only[WP,List.length_cons];omega
theorem U7 {l:List Nat}{k y:Nat}(h:l[k]?=some y) : (Zl l)[k]?=some (y:Int):=by simp[Zl,h]
theorem Xc (m i:Nat)(hm:m<18446744073709551616)(hi:i<64)(w:World) : Calls Tryz.prog 268 #[ZE m,.int .i64 i] w fun e w'=>e=.returned (ZE (Ye m i))/\Ext w w':=by
 unfold ZE Ye;have K:=Wt m (2^i) hm (Nat.pow_lt_pow_right (by omega) hi);have sh:=Vq i hi;generalize 2^i=b2 at *;generalize Z7 m b2=z at *;replace K:=Hd K;replace sh:=Hd sh;have B1':Blk ((w.alloc (.cells #[.int .u64 m,.int .u64 0] 141)).alloc (.cells #[.int .u64 0,.int .u64 0] 141)) w.heap.size 141 #[.int .u64 m,.int .u64 0]:=.alloc (.new rfl) _;have B2:Blk ((w.alloc (.cells #[.int .u64 m,.int .u64 0] 141)).alloc (.cells #[.int .u64 0,.int .u64 0] 141)) (w.heap.size+1) 141 #[.int .u64 0,.int .u64 0]:=.new (by simp);have B1:Blk (w.alloc (.cells #[.int .u64 m,.int .u64 0] 141)) w.heap.size 141 #[.int .u64 m,.int .u64 0]:=.new rfl;go_enter Tryz.func268,Tryz.ntmps268;go_wp2_with (fail);refine(Yh _ _).mono ?_;rintro e w1 ⟨rfl,x1⟩;have e1:(decide (0<=(i:Int))&&decide ((i:Int)<128))=true:=by simp;omega
 rw[e1];have c0:w1.cell? ⟨w.heap.size,0,none⟩=some (.int .u64 m):=(B1'.ext x1).cell 0;have c1:w1.cell? ⟨w.heap.size,1,none⟩=some (.int .u64 0):=(B1'.ext x1).cell 1;have f0:=(B1'.ext x1).free 0;have r0:w1.cell? ⟨w.heap.size+1,0,none⟩=some (.int .u64 0):=(B2.ext x1).cell 0;have r1:w1.cell? ⟨w.heap.size+1,1,none⟩=some (.int .u64 0):=(B2.ext x1).cell 1;have g0:=(B2.ext x1).free 0;have g1:=(B2.ext x1).free 1;have X1:=Hd (Ext.tr (a:=w) (by(repeat (first | assumption | exact Ext.rf _ | apply Ext.drew | apply Ext.drewN | apply Ext.alloc))) x1);replace K:=K.out;replace sh:=sh.out;have wz:IntKind.i64.wrap 0=0:=by decide
 have q1:(i:Int) / 64=0:=by omega
 have q2:(i:Int).tmod 64=(i:Int):=by rw[Int.tmod_eq_emod_of_nonneg (by omega)];omega
 have bA:=B1'.ext x1;have bR:=B2.ext x1;clear x1 B1' B2 e1 c1 f0 r0 r1 g0 g1;have bA2:=Hd (bA.set 0 (.int .u64 z));have bR2:=Hd (bR.far (p:=⟨w.heap.size,0,none⟩) (by simp) (.int .u64 z));have X2:=Hd (X1.out.setNew (p:=⟨w.heap.size,0,none⟩) (Nat.le_refl _) (.int .u64 z));have fA:w1.frozen? ⟨w.heap.size,0,none⟩=false:=bA.free 0;go_upto_region 2 with(fail);refine wp_region_any (by kernel_rfl) ?_
 change wpAny _ _ _ _ _ _ _ (World.drew _)
 refine Zc (i:=0) (op:=Op.move (Operand.tmp 1)) (t:=3) (d:=some 7) (v:=?_) rfl (by decide +kernel) (by decide +kernel) (by decide +kernel) (fun _ _ _ h=>h) ?_ ?_
 case refine_2=>(intro _;unfold Zd;go_simp;try with_reducible rfl)
 try simp only[lay]
 refine Zc (i:=1) (op:=Op.binOp BinOp.quo 3 (Operand.tmp 7) (Operand.const (Value.int IntKind.i64 64)) 3) (t:=3) (d:=some 8) (v:=?_) rfl (by decide +kernel) (by decide +kernel) (by decide +kernel) (fun _ _ _ h=>h) ?_ ?_
 case refine_2=>(intro _;unfold Zd;go_simp;try with_reducible rfl)
 try simp only[lay]
 refine Zc (i:=2) (op:=Op.indexAddr 141 (Operand.tmp 2) (Operand.tmp 8)) (t:=0) (d:=some 9) (v:=?_) rfl (by decide +kernel) (by decide +kernel) (by decide +kernel) (fun _ _ _ h=>h) ?_ ?_
 case refine_2=>(intro _;unfold Zd;go_simp;try with_reducible rfl)
 try simp only[lay]
 refine Zc (i:=4) (op:=Op.move (Operand.tmp 1)) (t:=3) (d:=some 11) (v:=?_) rfl (by decide +kernel) (by decide +kernel) (by decide +kernel) (fun _ _ _ h=>h) ?_ ?_
 case refine_2=>(intro _;unfold Zd;go_simp;try with_reducible rfl)
 try simp only[lay]
 refine Zc (i:=5) (op:=Op.binOp BinOp.rem 3 (Operand.tmp 11) (Operand.const (Value.int IntKind.i64 64)) 3) (t:=3) (d:=some 12) (v:=?_) rfl (by decide +kernel) (by decide +kernel) (by decide +kernel) (fun _ _ _ h=>h) ?_ ?_
 case refine_2=>(intro _;unfold Zd;go_simp;try with_reducible rfl)
 try simp only[lay]
 refine Zc (i:=6) (op:=Op.binOp BinOp.shl 53 (Operand.const (Value.int IntKind.u64 1)) (Operand.tmp 12) 3) (t:=53) (d:=some 13) (v:=?_) rfl (by decide +kernel) (by decide +kernel) (by decide +kernel) (fun _ _ _ h=>h) ?_ ?_
 case refine_2=>(intro _;unfold Zd;go_simp;try with_reducible rfl)
 try simp only[lay]
 refine Zm 3 (by decide +kernel) (Zr (T:=53) (x:=Operand.tmp 9) (t:=53) (d:=some 10) rfl (.pointer (some ⟨w.heap.size,0,none⟩)) (by kernel_rfl) (.int .u64 m) (by go_simp) ?_)
 try simp only[lay]
 refine Zc (i:=7) (op:=Op.binOp BinOp.andNot 53 (Operand.tmp 10) (Operand.tmp 13) 53) (t:=53) (d:=some 14) (v:=?_) rfl (by decide +kernel) (by decide +kernel) (by decide +kernel) (fun _ _ _ h=>h) ?_ ?_
 case refine_2=>(intro _;unfold Zd;go_simp;try with_reducible rfl)
 try simp only[lay]
 refine Zc (i:=8) (op:=Op.indexAddr 141 (Operand.tmp 2) (Operand.tmp 8)) (t:=0) (d:=some 15) (v:=?_) rfl (by decide +kernel) (by decide +kernel) (by decide +kernel) (fun _ _ _ h=>h) ?_ ?_
 case refine_2=>(intro _;unfold Zd;go_simp;try with_reducible rfl)
 try simp only[lay]
 refine Zm 9 (by decide +kernel) (YH rfl (.pointer (some ⟨w.heap.size,0,none⟩)) (.int .u64 z) (by kernel_rfl) (by kernel_rfl) (by go_simp;rfl) ?_);refine wpAny_done (by kernel_rfl) ?_ _;clear c0 fA bA bR X1 hm K sh;generalize w1.setCell ⟨w.heap.size,0,none⟩ (.int .u64 z)=w2 at *;clear w1;have c0:=bA2.out.c0;have c1:=bA2.out.c1;have r0:=bR2.out.c0;have r1:=bR2.out.c1;have g0:=bR2.out.free 0;have g1:=bR2.out.free 1;go_simp;go_wp2_with (fail);refine bodyPost_ret (v:=.agg #[.int .u64 z,.int .u64 0]) (by simp[results,Tryz.results268,go_sem, *]) rfl ⟨rfl,?_⟩;exact((X2.out.setNew (p:=⟨w.heap.size+1,0,none⟩) (by simp) _).setNew (p:=⟨w.heap.size+1,1,none⟩) (by simp) _).drew
open Go.RowKit Go.ChangeShapes Go.WideShapes Go.ChangeAt Go.Deep Go.Shelf
attribute [local go_sem] Oper.semAt_some
theorem ZP {β:Type}{k B:Nat}(hk:k<B)(t:TypeId)(cs:β->Array Value) : OwnFrom B (fun s W=>Blk W k t (cs s)):=fun s W W' row hs hg hr =>
 (hg.block k hs.lt (fun e=>by obtain⟨h1,_⟩:=hr _ e.symm;omega)).trans hs
def Held (w0:World)(sb:Nat)(w:World) : Prop:=w0.heap.size<=w.heap.size/\∀ b,b<w0.heap.size->b≠sb->w.heap[b]?=w0.heap[b]?
theorem Held.blk {w0 w:World}{sb g:Nat}{t:TypeId}{cs:Array Value}(h:Held w0 sb w)(hb:Blk w0 g t cs)(hne:g≠sb) : Blk w g t cs:=(h.2 g hb.lt hne).trans hb
theorem Held.set {w0 w:World}{sb:Nat}(h:Held w0 sb w)(u:Value) : Held w0 sb (w.setCell ⟨sb,0,none⟩ u):=⟨by simp;exact h.1,fun b h1 h2=>(Below.heap_setCell w ⟨sb,0,none⟩ u b h2).trans (h.2 b h1 h2)⟩
theorem Held.ext {w0 w w':World}{sb:Nat}(h:Held w0 sb w)(x:Ext w w') : Held w0 sb w':=⟨Nat.le_trans h.1 x.size,fun b h1 h2=>(x.block b (Nat.lt_of_lt_of_le h1 h.1)).trans (h.2 b h1 h2)⟩
theorem Xj {β:Type}{w0:World}{B sb:Nat}(hB:w0.heap.size<=B) : OwnFrom B (fun(_:β) W=>Held w0 sb W):=fun _ W W' row hs hg hr =>
 ⟨Nat.le_trans hs.1 hg.size,fun b h1 h2=>(hg.block b (Nat.lt_of_lt_of_le h1 hs.1) (fun e=>by have:=(hr b e.symm).1;omega)).trans (hs.2 b h1 h2)⟩
theorem KeepsFrom.of_ext {B:Nat}{W W':World}(x:Ext W W') : KeepsFrom B W W':=⟨x.size,fun k _ _ hk _=>(x.block k (Array.getElem?_eq_some_iff.1 hk).1).trans hk⟩
theorem Q7 {F:Fence}{nn:Nat}{w:World}{ops:Array Oper}{rest:List Oper}{o:Oper}{a:Act}{Q:Exit->Act->World->Prop}(hg:o.guard=none)(l c:Operand)(hop:o.op=Op.makeSlice 22 l c)
  (base:Nat) (n:Nat) (hl:a.eval l=.int .i64 (n:Int)) (hc:a.eval c=.int .i64 (n:Int)) (hn:n<=2^44) (hbase:base<=w.heap.size)
  (hK:∀ w',OwI w' base (some ⟨w.heap.size,0,none⟩) n (List.replicate n 0)->w.grownBy w' none->wpListIn F nn Tryz.prog ops Q rest (a.put o.dst (.slice (some ⟨w.heap.size,0,none⟩) n n)) w') :
  wpListIn F nn Tryz.prog ops Q (o::rest) a w:=by
 obtain⟨i0,hi,hz0,hz1,hz2⟩:=info_parts YF;refine wpListIn_plain hg fun K hK'=>?_
 obtain⟨w',hrun,r1,r2⟩:=run_make_full (P:=Tryz.prog) w base 22 3 i0 _ 1 Tryz.underlying22 hi hz0 hz1 .i64 .i64 n (by rw[hz2];omega) (by simp only[maxLen];omega) hbase;have e:(madeCells (Value.int .i64 0).cells (n*1)).toList=(List.replicate n (0:Int)).map (Value.int .i64):=by
  simp[madeCells,Value.cells,List.map_const',Nat.mod_one]
 rw[e] at r1;unfold Oper.wpIn;refine⟨?_,?_⟩
 ·simp[Oper.about,hop]
 ·rw[Oper.semAt_plain F _ _ (by rw[hop];intro c hc';cases hc')]
  simp[execOp,hop,hl,hc,hrun,Result.andThen];exact hK' _ _ (hK w' (by simpa [OwI] using r1) r2)
end Go.Proofs.YtmojhhlcocjoaaaGreatDoor
namespace Go.Proofs.YtmojhhlcocjoaaaGreatDoor
open Go.RowKit Go.ChangeShapes Go.WideShapes Go.ChangeAt Go.Deep
section
variable {P:Program} {ops:Array Oper} {i:Nat} {t:TypeId} {d:Option Tmp} {a:Act} {w w':World} {K:Act->World->Prop} {Q:Exit->Act->World->Prop}
theorem ZdQ {T:TypeId}{f:Nat}{x:Operand}(hi:W5 ops i=some (none,.fieldAddr T x f,t,d))(p:Value)(hx:a.eval x=p)(v:Value)(hrun:(Instr.fieldAt T p f).run P w=.ok v w)(hK:K (a.put d v) w) : wpOp P ops Q i K a w :=
 Zz hi v (by simp[Zd,execOp,hx,hrun]) hK
end
def ZbA (i:InstP)(w:World)(e:Ending)(w':World) : Prop:=∃ A3 c3 B3 d3 C cc us,e=.returned (.agg #[.int .i64 i.kind,.int .i64 i.n,.int .i64 i.cap,.slice A3 i.weight.length c3,.slice B3 i.value.length d3,.slice C i.cost.length cc])/\OwV w' w.heap.size 22 1 C i.cost.length cc us/\RowsO w' w.heap.size us i.cost/\Ext w w'
theorem QL (i:InstP)(vs:List Value)(w:World)(H:RInst w vs i)(lw:i.weight.length<=1000000000)(lv:i.value.length<=1000000000)(lc:i.cost.length<=1000000)(lr:∀ r∈i.cost,r.length<=1000000000) :
  Calls Tryz.prog 10 #[.agg (List.toArray vs)] w (ZbA i w):=by
 obtain⟨A,a,B,b,C,c,rfl,⟨rA,iA,lA,mA⟩,⟨rB,iB,lB,mB⟩,⟨rC,lC,mC⟩⟩:=H;obtain⟨kind,nn,cap,xw,xv,co⟩:=i;simp only at *;obtain⟨i0,hi,hz0,hz1,hz2⟩:=info_parts Vu;replace hi:=Hd hi;replace hz0:=Hd hz0;replace hz1:=Hd hz1;replace hz2:=Hd hz2;replace lr:=Hd lr;have X:Ext w ((w.alloc (.cells #[.int .i64 kind,.int .i64 nn,.int .i64 cap,.slice A xw.length a,.slice B xv.length b,.slice C co.length c] 25)).alloc (.cells #[.int .i64 0,.int .i64 0,.int .i64 0,.slice none 0 0,.slice none 0 0,.slice none 0 0] 25)):=((Ext.rf _).alloc _).alloc _;have B1:Blk ((w.alloc (.cells #[.int .i64 kind,.int .i64 nn,.int .i64 cap,.slice A xw.length a,.slice B xv.length b,.slice C co.length c] 25)).alloc (.cells #[.int .i64 0,.int .i64 0,.int .i64 0,.slice none 0 0,.slice none 0 0,.slice none 0 0] 25)) w.heap.size 25 #[.int .i64 kind,.int .i64 nn,.int .i64 cap,.slice A xw.length a,.slice B xv.length b,.slice C co.length c]:=.alloc (.new rfl) _;have B2:Blk ((w.alloc (.cells #[.int .i64 kind,.int .i64 nn,.int .i64 cap,.slice A xw.length a,.slice B xv.length b,.slice C co.length c] 25)).alloc (.cells #[.int .i64 0,.int .i64 0,.int .i64 0,.slice none 0 0,.slice none 0 0,.slice none 0 0] 25)) (w.heap.size+1) 25 #[.int .i64 0,.int .i64 0,.int .i64 0,.slice none 0 0,.slice none 0 0,.slice none 0 0]:=.new (by simp);replace X:=Hd X;replace B1:=Hd B1;replace B2:=Hd B2;replace rA:=Hd rA;replace rB:=Hd rB;replace rC:=Hd rC;replace iA:=Hd iA;replace iB:=Hd iB;replace mA:=Hd mA;replace mB:=Hd mB;replace mC:=Hd mC;go_enter Tryz.func10,Tryz.ntmps10;go_wp2_with (fail);generalize (w.alloc (.cells #[.int .i64 kind,.int .i64 nn,.int .i64 cap,.slice A xw.length a,.slice B xv.length b,.slice C co.length c] 25)).alloc (.cells #[.int .i64 0,.int .i64 0,.int .i64 0,.slice none 0 0,.slice none 0 0,.slice none 0 0] 25)=wr at *;have z1:=B1.out.lt;have zw:=X.out.size;refine wp_region_any (by kernel_rfl) ?_
 change wpAny _ _ _ _ _ _ _ (World.drew _)
 refine Zc (i:=0) (op:=Op.fieldAddr 25 (Operand.tmp 1) 3) (t:=0) (d:=some 6) (v:=?_) rfl (by decide +kernel) (by decide +kernel) (by decide +kernel) (fun _ _ _ h=>h) ?_ ?_
 case refine_2=>(intro _;unfold Zd;go_simp;try with_reducible rfl)
 try simp only[lay]
 refine Zc (i:=3) (op:=Op.fieldAddr 25 (Operand.tmp 1) 4) (t:=0) (d:=some 9) (v:=?_) rfl (by decide +kernel) (by decide +kernel) (by decide +kernel) (fun _ _ _ h=>h) ?_ ?_
 case refine_2=>(intro _;unfold Zd;go_simp;try with_reducible rfl)
 try simp only[lay]
 refine Zv (n:=3) [(1,some 7),(2,some 8),(4,some 10),(5,some 11),(6,some 12)] (Ext wr)
  (VF (fun | 1=>some (.slice A xw.length a) | 4=>some (.slice B xv.length b) | 6=>some (.pointer (some ⟨w.heap.size,3,none⟩)) | _=>none)
   (fun j v W=>(j=2->∃ A' c',v=.slice A' xw.length c')/\(j=5->∃ A' c',v=.slice A' xv.length c')))
  Ext #[true,true,true,true,true,true,true,false,false,false] (by decide +kernel) (VF.stab ?_) ?_ ?_ ((Ext.rf _).drew)
 ·intro j v W W' _ h _
  exact h
 ·intro pq hpm u w2 hRW hD K hK
  have b2:=B1.out.ext hRW;have r3:=b2.c3;have r4:=b2.c4;have xe:=X.out.tr hRW;simp only[List.mem_cons,List.not_mem_nil,or_false] at hpm;rcases hpm with rfl | rfl | rfl | rfl | rfl
  ·exact Zr (T:=22) rfl (.pointer (some ⟨w.heap.size,3,none⟩)) (by kernel_rfl) (.slice A xw.length a) (by go_simp) (hK _ _ (VF.mk rfl) hRW (Ext.rf _))
  ·refine ZJ rfl #[.slice A xw.length a] (by go_simp) (Eq.trans (b:=#[u 1]) (by kernel_rfl) (by rw[(hD 1 (Zf (by kernel_rfl))).k rfl])) _ (VX A a xw w2 (rA.out.ext xe) (by omega)) ?_
   rintro e w3 ⟨A3,c3,rfl,o3,x3⟩;exact⟨_,rfl,hK _ _ (VF.mg rfl ⟨fun _=>⟨A3,c3,rfl⟩,(fun h=>by cases h)⟩) (hRW.tr x3) x3⟩
  ·exact Zr (T:=22) rfl (.pointer (some ⟨w.heap.size,4,none⟩)) (by kernel_rfl) (.slice B xv.length b) (by go_simp) (hK _ _ (VF.mk rfl) hRW (Ext.rf _))
  ·refine ZJ rfl #[.slice B xv.length b] (by go_simp) (Eq.trans (b:=#[u 4]) (by kernel_rfl) (by rw[(hD 4 (Zf (by kernel_rfl))).k rfl])) _ (VX B b xv w2 (rB.out.ext xe) (by omega)) ?_
   rintro e w3 ⟨A3,c3,rfl,o3,x3⟩;exact⟨_,rfl,hK _ _ (VF.mg rfl ⟨(fun h=>by cases h),fun _=>⟨A3,c3,rfl⟩⟩) (hRW.tr x3) x3⟩
  ·exact ZdQ (T:=25) (f:=3) rfl (.pointer (some ⟨w.heap.size,0,none⟩)) (by kernel_rfl) (.pointer (some ⟨w.heap.size,3,none⟩)) (by go_simp) (hK _ _ (VF.mk rfl) hRW (Ext.rf _))
 ·intro u w3 hRW hV
  have h1:=(hV (1,some 7) (by simp)).k rfl;have h4:=(hV (4,some 10) (by simp)).k rfl;obtain⟨A3,c3,h2⟩:=((hV (2,some 8) (by simp)).g rfl).1 rfl;obtain⟨B3,d3,h5⟩:=((hV (5,some 11) (by simp)).g rfl).2 rfl;have h6:=(hV (6,some 12) (by simp)).k rfl;simp only[Zj,h1,h2,h4,h5,h6];have b1:=B1.out.ext hRW;have b2:=B2.out.ext hRW;have g3:=b1.c3;have k3:=b1.free 3;have b1a:=b1.set 3 (.slice A3 xw.length c3);have g4:=b1a.c4;have k4:=b1a.free 4;have b1b:=Hd (b1a.set 4 (.slice B3 xv.length d3));have b2b:=Hd ((b2.far (p:=⟨w.heap.size,3,none⟩) (by simp) (.slice A3 xw.length c3)).far (p:=⟨w.heap.size,4,none⟩) (by simp) (.slice B3 xv.length d3));have Xb:=Hd (((X.out.tr hRW).setNew (p:=⟨w.heap.size,3,none⟩) (Nat.le_refl _) (.slice A3 xw.length c3)).setNew (p:=⟨w.heap.size,4,none⟩) (Nat.le_refl _) (.slice B3 xv.length d3));clear h1 h2 h4 h5 h6 hV
  try simp only[lay]
  refine Zm 7 (by decide +kernel) (YH rfl (.pointer (some ⟨w.heap.size,3,none⟩)) (.slice A3 xw.length c3) (by kernel_rfl) (by kernel_rfl) (by go_simp;rfl) ?_);refine Zc (i:=8) (op:=Op.fieldAddr 25 (Operand.tmp 1) 4) (t:=0) (d:=some 13) (v:=?_) rfl (by decide +kernel) (by decide +kernel) (by decide +kernel) (fun _ _ _ h=>h) ?_ ?_
  case refine_2=>(intro _;unfold Zd;go_simp;try with_reducible rfl)
  try simp only[lay]
  refine Zm 9 (by decide +kernel) (YH rfl (.pointer (some ⟨w.heap.size,4,none⟩)) (.slice B3 xv.length d3) (by kernel_rfl) (by kernel_rfl) (by go_simp;rfl) ?_);refine wpAny_done (by kernel_rfl) ?_ _;clear g3 g4 k3 k4 b1 b2 b1a hRW;generalize (w3.setCell ⟨w.heap.size,3,none⟩ (.slice A3 xw.length c3)).setCell ⟨w.heap.size,4,none⟩ (.slice B3 xv.length d3)=w4 at *;clear w3;have q5:=b1b.out.c5;go_simp;go_wp2_with (fail);have lct:=Hd lc;have START:Hid (OwV w4 w.heap.size 22 1 none 0 0 []/\RowsO w4 w.heap.size [] (co.take 0)/\Ext w w4/\Blk w4 w.heap.size 25 #[.int .i64 kind,.int .i64 nn,.int .i64 cap,.slice A3 xw.length c3,.slice B3 xv.length d3,.slice C co.length c]/\Blk w4 (w.heap.size+1) 25 #[.int .i64 0,.int .i64 0,.int .i64 0,.slice none 0 0,.slice none 0 0,.slice none 0 0]):=⟨OwV.nil _ _ _ _,by simpa using RowsO.nil w4 w.heap.size,Xb.out,b1b.out,b2b.out⟩;clear b1b b2b Xb q5;go_loopw [3,17] (fun v3 v17 wr=>∃ (k:Nat) (C':Option Addr) (cc:Nat) (us:List Value),v17=.int .i64 k/\v3=.slice C' k cc/\k<=co.length/\Hid (OwV wr w.heap.size 22 1 C' k cc us/\RowsO wr w.heap.size us (co.take k)/\Ext w wr/\Blk wr w.heap.size 25 #[.int .i64 kind,.int .i64 nn,.int .i64 cap,.slice A3 xw.length c3,.slice B3 xv.length d3,.slice C co.length c]/\Blk wr (w.heap.size+1) 25 #[.int .i64 0,.int .i64 0,.int .i64 0,.slice none 0 0,.slice none 0 0,.slice none 0 0])) (fun _ v17 _=>co.length-(intOf v17).toNat)
  case atStart=>exact⟨0,none,0,[],rfl,rfl,by omega,START⟩
  case round =>
   obtain⟨wo,rfl⟩:∃ wo:World,wo=wr:=⟨_,rfl⟩;clear START;obtain⟨k,C',cc,us,rfl,rfl,hk,HH⟩:=hrel;obtain⟨oV,oR,Y,b1,b2⟩:=HH.out
   by_cases hlt:k<co.length
   ·obtain⟨b',off,D,row,d,rfl,zd,hcd,her,_,rrow,_,ld,md⟩:=(rC.out.ext Y (fun _ _ h=>h.ext Y)).ints hlt
    have lrow:=lr.out row (List.mem_of_getElem? her.out);have etk:Hid (co.take (k+1)=co.take k++[row]):=Hd (by rw[List.take_add_one,her.out];rfl);have q1:(k:Int)<(co.length:Int):=by omega
    replace oV:=Hd oV;replace oR:=Hd oR;replace Y:=Hd Y;replace b1:=Hd b1;replace b2:=Hd b2;replace rrow:=Hd rrow;clear HH her;go_wp2_with (fail);refine(VX D d row _ rrow.out (by omega)).mono ?_;rintro e w5 ⟨D2,e2,rfl,o5,x5⟩;have oV5:=oV.out.ext x5;have zw5:=Y.out.size;go_wp2_with (at_builtin;refine Yq _ (e:=22) Tryz.underlying23 hi.out hz0.out hz1.out hz2.out (by simp[Value.cells]) (by omega) rfl _ _ rfl w.heap.size C' k cc us (some ⟨w5.heap.size,0,none⟩) 1 1 [.slice D2 row.length e2] rfl rfl (oV5.ext ((Ext.rf _).alloc _)) (RdV.blk (.new (by simp))).rdC (by simp) (by simp[Value.oneCell']) (by simp only[maxLen];omega) (by omega) (by have:=x5.size;simp;omega) ?_;rintro C6 c6 w6 o6 g6 _);have M6:=(oV5.ext ((Ext.rf w5).alloc (.cells #[.slice D2 row.length e2] 22))).grownT g6;have X6:Ext wo (w5.alloc (.cells #[.slice D2 row.length e2] 22)):=x5.tr ((Ext.rf _).alloc _);have NEW:Hid (OwV w6 w.heap.size 22 1 C6 (k+1) c6 (us++[.slice D2 row.length e2])/\RowsO w6 w.heap.size (us++[.slice D2 row.length e2]) (co.take (k+1))/\Ext w w6/\Blk w6 w.heap.size 25 #[.int .i64 kind,.int .i64 nn,.int .i64 cap,.slice A3 xw.length c3,.slice B3 xv.length d3,.slice (some ⟨b',off,none⟩) co.length c]/\Blk w6 (w.heap.size+1) 25 #[.int .i64 0,.int .i64 0,.int .i64 0,.slice none 0 0,.slice none 0 0,.slice none 0 0]):=by
     refine⟨o6,?_,(Y.out.tr X6).modT M6 (Nat.le_refl _),(b1.out.ext X6).modT M6 (by decide),(b2.out.ext X6).modT M6 (by decide)⟩;rw[etk.out];exact((oR.out.ext X6).modT M6 (by decide)).snoc (((o5.more zw5).ext ((Ext.rf _).alloc _)).modT M6 (by decide))
    clear oV5 o5 x5 o6 g6 M6 X6 hcd;go_wp2_with (fail);go_roundw
    case rel=>exact⟨k+1,C6,c6,_,by go_num,rfl,by omega,NEW⟩
    case measure=>simp[intOf];omega
   ·obtain rfl:k=co.length:=by omega
    rw[List.take_length] at oR;have c0:=b1.c0;have c1:=b1.c1;have c2:=b1.c2;have c3':=b1.c3;have c4:=b1.c4;have c5:=b1.c5;have k5:=b1.free 5;have r0:=b2.c0;have r1:=b2.c1;have r2:=b2.c2;have r3:=b2.c3;have r4:=b2.c4;have r5:=b2.c5;have f0:=b2.free 0;have f1:=b2.free 1;have f2:=b2.free 2;have f3:=b2.free 3;have f4:=b2.free 4;have f5:=b2.free 5;have m1:ModT w.heap.size [25] wo (wo.setCell ⟨w.heap.size,5,none⟩ (.slice C' co.length cc)):=ModT.set wo b1 (by simp) (Nat.le_refl _) 5 _;have b2':=b2.far (p:=⟨w.heap.size,5,none⟩) (by simp) (.slice C' co.length cc);have m2:=(Zc7 b2' (base:=w.heap.size) (by omega) (.int .i64 kind) (.int .i64 nn) (.int .i64 cap) (.slice A3 xw.length c3) (.slice B3 xv.length d3) (.slice C' co.length cc)).2;have F:=Hd (And.intro ((oV.modT m1 (by decide)).modT m2 (by decide)) (And.intro ((oR.modT m1 (by decide)).modT m2 (by decide)) ((Y.modT m1 (Nat.le_refl _)).modT m2 (Nat.le_refl _))));clear HH oV oR Y b1 b2 m1 m2 b2';go_wp2_with (fail);exact bodyPost_ret (v:=.agg #[.int .i64 kind,.int .i64 nn,.int .i64 cap,.slice A3 xw.length c3,.slice B3 xv.length d3,.slice C' co.length cc]) (by simp[results,Tryz.results10,go_sem, *]) rfl ⟨A3,c3,B3,d3,C',cc,us,rfl,F.out.1,F.out.2.1,F.out.2.2⟩
end Go.Proofs.YtmojhhlcocjoaaaGreatDoor
namespace Go.Proofs.YtmojhhlcocjoaaaGreatDoor
open Go.RowKit Go.ChangeShapes Go.WideShapes Go.ChangeAt Go.Deep
def Xy (rows:List (List Int)) : Bool:=decide (∀ x,x<rows.length->∀ y,y<x->Za rows x y=Za rows y x)
theorem QM {rows:List (List Int)}(h:∀ x,x<rows.length->∀ y,y<x->Za rows x y=Za rows y x) : Xy rows=true:=decide_eq_true h
theorem U8 {rows:List (List Int)}{x y:Nat}(hx:x<rows.length)(hy:y<x)(h:Za rows x y≠Za rows y x) : Xy rows=false:=decide_eq_false fun k=>h (k x hx y hy)
theorem Zaq (i:InstP)(us:List Value)(w:World)(H:RInst w us i)(hc:Zn i=0)(hk:i.kind=3) :
  Calls Tryz.prog 74 #[.agg (List.toArray us)] w fun e w'=>e=.returned (.bool (Xy i.cost))/\Ext w w':=by
 have ok:=ZG hc (by omega);have lw:i.weight.length<=1000000000:=by rw[ok.w];simp
 have lv:i.value.length<=1000000000:=by rw[ok.v];simp
 have CH:=fun(W:World) (x:Ext w W)=>ZT i us W (H.ext x) lw lv
 rw[hc] at CH;have rok:=Yx ok;have n24:=rok.n2;clear ok lw lv hc;obtain⟨kind,nn,cap,xw,xv,co⟩:=i;obtain⟨A,a,B,b,D,d,rfl,-,-,⟨hC,-,-⟩⟩:=H;simp only at *;subst hk;have B1:Hid (Blk (w.alloc (.cells #[.int .i64 3,.int .i64 nn,.int .i64 cap,.slice A xw.length a,.slice B xv.length b,.slice D co.length d] 25)) w.heap.size 25 #[.int .i64 3,.int .i64 nn,.int .i64 cap,.slice A xw.length a,.slice B xv.length b,.slice D co.length d]):=.new rfl;replace CH:=Hd CH;replace hC:=Hd hC;replace rok:=Hd rok;obtain⟨mm,hmm⟩:∃ mm,Hid (Xy co=mm):=⟨_,rfl⟩;rw[hmm.out];go_enter Tryz.func74,Tryz.ntmps74;go_wp2_with (fail);refine(CH.out _ (by(repeat (first | assumption | exact Ext.rf _ | apply Ext.drew | apply Ext.drewN | apply Ext.alloc)))).mono ?_;rintro e w1 ⟨rfl,x1⟩;have X1:=Hd (Ext.tr (a:=w) (by(repeat (first | assumption | exact Ext.rf _ | apply Ext.drew | apply Ext.drewN | apply Ext.alloc))) x1);have BB:=Hd (B1.out.ext x1);have d5:=BB.out.c5;clear x1;go_wp2_with (fail);go_loopw [17] (fun v wr=>∃ k:Nat,v=.int .i64 k/\k<=co.length/\Hid (∀ x,x<k->∀ y,y<x->Za co x y=Za co y x)/\Hid (Ext w1 wr)) (fun v _=>co.length-(intOf v).toNat)
 case atStart=>exact⟨0,rfl,by omega,fun x hx=>absurd hx (Nat.not_lt_zero _),Ext.rf _⟩
 case round =>
  obtain⟨wo,rfl⟩:∃ wo:World,wo=wr:=⟨_,rfl⟩;obtain⟨k,rfl,hk,HS,Y⟩:=hrel
  by_cases hlt:k<co.length
  ·have XW:Hid (Ext w wo):=X1.out.tr Y.out
   obtain⟨cb,cof,D',row,d',rfl,zb,cD,er,_,rD,iD,ld,md⟩:=(hC.out.ext XW.out fun _ _ h=>h.ext XW.out).ints hlt;have lrow:=rok.out.row row (List.mem_of_getElem? er.out);have q1:(k:Int)<(co.length:Int):=by omega
   replace er:=Hd er.out;replace rD:=Hd rD;go_wp2_with (fail);go_loopw [23] (fun v wr=>∃ j:Nat,v=.int .i64 j/\j<=k/\Hid (∀ y,y<j->Za co k y=Za co y k)/\Hid (Ext wo wr)) (fun v _=>k-(intOf v).toNat)
   case atStart=>exact⟨0,rfl,by omega,fun y hy=>absurd hy (Nat.not_lt_zero _),Ext.rf _⟩
   case round =>
    obtain⟨wi,rfl⟩:∃ wi:World,wi=wr:=⟨_,rfl⟩;obtain⟨j,rfl,hj,HJ,Z⟩:=hrel;have XZ:=Hd (Ext.tr (a:=w) (XW.out) Z.out)
    by_cases hlj:j<k
    ·obtain⟨cb',cof',D2,row2,d2,hq,zb2,cD2,er2,_,rD2,iD2,ld2,md2⟩:=(hC.out.ext XZ.out fun _ _ h=>h.ext XZ.out).ints (r:=j) (by omega)
     obtain⟨rfl,rfl⟩:cb=cb'/\cof=cof':=by simpa using hq
     have lrow2:=rok.out.row row2 (List.mem_of_getElem? er2.out);obtain⟨rb,ro,x,rfl,zx,cx,ex,_⟩:=(rD.out.ext Z.out).at (k:=j) (by omega);obtain⟨rb2,ro2,y,rfl,zy,cy,ey,_⟩:=rD2.at (k:=k) (by omega);have d5':wi.cell? ⟨w.heap.size,5,none⟩=some (.slice (some ⟨cb,cof,none⟩) co.length d):=((BB.out.ext Y.out).ext Z.out).cell 5;have exy:Hid (Za co k j=x/\Za co j k=y):=by
      refine⟨?_,?_⟩
      ·unfold Za;rw[getD_some er.out,getD_some ex.out]
      ·unfold Za;rw[getD_some er2.out,getD_some ey.out]
     have q2:(j:Int)<(co.length:Int):=by omega
     have q3:(j:Int)<(row.length:Int):=by omega
     have q4:(k:Int)<(row2.length:Int):=by omega
     replace ex:=Hd ex.out;replace ey:=Hd ey.out;replace er2:=Hd er2.out;replace rD2:=Hd rD2;clear hq
     by_cases hxy:x=y
     ·subst hxy
      have t0:(x != x)=false:=by simp
      have NX:Hid (∀ yy,yy<j+1->Za co k yy=Za co yy k):=fun yy hy=>by
       by_cases e:yy=j
       ·subst e;rw[exy.out.1,exy.out.2]
       ·exact HJ.out yy (by omega)
      go_wp2_with (fail);go_quiet (fail);go_wp2_with (fail);go_roundw
      case rel=>exact⟨j+1,by go_num,by omega,NX,Z.out.drewN _⟩
      case measure=>simp[intOf];omega
     ·have t0:(x != y)=true:=by simpa using hxy
      have HM:Hid (mm=false):=Hd (by
       rw[<-hmm.out];exact U8 hlt hlj (by rw[exy.out.1,exy.out.2];exact hxy))
      go_wp2_with (fail);go_quiet (fail);go_wp2_with (fail);go_ret;rw[HM.out];exact⟨rfl,XZ.out.drewN _⟩
    ·obtain rfl:j=k:=by omega
     have q2:¬(j:Int)<(j:Int):=by omega
     have HS3:Hid (∀ x,x<j+1->∀ y,y<x->Za co x y=Za co y x):=fun x hx=>by
      by_cases e:x=j
      ·subst e;exact HJ.out
      ·exact HS.out x (by omega)
     have YZ:=Hd (Y.out.tr Z.out);go_wp2_with (fail);go_roundw
     case rel=>exact⟨j+1,by go_num,by omega,HS3,YZ.out⟩
     case measure=>simp[intOf];omega
  ·obtain rfl:k=co.length:=by omega
   have HM:Hid (mm=true):=Hd (by
    rw[<-hmm.out];exact QM HS.out)
   have q2:¬(co.length:Int)<(co.length:Int):=by omega
   have XW:=Hd (X1.out.tr Y.out);go_wp2_with (fail);go_ret;rw[HM.out];exact⟨rfl,XW.out⟩
def KernT (w:World)(base g:Nat)(rows:List (List Int))(mi:Bool) : Prop:=∃ C c us,Blk w g 123 #[.slice C rows.length c,.bool mi]/\base<=g/\OwV w base 22 1 C rows.length c us/\RowsO w base us rows
theorem KernT.ext {w w':World}{base g:Nat}{rows:List (List Int)}{mi:Bool}(h:KernT w base g rows mi)(x:Ext w w') : KernT w' base g rows mi:=by
 obtain⟨C,c,us,h1,h2,h3,h4⟩:=h;exact⟨C,c,us,h1.ext x,h2,h3.ext x,h4.ext x⟩
def U9 (i:InstP)(w:World)(e:Ending)(w':World) : Prop:=∃ g,e=.returned (.tuple #[.pointer (some ⟨g,0,none⟩),.int .i64 0])/\KernT w' w.heap.size g i.cost (Xy i.cost)/\Ext w w'
theorem Zcs (i:InstP)(vs:List Value)(w:World)(H:RInst w vs i)(hc:Zn i=0)(hk:i.kind=3) :
  Calls Tryz.prog 38 #[.agg (List.toArray vs)] w (U9 i w):=by
 have ok:=ZG hc (by omega);have lw:i.weight.length<=1000000000:=by rw[ok.w];simp
 have lv:i.value.length<=1000000000:=by rw[ok.v];simp
 have CH:=fun(W:World) (x:Ext w W)=>ZT i vs W (H.ext x) lw lv
 rw[hc] at CH;have CP:=fun(W:World) (x:Ext w W)=>QL i vs W (H.ext x) lw lv (by have:=ok.len;have:=ok.n2;omega) (fun r hr=>by have:=ok.row r hr;have:=ok.n2;omega)
 have MI:=fun(W:World) (x:Ext w W)=>Zaq i vs W (H.ext x) hc hk
 clear ok lw lv hc;obtain⟨mm,hmm⟩:∃ mm,Hid (Xy i.cost=mm):=⟨_,rfl⟩;unfold U9;rw[hmm.out] at MI ⊢;obtain⟨kind,nn,cap,xw,xv,co⟩:=i;obtain⟨A,a,B,b,C,c,rfl,-,-,-⟩:=H;simp only at *;subst hk;have B1:Hid (Blk (w.alloc (.cells #[.int .i64 3,.int .i64 nn,.int .i64 cap,.slice A xw.length a,.slice B xv.length b,.slice C co.length c] 25)) w.heap.size 25 #[.int .i64 3,.int .i64 nn,.int .i64 cap,.slice A xw.length a,.slice B xv.length b,.slice C co.length c]):=.new rfl;replace CH:=Hd CH;replace CP:=Hd CP;replace MI:=Hd MI;go_enter Tryz.func38,Tryz.ntmps38;go_wp2_with (fail);refine(CH.out _ (by(repeat (first | assumption | exact Ext.rf _ | apply Ext.drew | apply Ext.drewN | apply Ext.alloc)))).mono ?_;rintro e w1 ⟨rfl,x1⟩;have X1:=Hd (Ext.tr (a:=w) (by(repeat (first | assumption | exact Ext.rf _ | apply Ext.drew | apply Ext.drewN | apply Ext.alloc))) x1);have BB:=Hd (B1.out.ext x1);clear x1;have c0:=BB.out.c0;have c1:=BB.out.c1;have c2:=BB.out.c2;have c3:=BB.out.c3;have c4:=BB.out.c4;have c5:=BB.out.c5;have zb:=BB.out.lt;have fld:∀ W (A3:Option Addr) (c3:Nat) (B3:Option Addr) (d3:Nat) (C2:Option Addr) (e2:Nat),(Instr.field 25 (.agg #[.int .i64 3,.int .i64 nn,.int .i64 cap,.slice A3 xw.length c3,.slice B3 xv.length d3,.slice C2 co.length e2]) 5).run Tryz.prog W=.ok (.slice C2 co.length e2) W:=fun _ _ _ _ _ _ _=>by kernel_rfl
 go_wp2_with (fail);go_region_held3 (fun w'=>w'.cell? ⟨w.heap.size,0,none⟩=some (.int .i64 3)/\w'.cell? ⟨w.heap.size,1,none⟩=some (.int .i64 nn)/\w'.cell? ⟨w.heap.size,2,none⟩=some (.int .i64 cap)/\w'.cell? ⟨w.heap.size,3,none⟩=some (.slice A xw.length a)/\w'.cell? ⟨w.heap.size,4,none⟩=some (.slice B xv.length b)/\w'.cell? ⟨w.heap.size,5,none⟩=some (.slice C co.length c)) (go_keep)
  (first
   | (go_at_call 10;refine(CP.out _ (X1.out.tr (by(repeat (first | assumption | exact Ext.rf _ | apply Ext.drew | apply Ext.drewN | apply Ext.alloc))))).mono ?_;rintro e w2 ⟨A3,c3',B3,d3,C2,e2,us,rfl,oV,oR,x2⟩;have y2:=Ext.tr (a:=w1) (by(repeat (first | assumption | exact Ext.rf _ | apply Ext.drew | apply Ext.drewN | apply Ext.alloc))) x2;have z2:=y2.size;have oV2:=Hd oV;have oR2:=Hd oR;clear oV oR;have s0:=Ze y2 zb c0;have s1:=Ze y2 zb c1;have s2:=Ze y2 zb c2;have s3:=Ze y2 zb c3;have s4:=Ze y2 zb c4;have s5:=Ze y2 zb c5)
   | (go_at_call 74;refine(MI.out _ (X1.out.tr (by(repeat (first | assumption | exact Ext.rf _ | apply Ext.drew | apply Ext.drewN | apply Ext.alloc))))).mono ?_;rintro e w3 ⟨rfl,x3⟩;have y3:=Ext.tr (a:=w1) (by(repeat (first | assumption | exact Ext.rf _ | apply Ext.drew | apply Ext.drewN | apply Ext.alloc))) x3;have s0:=Ze y3 zb c0;have s1:=Ze y3 zb c1;have s2:=Ze y3 zb c2;have s3:=Ze y3 zb c3;have s4:=Ze y3 zb c4;have s5:=Ze y3 zb c5))
 all_goals go_wp2
 all_goals go_ret2
 all_goals refine⟨_,rfl,⟨_,_,us,.new rfl,?_,?_,?_⟩,?_⟩
 ·exact(X1.out.tr y3).size
 ·exact OwV.ext (n:=co.length) (OwV.more (n:=co.length) oV2.out X1.out.size) (x3.alloc _)
 ·exact(oR2.out.more X1.out.size).ext (x3.alloc _)
 ·exact(X1.out.tr y3).alloc _
theorem Zar {base g:Nat}{rows:List (List Int)}{mi:Bool}(w:World)(H:KernT w base g rows mi)(hn:1<=rows.length)(hl:rows.length<=24) : Calls Tryz.prog 277 #[.pointer (some ⟨g,0,none⟩)] w fun e w'=>e=.returned (.int .i64 (rows.length-1))/\Ext w w':=by
 obtain⟨C,c,us,h1,-,-,-⟩:=H;have c0:=h1.c0;have hw:IntKind.i64.wrap ((rows.length:Int)-1)=(rows.length:Int)-1:=IntWalk.i64_in _ (by omega);go_enter Tryz.func277,Tryz.ntmps277;go_wp2;go_ret;exact⟨rfl,Ext.rf _⟩
def KernA (w:World)(base g:Nat)(rows:List (List Int)) : Prop:=∃ C c us,Blk w g 121 #[.slice C rows.length c]/\base<=g/\OwV w base 22 1 C rows.length c us/\RowsO w base us rows
theorem KernA.ext {w w':World}{base g:Nat}{rows:List (List Int)}(h:KernA w base g rows)(x:Ext w w') : KernA w' base g rows:=by
 obtain⟨C,c,us,h1,h2,h3,h4⟩:=h;exact⟨C,c,us,h1.ext x,h2,h3.ext x,h4.ext x⟩
def JI (i:InstP)(w:World)(e:Ending)(w':World) : Prop:=∃ g,e=.returned (.tuple #[.pointer (some ⟨g,0,none⟩),.int .i64 0])/\KernA w' w.heap.size g i.cost/\Ext w w'
theorem Zct (i:InstP)(vs:List Value)(w:World)(H:RInst w vs i)(hc:Zn i=0)(hk:i.kind=2) :
  Calls Tryz.prog 37 #[.agg (List.toArray vs)] w (JI i w):=by
 have ok:=ZG hc (by omega);have lw:i.weight.length<=1000000000:=by rw[ok.w];simp
 have lv:i.value.length<=1000000000:=by rw[ok.v];simp
 have CH:=fun(W:World) (x:Ext w W)=>ZT i vs W (H.ext x) lw lv
 rw[hc] at CH;have CP:=fun(W:World) (x:Ext w W)=>QL i vs W (H.ext x) lw lv (by have:=ok.len;have:=ok.n2;omega) (fun r hr=>by have:=ok.row r hr;have:=ok.n2;omega)
 clear ok lw lv hc;obtain⟨kind,nn,cap,xw,xv,co⟩:=i;obtain⟨A,a,B,b,C,c,rfl,-,-,-⟩:=H;simp only at *;subst hk;have B1:Hid (Blk (w.alloc (.cells #[.int .i64 2,.int .i64 nn,.int .i64 cap,.slice A xw.length a,.slice B xv.length b,.slice C co.length c] 25)) w.heap.size 25 #[.int .i64 2,.int .i64 nn,.int .i64 cap,.slice A xw.length a,.slice B xv.length b,.slice C co.length c]):=.new rfl;replace CH:=Hd CH;replace CP:=Hd CP;go_enter Tryz.func37,Tryz.ntmps37;go_wp2_with (fail);refine(CH.out _ (by(repeat (first | assumption | exact Ext.rf _ | apply Ext.drew | apply Ext.drewN | apply Ext.alloc)))).mono ?_;rintro e w1 ⟨rfl,x1⟩;have X1:=Hd (Ext.tr (a:=w) (by(repeat (first | assumption | exact Ext.rf _ | apply Ext.drew | apply Ext.drewN | apply Ext.alloc))) x1);have BB:=Hd (B1.out.ext x1);clear x1;have c0:=BB.out.c0;have c1:=BB.out.c1;have c2:=BB.out.c2;have c3:=BB.out.c3;have c4:=BB.out.c4;have c5:=BB.out.c5;go_wp2_with (fail);refine(CP.out _ X1.out).mono ?_;rintro e w2 ⟨A3,c3',B3,d3,C2,e2,us,rfl,oV,oR,x2⟩;have zx:=x2.size;have z1:=X1.out.size;have FIN:Hid (KernA (w2.alloc (.cells #[.slice C2 co.length e2] 121)) w.heap.size w2.heap.size co/\Ext w (w2.alloc (.cells #[.slice C2 co.length e2] 121))) :=
  ⟨⟨C2,e2,us,.new rfl,by omega,(oV.more z1).ext ((Ext.rf _).alloc _),(oR.more z1).ext ((Ext.rf _).alloc _)⟩,(X1.out.tr x2).alloc _⟩
 have fld:∀ W,(Instr.field 25 (.agg #[.int .i64 2,.int .i64 nn,.int .i64 cap,.slice A3 xw.length c3',.slice B3 xv.length d3,.slice C2 co.length e2]) 5).run Tryz.prog W=.ok (.slice C2 co.length e2) W:=fun _=>by kernel_rfl
 clear oV oR x2 c0 c1 c2 c3 c4 c5;go_wp2_with (fail);go_ret2;exact⟨_,rfl,FIN.out.1,FIN.out.2⟩
theorem Zas {base g:Nat}{rows:List (List Int)}(w:World)(H:KernA w base g rows) : Calls Tryz.prog 260 #[.pointer (some ⟨g,0,none⟩)] w fun e w'=>e=.returned (.int .i64 rows.length)/\Ext w w':=by
 obtain⟨C,c,us,h1,-,-,-⟩:=H;have c0:=h1.c0;go_enter Tryz.func260,Tryz.ntmps260;go_wp2;go_ret;exact⟨rfl,Ext.rf _⟩
def Za6 : Option Nat->Value
 | none=>.tuple #[ZE 0,.bool false]
 | some m=>.tuple #[ZE m,.bool true]
theorem Qa (m:Nat)(c:Int)(p:List Int) : ZX m (c::p)=if 0<=c/\c<64/\m.testBit c.toNat=true then ZX (Ye m c.toNat) p else none:=rfl
theorem Zcu {base g:Nat}{rows:List (List Int)}(P:Option Addr)(pc:Nat)(p:List Int)(w:World)(H:KernA w base g rows)(h1:1<=rows.length)(h24:rows.length<=24)(hP:RdI w P p)(lp:p.length<=1000000000) :
  Calls Tryz.prog 262 #[.pointer (some ⟨g,0,none⟩),.slice P p.length pc] w fun e w'=>e=.returned (Za6 (XE rows.length p))/\Ext w w':=by
 have DE:=Hd (fun(W:World) (x:Ext w W)=>Zas W (H.ext x));have FU:=Hd (fun(W:World)=>WG rows.length (by omega) W);have UF:=Yb h24;obtain⟨r,hr⟩:∃ r,Hid (XE rows.length p=r):=⟨_,rfl⟩;rw[hr.out];generalize rows.length=n at *;clear H;unfold XE at hr;replace hP:=Hd hP;have B1:Hid (Blk (w.alloc (.cells #[.int .u64 0,.int .u64 0] 141)) w.heap.size 141 #[.int .u64 0,.int .u64 0]):=.new rfl;have hn0:((n:Int)==0)=false:=by rw[beq_eq_false_iff_ne];omega
 by_cases hlen:n<p.length
 ·have hr2:Hid (r=none):=by
   have h:=hr.out;rw[if_pos hlen] at h;exact h.symm
  have hlb:decide ((n:Int)<(p.length:Int))=true:=decide_eq_true (by omega);rw[hr2.out];unfold Za6 ZE;go_enter Tryz.func262,Tryz.ntmps262;go_wp2_with (fail);refine(DE.out _ (by(repeat (first | assumption | exact Ext.rf _ | apply Ext.drew | apply Ext.drewN | apply Ext.alloc)))).mono ?_;rintro e w1 ⟨rfl,x1⟩;have X1:=Hd (Ext.tr (a:=w) (by(repeat (first | assumption | exact Ext.rf _ | apply Ext.drew | apply Ext.drewN | apply Ext.alloc))) x1);have b1:=B1.out.ext x1;have c0:=b1.c0;have c1:=b1.c1;have f0:=b1.free 0;have f1:=b1.free 1;clear x1 b1;go_wp2_with (fail);refine bodyPost_ret (v:=.tuple #[.agg #[.int .u64 0,.int .u64 0],.bool false]) (by simp[results,Tryz.results262,go_sem, *]) rfl ⟨rfl,?_⟩;exact(X1.out.setNew (p:=⟨w.heap.size,0,none⟩) (Nat.le_refl _) _).setNew (p:=⟨w.heap.size,1,none⟩) (Nat.le_refl _) _
 ·have hr2:Hid (ZX (2^n-1) p=r):=by
   have h:=hr.out;rw[if_neg hlen] at h;exact h
  have hlb:decide ((n:Int)<(p.length:Int))=false:=decide_eq_false (by omega);generalize 2^n-1=m0 at *;unfold ZE at FU;clear hr;go_enter Tryz.func262,Tryz.ntmps262;go_wp2_with (fail);refine(DE.out _ (by(repeat (first | assumption | exact Ext.rf _ | apply Ext.drew | apply Ext.drewN | apply Ext.alloc)))).mono ?_;rintro e w1 ⟨rfl,x1⟩;have X1:=Hd (Ext.tr (a:=w) (by(repeat (first | assumption | exact Ext.rf _ | apply Ext.drew | apply Ext.drewN | apply Ext.alloc))) x1);have b1:=Hd (B1.out.ext x1);clear x1;go_wp2_with (fail);refine(FU.out _).mono ?_;rintro e w2 ⟨rfl,x2⟩;have z12:=x2.size;have zw1:=b1.out.lt;have X3:Ext w (w2.alloc (.cells #[.int .u64 m0,.int .u64 0] 141)):=(X1.out.tr x2).alloc _;have b3:Blk (w2.alloc (.cells #[.int .u64 m0,.int .u64 0] 141)) w.heap.size 141 #[.int .u64 0,.int .u64 0]:=(b1.out.ext x2).alloc _;have s3:Blk (w2.alloc (.cells #[.int .u64 m0,.int .u64 0] 141)) w2.heap.size 141 #[.int .u64 m0,.int .u64 0]:=.new rfl;have START:=Hd (And.intro X3 (And.intro b3 s3));obtain⟨sb,hsb⟩:∃ sb,Hid (sb=w2.heap.size):=⟨_,rfl⟩;have zsb:w.heap.size<sb:=by rw[hsb.out];omega
  clear X3 b3 s3 x2 b1;go_wp2_with (fail);rw[<-hsb.out] at START ⊢;go_loopw [25] (fun v wr=>∃ (k m:Nat),v=.int .i64 k/\k<=p.length/\Hid (ZX m (p.drop k)=r)/\Hid (SubN n m)/\Hid (Ext w wr/\Blk wr w.heap.size 141 #[.int .u64 0,.int .u64 0]/\Blk wr sb 141 #[.int .u64 m,.int .u64 0])) (fun v _=>p.length-(intOf v).toNat)
  case atStart=>exact⟨0,m0,rfl,by omega,hr2,UF,START⟩
  case round =>
   obtain⟨wo,rfl⟩:∃ wo:World,wo=wr:=⟨_,rfl⟩;clear START;obtain⟨k,m,rfl,hk,HF,HU,HH⟩:=hrel;obtain⟨Y,b1,bs⟩:=HH.out;have c0:=bs.c0;have c1:=bs.c1;replace Y:=Hd Y;replace b1:=Hd b1;replace bs:=Hd bs;clear HH
   by_cases hlt:k<p.length
   ·obtain⟨pb,po,c,rfl,zp,cp,ep,dp⟩:=(hP.out.ext Y.out).at hlt
    have HF2:Hid (r=if 0<=c/\c<64/\m.testBit c.toNat=true then ZX (Ye m c.toNat) (p.drop (k+1)) else none):=by
     have h:=HF.out;rw[dp.out,Qa] at h;exact h.symm
    have HA:=Hd (fun(W:World)=>QZ m c HU.out.1 W);unfold ZE at HA;clear HF ep dp;go_wp2_with (fail);refine(HA.out _).mono ?_;rintro e w3 ⟨rfl,x3⟩;have Y3:=Hd (Y.out.tr x3);have b13:=Hd (b1.out.ext x3);have bs3:=Hd (bs.out.ext x3);clear x3 c0 c1 cp
    by_cases hin:0<=c/\c<64/\m.testBit c.toNat=true
    ·have e1:(decide (0<=c/\c<64)&&m.testBit c.toNat)=true:=by rw[decide_eq_true ⟨hin.1,hin.2.1⟩,hin.2.2];rfl
     rw[e1];have HF3:Hid (ZX (Ye m c.toNat) (p.drop (k+1))=r):=by
      have h:=HF2.out;rw[if_pos hin] at h;exact h.symm
     obtain⟨i,rfl⟩:∃ i:Nat,c=(i:Int):=⟨c.toNat,by omega⟩;rw[Int.toNat_natCast] at HF3;have WO:=Hd (fun(W:World)=>Xc m i HU.out.1 (by omega) W);have HU2:=Hd (HU.out.clr i);generalize Ye m i=m2 at *;unfold ZE at WO;have c0:=bs3.out.c0;have c1:=bs3.out.c1;clear hin e1 HF2 HA;go_wp2_with (fail);refine(WO.out _).mono ?_;rintro e w4 ⟨rfl,x4⟩;have bs4:=bs3.out.ext x4;have b14:=b13.out.ext x4;have d0:=bs4.c0;have d1:=bs4.c1;have f0:=bs4.free 0;have f1:=bs4.free 1;have NEW:Hid (Ext w ((w4.setCell ⟨sb,0,none⟩ (.int .u64 m2)).setCell ⟨sb,1,none⟩ (.int .u64 0))/\Blk ((w4.setCell ⟨sb,0,none⟩ (.int .u64 m2)).setCell ⟨sb,1,none⟩ (.int .u64 0)) w.heap.size 141 #[.int .u64 0,.int .u64 0]/\Blk ((w4.setCell ⟨sb,0,none⟩ (.int .u64 m2)).setCell ⟨sb,1,none⟩ (.int .u64 0)) sb 141 #[.int .u64 m2,.int .u64 0]) :=
      ⟨((Y3.out.tr x4).setNew (p:=⟨sb,0,none⟩) (Nat.le_of_lt zsb) _).setNew (p:=⟨sb,1,none⟩) (Nat.le_of_lt zsb) _,(b14.far (p:=⟨sb,0,none⟩) (Nat.ne_of_lt zsb) _).far (p:=⟨sb,1,none⟩) (Nat.ne_of_lt zsb) _,(bs4.set 0 (.int .u64 m2)).set 1 (.int .u64 0)⟩
     clear bs4 b14 x4 c0 c1;go_wp2_with (fail);go_roundw
     case rel=>exact⟨k+1,m2,by go_num,by omega,HF3,HU2,NEW⟩
     case measure=>simp[intOf];omega
    ·have e1:(decide (0<=c/\c<64)&&m.testBit c.toNat)=false:=by
      by_cases h2:0<=c/\c<64
      ·cases h3:m.testBit c.toNat with
       | false=>simp
       | true=>exact absurd ⟨h2.1,h2.2,h3⟩ hin
      ·rw[decide_eq_false h2];rfl
     rw[e1];have HF3:Hid (r=none):=by
      have h:=HF2.out;rw[if_neg hin] at h;exact h
     have d0:=b13.out.c0;have d1:=b13.out.c1;have f0:=b13.out.free 0;have f1:=b13.out.free 1;clear hin e1 HF2 HA;go_wp2_with (fail);refine bodyPost_ret (v:=.tuple #[.agg #[.int .u64 0,.int .u64 0],.bool false]) (by simp[results,Tryz.results262,go_sem, *]) rfl ⟨by rw[HF3.out];rfl,?_⟩;exact(Y3.out.setNew (p:=⟨w.heap.size,0,none⟩) (Nat.le_refl _) _).setNew (p:=⟨w.heap.size,1,none⟩) (Nat.le_refl _) _
   ·obtain rfl:k=p.length:=by omega
    have HF3:Hid (r=some m):=by
     have h:=HF.out;rw[List.drop_length] at h;exact h.symm
    have d0:=b1.out.c0;have d1:=b1.out.c1;have f0:=b1.out.free 0;have f1:=b1.out.free 1;go_wp2_with (fail);refine bodyPost_ret (v:=.tuple #[.agg #[.int .u64 m,.int .u64 0],.bool true]) (by simp[results,Tryz.results262,go_sem, *]) rfl ⟨by rw[HF3.out];rfl,?_⟩;exact(Y.out.setNew (p:=⟨w.heap.size,0,none⟩) (Nat.le_refl _) _).setNew (p:=⟨w.heap.size,1,none⟩) (Nat.le_refl _) _
open Go.RowKit Go.ChangeShapes Go.WideShapes Go.ChangeAt Go.Deep Go.Shelf
attribute [local go_sem] Oper.semAt_some
def Zk (f:Nat->Int)(b:Int)(l:List Nat) : Int:=l.foldl (fun b x=>if b<0 then f x else if f x<b then f x else b) b
theorem YD (f:Nat->Int)(b:Int)(l:List Nat)(x:Nat) : Zk f b (l++[x])=if Zk f b l<0 then f x else if f x<Zk f b l then f x else Zk f b l:=by
 unfold Zk;rw[List.foldl_append]
 rfl
theorem Zcv (A:Option Addr)(rc:Nat)(row:List Int)(m:Nat)(hm:m<18446744073709551616)(h63:∀ x∈Zb m,x<63)(hrow:∀ x∈Zb m,x<row.length)(w:World)(hT:Tab w)(hA:RdI w A row) :
  CallsIn Fence.wide 3 Tryz.prog 269 #[.slice A row.length rc,ZE m] w fun e W'=>e=.returned (.int .i64 (Zk (fun c=>row.getD c 0) (-1) (Zb m)))/\Ext w W':=by
 have hg:=Vs hT;unfold ZE;refine callsIn_of_wp_marks Tryz.func269 rfl trivial ?_ rfl;simp only[Tryz.ntmps269,List.size_toArray,List.length_cons,List.length_nil,Nat.reduceAdd,Nat.reduceSub,Array.replicate_succ,Array.replicate_zero,List.push_toArray,List.append_toArray,List.nil_append,List.cons_append]
 gi_wp2
 refine⟨trivial,?_⟩;refine(callsIn_wide.2 (Wh m _)).mono ?_;rintro e w' ⟨rfl,rfl⟩
 gi_wp2
 have bR:Blk ((((w.alloc (.cells #[.slice A row.length rc] 22)).alloc (.cells #[.int .u64 m,.int .u64 0] 141)).alloc (.cells #[.int .i64 (-1)] 3)).alloc (.cells #[.int .u64 m,.int .u64 0] 141)) w.heap.size 22 #[.slice A row.length rc]:=.alloc (.alloc (.alloc (.new rfl) _) _) _;have bO:Blk ((((w.alloc (.cells #[.slice A row.length rc] 22)).alloc (.cells #[.int .u64 m,.int .u64 0] 141)).alloc (.cells #[.int .i64 (-1)] 3)).alloc (.cells #[.int .u64 m,.int .u64 0] 141)) (w.heap.size+1+1) 3 #[.int .i64 (-1)]:=.alloc (.new (by simp)) _;have bB:Blk ((((w.alloc (.cells #[.slice A row.length rc] 22)).alloc (.cells #[.int .u64 m,.int .u64 0] 141)).alloc (.cells #[.int .i64 (-1)] 3)).alloc (.cells #[.int .u64 m,.int .u64 0] 141)) (w.heap.size+1+1+1) 141 #[.int .u64 m,.int .u64 0]:=.new (by simp);have hB0:Ext w ((((w.alloc (.cells #[.slice A row.length rc] 22)).alloc (.cells #[.int .u64 m,.int .u64 0] 141)).alloc (.cells #[.int .i64 (-1)] 3)).alloc (.cells #[.int .u64 m,.int .u64 0] 141)):=((((Ext.rf w).alloc _).alloc _).alloc _).alloc _;refine wpIn_rangeFunc_ownG rfl (by omega) (gf:=140) (lb:=#[.pointer (some ⟨w.heap.size+1+1+1,0,none⟩)]) rfl trivial (enters_of Tryz.func140 (by kernel_rfl) rfl)
  (YR 2 m hm h63 (w.heap.size+1+1+1) w.heap.size _ bB (hT.ext hB0) hB0.size hg) SetKp.tr (Wi (cs:=#[.int .u64 m,.int .u64 0]) hB0.size bB) (Below.refl _ _) (fun _=>rfl)
  (fun pre W=>Blk W (w.heap.size+1+1) 3 #[.int .i64 (Zk (fun c=>row.getD c 0) (-1) (inL pre))]/\Blk W w.heap.size 22 #[.slice A row.length rc]/\Blk W (w.heap.size+1+1+1) 141 #[.int .u64 m,.int .u64 0]/\Below w.heap.size w W)
  (fun _ _ _=>False)
  (OwnFrom.and (ZP (by simp<;>omega) _ _) (OwnFrom.and (ZP (by simp<;>omega) _ _) (OwnFrom.and (ZP (by simp<;>omega) _ _) (ownFrom_below (Nat.le_refl _) (by simp<;>omega)))))
  (fun _ _ _ _ _ hs _ _=>hs)
  ⟨bO,bR,bB,hB0⟩
  (fun x=>{ tmps:=#[.slice A row.length rc,.agg #[.int .u64 m,.int .u64 0],.pointer (some ⟨w.heap.size,0,none⟩),.pointer (some ⟨w.heap.size+1,0,none⟩),.int .i64 0,.pointer (some ⟨w.heap.size+1+1,0,none⟩),.int .i64 ((x.1:Nat):Int),.agg #[.int .u64 m,.int .u64 0],.func (.func 140) #[] #[.pointer (some ⟨w.heap.size+1+1+1,0,none⟩)],.int .i64 ((x.1:Nat):Int),undef,undef,undef,undef,undef,undef,undef,undef,undef,undef,undef,undef,undef,undef,undef],defers:=[] }) ?assign ?body ?done ?stop
 case assign =>
  intro l x W K hK
  gi_wp2
  exact hK
 case body =>
  rintro l pre x W ⟨hO,hR,hBn,hB⟩ hlt;obtain⟨bb,hbb⟩:∃ bb,Hid (bb=Zk (fun c=>row.getD c 0) (-1) (inL pre)):=⟨_,rfl⟩;rw[<-hbb.out] at hO;have cO:=hO.c0;have fO:=hO.free 0;have cR:=hR.c0;have hxr:=hrow x.1 x.2;obtain⟨ab,ao,y,rfl,zy,cy,ey,_⟩:=(RdI.ext hA hB).at hxr;have eN:Hid (Zk (fun c=>row.getD c 0) (-1) (inL (pre++[x]))=if bb<0 then y else if y<bb then y else bb):=Hd (by
   rw[Xq,YD,<-hbb.out,getD_some ey.out])
  have qx:((x.1:Nat):Int)<(row.length:Int):=by omega
  have N0:Hid (Blk (W.setCell ⟨w.heap.size+1+1,0,none⟩ (.int .i64 y)) (w.heap.size+1+1) 3 #[.int .i64 y]):=hO.set 0 (.int .i64 y);have hmx:Tryz.prog.follows .mixedOrders=true:=by kernel_rfl
  replace hR:=Hd hR;replace hBn:=Hd hBn;replace hB:=Hd hB;replace hO:=Hd hO;clear ey;have N1:=Hd (hR.out.far (p:=⟨w.heap.size+1+1,0,none⟩) (by simp<;>omega) (.int .i64 y));have N2:=Hd (hBn.out.far (p:=⟨w.heap.size+1+1,0,none⟩) (by simp) (.int .i64 y));have N3:=Hd ((Below.refl w.heap.size W).setCell (p:=⟨w.heap.size+1+1,0,none⟩) (by simp<;>omega) (.int .i64 y))
  by_cases hneg:bb<0
  ·rw[if_pos hneg] at eN
   gi_wp2
   gi_region_o
   all_goals gi_wp2
   all_goals exact⟨((KeepsOthers.setCell _ _ _).trans (KeepsOthers.drew _)).from _,⟨N3.out.drew,N2.out.drew.trans hBn.out.symm⟩,by rw[eN.out];exact N0.out.drew,N1.out.drew,N2.out.drew,(hB.out.trans N3.out).drew⟩
  ·rw[if_neg hneg] at eN
   by_cases hy:y<bb
   ·rw[if_pos hy] at eN
    gi_wp2
    gi_region_o
    all_goals gi_wp2
    all_goals exact⟨((KeepsOthers.setCell _ _ _).trans (KeepsOthers.drew _)).from _,⟨N3.out.drew,N2.out.drew.trans hBn.out.symm⟩,by rw[eN.out];exact N0.out.drew,N1.out.drew,N2.out.drew,(hB.out.trans N3.out).drew⟩
   ·rw[if_neg hy] at eN
    gi_wp2
    gi_region_o
    all_goals gi_wp2
    all_goals exact⟨(KeepsOthers.drew _).from _,⟨(Below.refl _ W).drew,rfl⟩,by rw[eN.out];exact hO.out.drew,hR.out.drew,hBn.out.drew,hB.out.drew⟩
 case done =>
  rintro D ys W hD rfl ⟨hO,_,_,hB⟩ hK;rw[Yz] at hO;have cO:=hO.cell 0
  gi_wp2
  refine⟨by simp,.inl ⟨_,_,rfl,run_takeDeferred hK,?_⟩⟩;exact⟨_,results_tmp rfl _ _ _,rfl,hB.trans (belowK_b (w:=w) (Nat.le_refl _) W D _ _ (by simp at hD;omega) hK rfl rfl)⟩
 case stop =>
  rintro D c pre W _ _ h _;exact h.elim
end Go.Proofs.YtmojhhlcocjoaaaGreatDoor
namespace Go.Proofs.YtmojhhlcocjoaaaGreatDoor
open Go.RowKit Go.ChangeShapes Go.WideShapes Go.ChangeAt Go.Deep Go.Shelf
attribute [local go_sem] Oper.semAt_some
def Uw (rows:List (List Int))(l:List Nat) : List Int:=rows.map fun row=>Zk (fun c=>row.getD c 0) (-1) l
def YT (c:Nat)(b:Int) : List (List Int)->List Int->Int
 | row::rows,o::off=>YT c (if b<0 then row.getD c 0-o else if row.getD c 0-o<b then row.getD c 0-o else b) rows off
 | _,_=>b
def ZY (rows:List (List Int))(l:List Nat) : Int:=Zi (Uw rows l)+Zi (l.map fun c=>YT c (-1) rows (Uw rows l))
theorem Yc {f:Nat->Int}{B:Int} : ∀ {l:List Nat} {b:Int},(∀ c∈l,-B<=f c/\f c<=B)->-B<=b->b<=B->-B<=Zk f b l/\Zk f b l<=B
 | [],b,_,h1,h2=>⟨h1,h2⟩
 | c::l,b,h,h1,h2=>by
  have hc:=h c (by simp);have e:Zk f b (c::l)=Zk f (if b<0 then f c else if f c<b then f c else b) l:=rfl;rw[e];refine Yc (fun x hx=>h x (by simp[hx])) ?_ ?_<;>split<;>(try split)<;>omega
theorem UD {c:Nat}{B:Int} : ∀ {rows:List (List Int)} {off:List Int} {b:Int},(∀ row∈rows,0<=row.getD c 0/\row.getD c 0<=B)->(∀ o∈off,-B<=o/\o<=B)->0<=B->-(2*B)<=b->b<=2*B->-(2*B)<=YT c b rows off/\YT c b rows off<=2*B
 | [],off,b,_,_,_,h1,h2=>by cases off<;>exact⟨h1,h2⟩
 | _::_,[],b,_,_,_,h1,h2=>⟨h1,h2⟩
 | row::rows,o::off,b,hr,ho,h0,h1,h2=>by
  have a1:=hr row (by simp);have a2:=ho o (by simp);unfold YT;refine UD (fun x hx=>hr x (by simp[hx])) (fun x hx=>ho x (by simp[hx])) h0 ?_ ?_<;>split<;>(try split)<;>omega
theorem ZbB (A:Option Addr)(rc:Nat)(row:List Int)(m:Nat)(hm:m<18446744073709551616)(h63:∀ x∈Zb m,x<63)(hrow:∀ x∈Zb m,x<row.length)(w:World)(hT:Tab w)(hA:RdI w A row) :
  Calls Tryz.prog 269 #[.slice A row.length rc,ZE m] w fun e W'=>e=.returned (.int .i64 (Zk (fun c=>row.getD c 0) (-1) (Zb m)))/\Ext w W' :=
 callsIn_wide.1 (Zcv A rc row m hm h63 hrow w hT hA)
theorem YU (a:List Int)(x:Int) : Zi (a++[x])=Zi a+x:=by rw[Jo];simp[Zi]
theorem VB {B:Int} : ∀ {l:List Int},(∀ x∈l,-B<=x/\x<=B)->-(B*l.length)<=Zi l/\Zi l<=B*l.length
 | [],_=>by simp[Zi]
 | x::l,h=>by
  have h1:=h x (by simp);have h2:=VB (l:=l) fun y hy=>h y (by simp[hy])
  simp only[Zi,List.length_cons,Int.natCast_add,Int.natCast_one,Int.mul_add,Int.mul_one];omega
end Go.Proofs.YtmojhhlcocjoaaaGreatDoor
namespace Go.Proofs.YtmojhhlcocjoaaaGreatDoor
open Go
section
variable {F:Fence} {n:Nat} {P:Program} {ops:Array Oper} {md:Region.Mode} {C:World->Prop}
theorem Ux {o:Oper}{a:Act}{K:Act->Prop}{K':Act->World->Prop}{Q':Exit->Act->World->Prop}{w:World}(hd:∀ c,o.op≠.defer c)(hw:C w)(h:∀ a w',C w'->K a->K' a w')
  (ha:o.askedIn F P a C) (hh:o.quietIn F n P a C K):o.wpIn F n P a w K' Q':=by
 obtain⟨v,h1,h2⟩:=hh;have h3:=h1 w hw;unfold Oper.quietAtIn at h3;unfold Oper.wpIn;refine⟨ha w hw,?_⟩;rw[Oper.semAt_plain F _ _ hd];generalize (execOp a.eval o).run P w=r at *
 cases r with
 | ok x w' =>
  cases x<;>simp only[Oper.quietUponIn] at h3<;>simp only[Oper.uponIn]
  case value u =>
   obtain⟨e1,e2⟩:=h3;rw[e1,e2];exact h _ _ hw h2
  case skip =>
   obtain⟨e1,e2⟩:=h3;rw[e1,<-e2];exact h _ _ hw h2
  case enter f args =>
   obtain⟨e1,hd,hc⟩:=h3;rw[e1];exact⟨hd,hc.mono fun e w'' ⟨he,hw''⟩=>by subst he;exact h _ _ hw'' h2⟩
 | halt x w'=>simp only[Oper.quietUponIn] at h3
theorem Qw (hd:∀ (i:Nat) (o:Oper),ops[i]?=some o->∀ c,o.op≠.defer c){i:Nat}{a:Act}{K:Act->Prop}{K':Act->World->Prop}{Q':Exit->Act->World->Prop}{w:World}(hC:C w)(h:∀ a w',C w'->K a->K' a w')
  (hh:qOpIn F n P ops C i K a):wpOpIn F n P ops Q' i K' a w:=by
 unfold qOpIn at hh;unfold wpOpIn;split
 ·rename_i ho;simp only[ho] at hh;exact h _ _ hC hh
 ·rename_i o ho
  simp only[ho] at hh;obtain⟨ha,hh⟩:=hh;split
  ·rename_i hw;simp only[hw,if_true] at hh;exact Ux (hd i o ho) hC h ha hh
  ·rename_i hw;simp only[hw] at hh;exact⟨ha w hC,h _ _ hC hh⟩
theorem WR {Q:Act->Prop}{Q':Exit->Act->World->Prop}(hd:∀ (i:Nat) (o:Oper),ops[i]?=some o->∀ c,o.op≠.defer c)(hQ:∀ a w,C w->Q a->Q' .normal a w) : ∀ (fuel:Nat) (listed:Array Bool) (a:Act) (w:World),C w ->
  wpAnyQIn F n P md ops C Q fuel listed a->wpAnyIn F n P md ops Q' fuel listed a w
 | 0,_,_,_,hw,h=>⟨h.1,hQ _ _ hw h.2⟩
 | fuel+1,_,_,_,hw,h=>⟨fun h0=>hQ _ _ hw (h.1 h0),fun i hi=>Qw hd hw (fun a' w' hw'=>WR hd hQ fuel _ a' w' hw') (h.2 i hi)⟩
def UE : Oper->Bool
 | { op:=.defer _,.. }=>true
 | _=>false
theorem Zg {id:Nat}{Q:Exit->Act->World->Prop}{a:Act}{w:World}{l:List Oper}(hm:P.follows .mixedOrders=true)(hB:Region.lexB .any l.toArray=true)(hd:l.all (fun o => !UE o)=true)
  (h:wpQuietIn F n P l.toArray (fun w'=>∃ n,w'=w.drewN n) (fun a'=>∀ w',(∃ n,w'=w.drewN n)->Q .normal a' w') l a):(Code.region id l.toArray true).wpIn F n P Q a w:=by
 simp only[Region.lexB,Bool.and_eq_true] at hB;have hd':∀ (i:Nat) (o:Oper),l.toArray[i]?=some o->∀ c,o.op≠.defer c:=by
  intro i o ho c hc;have h1:o∈l:=by
   have h2:l[i]?=some o:=by simpa using ho
   exact List.mem_of_getElem? h2
  have h3:=List.all_eq_true.1 hd o h1;obtain⟨dst,op,ty,pos,af,gu⟩:=o;simp only at hc;subst hc;simp[UE] at h3
 refine wpIn_region_any hm (WR (C:=fun w'=>∃ n,w'=w.drewN n) (Q:=fun a'=>∀ w',(∃ n,w'=w.drewN n)->Q .normal a' w') hd' (fun _ w' hw' h=>h w' hw') _ _ _ _ ⟨1,rfl⟩ ?_);have:=wpAnyQIn_lex (F:=F) (n:=n) (C:=fun w'=>∃ n,w'=w.drewN n) (md:=.any) hB.1 l 0 (Array.replicate l.length false) a (by simp) (by simpa using hB.2) h
 simpa using this
end
end Go.Proofs.YtmojhhlcocjoaaaGreatDoor
namespace Go.Proofs.YtmojhhlcocjoaaaGreatDoor
open Go.RowKit Go.ChangeShapes Go.WideShapes Go.ChangeAt Go.Deep Go.Shelf
attribute [local go_sem] Oper.semAt_some
theorem WS {W:World}{n₀ k size:Nat}{e:TypeId}{v:Value}{xs:List Value}(hrow:W.ownsRow n₀ e size v k xs){b:Nat}(hb:b<n₀) : v.ownBlock≠some b:=by
 rcases hrow.2 with⟨rfl,_⟩ | ⟨g',cap,cur,rfl,h,_⟩
 ·simp[Value.ownBlock]
 ·intro e'
  obtain rfl:g'=b:=by simpa [Value.ownBlock] using e'
  omega
def ZdJ (w wr:World)(A:Option Addr)(n rc m:Nat)(sum:Int)(OA:Option Addr)(k oc:Nat)(offs:List Int) : Prop :=
 Ext w wr/\Blk wr w.heap.size 23 #[.slice A n rc]/\Blk wr (w.heap.size+1) 141 #[.int .u64 m,.int .u64 0]/\Blk wr (w.heap.size+1+1) 3 #[.int .i64 sum]/\Blk wr (w.heap.size+1+1+1) 22 #[.slice OA k oc]/\wr.ownsRow (w.heap.size+1+1+1+1) 3 1 (.slice OA k oc) k (offs.map (Value.int .i64))/\w.heap.size+1+1+1+1<=wr.heap.size
theorem ZbC {base:Nat}(A:Option Addr)(rc:Nat)(us:List Value)(rows:List (List Int))(m:Nat)(hm:m<18446744073709551616)(h63:∀ x∈Zb m,x<63)(hlen:∀ row∈rows,∀ x∈Zb m,x<row.length)(hbd:∀ row∈rows,∀ x∈row,0<=x/\x<=2147483647)(hr64:rows.length<=64)
  (w:World) (hT:Tab w) (hV:RdV w 22 A us) (hR:RowsO w base us rows) :
  CallsIn Fence.wide 3 Tryz.prog 263 #[.slice A rows.length rc,ZE m] w fun e W'=>e=.returned (.int .i64 (ZY rows (Zb m)))/\Ext w W':=by
 obtain⟨i0,hi,hz0,hz1,hz2⟩:=info_parts YF;have hg:=Vs hT;have lus:us.length=rows.length:=hR.1;obtain⟨offs,hoffs⟩:∃ offs,Hid (offs=Uw rows (Zb m)):=⟨_,rfl⟩;have loff:offs.length=rows.length:=by rw[hoffs.out];simp[Uw]
 have eoff:∀ (k:Nat) (row:List Int),rows[k]?=some row->offs[k]?=some (Zk (fun c=>row.getD c 0) (-1) (Zb m)):=fun k row h=>by rw[hoffs.out,Uw,List.getElem?_map,h];rfl
 have hget:∀ row∈rows,∀ c∈Zb m,0<=row.getD c 0/\row.getD c 0<=2147483647:=fun row hr c hc=>by
  have h1:=hlen row hr c hc;have h2:row.getD c 0=row[c]:=by simp[List.getD,List.getElem?_eq_getElem h1]
  rw[h2];exact hbd row hr _ (List.getElem_mem _)
 have boff:∀ o∈offs,-2147483647<=o/\o<=2147483647:=fun o ho=>by
  rw[hoffs.out] at ho;obtain⟨row,hr,rfl⟩:=List.mem_map.1 ho;exact Yc (fun c hc=>by have:=hget row hr c hc;omega) (by omega) (by omega)
 have bsum:∀ k,-(2147483647*64)<=Zi (offs.take k)/\Zi (offs.take k)<=2147483647*64:=fun k=>by
  have h1:=VB (B:=2147483647) (l:=offs.take k) fun x hx=>boff x (List.mem_of_mem_take hx)
  have h2:(offs.take k).length<=64:=by rw[List.length_take];omega
  omega
 have LE:=fun(B:Option Addr) (c:Nat) (row:List Int) (hrow:row∈rows) (W:World) (x:Ext w W) (h:RdI W B row)=>ZbB B c row m hm h63 (hlen row hrow) W (hT.ext x) h
 unfold ZE at LE ⊢;replace LE:=Hd LE;replace hV:=Hd hV;replace hR:=Hd hR;replace hget:=Hd hget;replace hbd:=Hd hbd;replace hlen:=Hd hlen;replace boff:=Hd boff;replace bsum:=Hd bsum;replace eoff:=Hd eoff;replace lus:=Hd lus;replace loff:=Hd loff;refine callsIn_of_wp_marks Tryz.func263 rfl trivial ?_ rfl;simp only[Tryz.ntmps263,List.size_toArray,List.length_cons,List.length_nil,Nat.reduceAdd,Nat.reduceSub,Array.replicate_succ,Array.replicate_zero,List.push_toArray,List.append_toArray,List.nil_append,List.cons_append]
 gi_wp2
 have START:Hid (ZdJ w ((((w.alloc (.cells #[.slice A rows.length rc] 23)).alloc (.cells #[.int .u64 m,.int .u64 0] 141)).alloc (.cells #[.int .i64 0] 3)).alloc (.cells #[.slice none 0 0] 22)) A rows.length rc m (Zi (offs.take 0)) none 0 0 (offs.take 0)) :=
  ⟨((((Ext.rf w).alloc _).alloc _).alloc _).alloc _,.alloc (.alloc (.alloc (.new rfl) _) _) _,.alloc (.alloc (.new (by simp)) _) _,.alloc (.new (by simp)) _,.new (by simp),World.ownsRow_nil _ _ _ _,by simp⟩
 gi_loopw [17] (fun v wr=>∃ (k:Nat) (OA:Option Addr) (oc:Nat),v=.int .i64 k/\k<=rows.length/\Hid (ZdJ w wr A rows.length rc m (Zi (offs.take k)) OA k oc (offs.take k))) (fun v _=>rows.length-(intOf v).toNat)
 case atStart=>exact⟨0,none,0,rfl,by omega,START⟩
 case round =>
  obtain⟨wo,rfl⟩:∃ wo:World,wo=wr:=⟨_,rfl⟩;clear START;obtain⟨k,OA,oc,rfl,hk,HH⟩:=hrel;obtain⟨Y,bR,bS,bU,bO,oO,zO⟩:=HH.out
  by_cases hlt:k<rows.length
  ·have hlu:k<us.length:=by rw[lus.out];exact hlt
   have er:rows[k]?=some rows[k]:=List.getElem?_eq_getElem hlt;obtain⟨D,d,hu,oD⟩:=hR.out.2 k _ er;have hmem:rows[k]∈rows:=List.getElem_mem hlt;generalize rows[k]=row at *;obtain⟨ab,ao,vv,rfl,zv,cv,ev⟩:=(hV.out.ext Y).at hlu;obtain rfl:.slice D row.length d=vv:=by
    have h:=ev.out;rw[hu] at h;exact Option.some.inj h
   obtain⟨ob,hob⟩:∃ ob,Hid (ob=Zk (fun c=>row.getD c 0) (-1) (Zb m)):=⟨_,rfl⟩;have eo:=eoff.out k row er;rw[<-hob.out] at eo;have et:Hid (offs.take (k+1)=offs.take k++[ob]):=Hd (by rw[List.take_add_one,eo];rfl);have es:Zi (offs.take (k+1))=Zi (offs.take k)+ob:=by rw[et.out,YU]
   have b1:=bsum.out k;have b2:=bsum.out (k+1);have lk:(offs.take k).length=k:=by rw[List.length_take,loff.out];omega
   obtain⟨su,hsu⟩:∃ su,Hid (su=Zi (offs.take k)):=⟨_,rfl⟩;rw[<-hsu.out] at bU es b1;rw[es] at b2;have hw:IntKind.i64.wrap (su+ob)=su+ob:=IntWalk.i64_in _ (by omega);have L1:=Hd (LE.out D d row hmem wo Y (oD.read.ext Y));rw[<-hob.out] at L1;have cS0:=bS.c0;have cS1:=bS.c1;have q1:(k:Int)<(rows.length:Int):=by omega
   replace es:=Hd es;replace Y:=Hd Y;replace bR:=Hd bR;replace bS:=Hd bS;replace bU:=Hd bU;replace bO:=Hd bO;replace oO:=Hd oO;replace lk:=Hd lk;clear HH ev eo hu oD er b1 b2
   gi_wp2
   refine⟨trivial,?_⟩;refine(callsIn_wide.2 L1.out).mono ?_;rintro e w1 ⟨rfl,x1⟩;have U1:=bU.out.ext x1;have O1:=bO.out.ext x1;have cU:=U1.c0;have fU:=U1.free 0;have hrow:(w1.setCell ⟨w.heap.size+1+1,0,none⟩ (.int .i64 (su+ob))).ownsRow (w.heap.size+1+1+1+1) 3 1 (.slice OA k oc) k ((offs.take k).map (Value.int .i64)):=by
    have h1:w1.ownsRow (w.heap.size+1+1+1+1) 3 1 (.slice OA k oc) k ((offs.take k).map (Value.int .i64)):=OwV.ext (n:=k) oO.out x1;exact OwV.keep (n:=k) h1 (fun g hg=>by
     have:=OwV.lt (n:=k) h1 g hg;exact Below.heap_setCell w1 ⟨w.heap.size+1+1,0,none⟩ _ g (by simp;omega))
   have cO:(w1.setCell ⟨w.heap.size+1+1,0,none⟩ (.int .i64 (su+ob))).cell? ⟨w.heap.size+1+1+1,0,none⟩=some (.slice OA k oc):=(O1.far (p:=⟨w.heap.size+1+1,0,none⟩) (by simp) _).cell 0
   gi_wp2_with (gi_at_builtin;go_loud (refine wpListIn_append_own _ rfl _ _ 22 rfl (w.heap.size+1+1+1+1) 3 i0 (.int .i64 0) 1 8 Tryz.underlying22 hi hz0 hz1 hz2 rfl (by decide) _ _ _ rfl (hrow.alloc _) ⟨w1.heap.size,0,none⟩ 1 1 [.int .i64 ob] rfl rfl (by simpa using cell_one_new (w1.setCell ⟨w.heap.size+1+1,0,none⟩ (.int .i64 (su+ob))) (.int .i64 ob) 3) (by simp[Value.oneCell']) (by simp only[maxLen];omega) (by omega) (by have:=x1.size;simp;omega) ?_;intro v' w3 hown' hgrow _;obtain⟨g',cap',rfl⟩:=ownsRow_succ hown';have hO3:=((O1.far (p:=⟨w.heap.size+1+1,0,none⟩) (by simp) (.int .i64 (su+ob))).alloc _).grown hgrow (WS hrow (by omega));have hc3:=hO3.cell 0;have hf3:=hO3.free 0))
   have Y3:Hid (Ext w w3):=(((Y.out.tr x1).setNew (by simp<;>omega) (.int .i64 (su+ob))).alloc _).grow hgrow (fun b hb=>Classical.byContradiction fun hn=>WS hrow (b:=b) (by omega) hb);have hR3:=Hd ((((bR.out.ext x1).far (p:=⟨w.heap.size+1+1,0,none⟩) (by simp<;>omega) (.int .i64 (su+ob))).alloc _).grown hgrow (WS hrow (by omega)));have hS3:Hid (Blk w3 (w.heap.size+1) 141 #[.int .u64 m,.int .u64 0]):=(((bS.out.ext x1).far (p:=⟨w.heap.size+1+1,0,none⟩) (by simp<;>omega) (.int .i64 (su+ob))).alloc _).grown hgrow (WS hrow (by omega));have hU3:Hid (Blk w3 (w.heap.size+1+1) 3 #[.int .i64 (su+ob)]):=(((U1.set 0 (.int .i64 (su+ob))).alloc _).grown hgrow (WS hrow (by omega)));have hown3:Hid (w3.ownsRow (w.heap.size+1+1+1+1) 3 1 (.slice (some ⟨g',0,none⟩) (k+1) cap') (k+1) ((offs.take (k+1)).map (Value.int .i64))):=Hd (by
    rw[et.out,List.map_append];exact hown')
   have FIN:Hid (ZdJ w (w3.setCell ⟨w.heap.size+1+1+1,0,none⟩ (.slice (some ⟨g',0,none⟩) (k+1) cap')) (some ⟨ab,ao,none⟩) rows.length rc m (Zi (offs.take (k+1))) (some ⟨g',0,none⟩) (k+1) cap' (offs.take (k+1))):=by
    refine⟨Y3.out.setNew (by simp<;>omega) _,hR3.out.far (by simp<;>omega) _,hS3.out.far (by simp<;>omega) _,?_,hO3.set 0 _,?_,?_⟩
    ·rw[es.out]
     exact hU3.out.far (by simp<;>omega) _
    ·exact OwV.keep (n:=k+1) hown3.out (fun g hg=>by
      have:=OwV.lt (n:=k+1) hown3.out g hg;exact Below.heap_setCell w3 ⟨w.heap.size+1+1+1,0,none⟩ _ g (by simp;omega))
    ·have h1:=OwV.lt (n:=k+1) hown3.out g' (by simp[bl])
     simp;omega
   go_roundw
   case rel=>exact⟨k+1,some ⟨g',0,none⟩,cap',by go_num,by omega,FIN⟩
   case measure =>
    simp only[intOf];omega
  ·obtain rfl:k=rows.length:=by omega
   have q0:¬((rows.length:Int)<(rows.length:Int)):=by omega
   have et:offs.take rows.length=offs:=List.take_of_length_le (by rw[loff.out];exact Nat.le_refl _);rw[et] at bU oO;have cS0:=bS.c0;have cS1:=bS.c1;replace Y:=Hd Y;replace bR:=Hd bR;replace bS:=Hd bS;replace bU:=Hd bU;replace bO:=Hd bO;replace oO:=Hd oO;clear HH et
   gi_wp2
   refine⟨trivial,?_⟩;refine(callsIn_wide.2 (Wh m _)).mono ?_;rintro e w' ⟨rfl,rfl⟩
   gi_wp2
   have loO:OwI wo (w.heap.size+1+1+1+1) OA oc offs:=by
    unfold OwI;rw[loff.out];exact oO.out
   have bB:Blk (wo.alloc (.cells #[.int .u64 m,.int .u64 0] 141)) wo.heap.size 141 #[.int .u64 m,.int .u64 0]:=.new rfl;have hB0:Ext w (wo.alloc (.cells #[.int .u64 m,.int .u64 0] 141)):=Y.out.alloc _;refine wpIn_rangeFunc_ownG rfl (by omega) (gf:=140) (lb:=#[.pointer (some ⟨wo.heap.size,0,none⟩)]) rfl trivial (enters_of Tryz.func140 (by kernel_rfl) rfl)
    (YR 2 m hm h63 wo.heap.size w.heap.size _ bB (hT.ext hB0) hB0.size hg) SetKp.tr (Wi (cs:=#[.int .u64 m,.int .u64 0]) hB0.size bB) (Below.refl _ _) (fun _=>rfl)
    (fun pre W=>Blk W (w.heap.size+1+1) 3 #[.int .i64 (Zi offs+Zi ((inL pre).map fun c=>YT c (-1) rows offs))]/\Held (wo.alloc (.cells #[.int .u64 m,.int .u64 0] 141)) (w.heap.size+1+1) W/\Below w.heap.size w W)
    (fun _ _ _=>False)
    (OwnFrom.and (ZP (by simp<;>omega) _ _) (OwnFrom.and (Xj (Nat.le_refl _)) (ownFrom_below (Nat.le_refl _) (by simp<;>omega))))
    (fun _ _ _ _ _ hs _ _=>hs)
    ⟨by simpa [inL,Zi] using bU.out.alloc _,⟨Nat.le_refl _,fun _ _ _=>rfl⟩,hB0⟩
    (fun x=>{ tmps:=#[.slice A rows.length rc,.agg #[.int .u64 m,.int .u64 0],.pointer (some ⟨w.heap.size,0,none⟩),.pointer (some ⟨w.heap.size+1,0,none⟩),.int .i64 0,.pointer (some ⟨w.heap.size+1+1,0,none⟩),.pointer (some ⟨w.heap.size+1+1+1,0,none⟩),undef,u8,u9,.int .i64 ((x.1:Nat):Int),undef,undef,undef,undef,.slice A rows.length rc,.int .i64 rows.length,.int .i64 rows.length,.bool false,u19,u20,u21,u22,u23,u24,u25,u26,u27,u28,u29,u30,u31,.agg #[.int .u64 m,.int .u64 0],.func (.func 140) #[] #[.pointer (some ⟨wo.heap.size,0,none⟩)],.int .i64 ((x.1:Nat):Int),undef,undef,undef,undef,undef,undef,undef,undef,undef,undef,undef,undef,undef,undef,undef,undef,undef,undef,undef,undef,undef,undef,undef,undef,undef,undef,undef,undef,undef],defers:=[] }) ?assign ?body ?done ?stop
   case assign =>
    intro l x W K hK
    gi_wp2
    exact hK
   case body =>
    rintro l pre x W ⟨hO,hH,hB⟩ hlt;obtain⟨su,hsu⟩:∃ su,Hid (su=Zi offs+Zi ((inL pre).map fun c=>YT c (-1) rows offs)):=⟨_,rfl⟩;obtain⟨cf,hcf⟩:∃ cf,Hid (cf=YT x.1 (-1) rows offs):=⟨_,rfl⟩;rw[<-hsu.out] at hO;have cO:=hO.c0;have fO:=hO.free 0;have cR:W.cell? ⟨w.heap.size,0,none⟩=some (.slice A rows.length rc):=(hH.blk (bR.out.alloc _) (by omega)).cell 0;have bF:=Hd (hH.blk (bO.out.alloc _) (by omega));have rO:Hid (RdI W OA offs):=by
     have h:OwI W (w.heap.size+1+1+1+1) OA oc offs:=OwV.keep (n:=offs.length) loO (fun g hg=>by
      have:=OwV.lt (n:=offs.length) loO g hg;exact(hH.2 g (by simp;omega) (by omega)).trans (Below.heap_alloc _ _ g (by omega)))
     exact h.read
    have eN:Hid (Zi offs+Zi ((inL (pre++[x])).map fun c=>YT c (-1) rows offs)=su+cf):=Hd (by
     rw[Xq,List.map_append,List.map_cons,List.map_nil,YU,hsu.out,hcf.out];omega)
    have bdS:Hid (-(2147483647*64)+-(2*2147483647*64)<=su/\su<=2147483647*64+2*2147483647*64):=by
     have h1:=bsum.out rows.length;rw[List.take_of_length_le (by rw[loff.out];exact Nat.le_refl _)] at h1;have h2:=VB (B:=2*2147483647) (l:=(inL pre).map fun c=>YT c (-1) rows offs) fun z hz=>by
      obtain⟨c,hc,rfl⟩:=List.mem_map.1 hz;obtain⟨c',_,rfl⟩:=List.mem_map.1 hc;exact UD (fun row hr=>hget.out row hr c'.1 c'.2) boff.out (by omega) (by omega) (by omega)
     have h3:((inL pre).map fun c=>YT c (-1) rows offs).length<=64:=by
      have:=Y6 m;simp[inL];omega
     have h:-(2147483647*64)+-(2*2147483647*64)<=su/\su<=2147483647*64+2*2147483647*64:=by
      rw[hsu.out];omega
     exact h
    have bdC:Hid (-(2*2147483647)<=cf/\cf<=2*2147483647):=by
     have h:=UD (c:=x.1) (B:=2147483647) (rows:=rows) (off:=offs) (b:=-1) (fun row hr=>hget.out row hr x.1 x.2) boff.out (by omega) (by omega) (by omega);rw[<-hcf.out] at h;exact h
    have hmx:Tryz.prog.follows .mixedOrders=true:=by kernel_rfl
    have x63:=h63 x.1 x.2;have HH':=Hd hH;have HB':=Hd hB;have HO':=Hd hO;have START2:Hid (YT x.1 (-1) (rows.drop 0) (offs.drop 0)=cf):=hcf.out.symm;clear hsu hH hB hO loO bB hB0
    gi_wp2
    gi_loopw [11,37] (fun b v wr=>∃ (k:Nat) (bb:Int),v=.int .i64 k/\b=.int .i64 bb/\k<=rows.length/\Hid (YT x.1 bb (rows.drop k) (offs.drop k)=cf)/\Hid (Ext W wr)) (fun _ v _=>rows.length-(intOf v).toNat)
    case atStart=>exact⟨0,-1,rfl,rfl,by omega,START2,Ext.rf W⟩
    case round =>
     obtain⟨k,bb,rfl,rfl,hk',hcol,xr⟩:=hrel
     by_cases hlt':k<rows.length
     ·have er:rows[k]?=some rows[k]:=List.getElem?_eq_getElem hlt'
      obtain⟨D,d,hu,oD⟩:=hR.out.2 k _ er;have hmem:rows[k]∈rows:=List.getElem_mem hlt';have edr:rows.drop k=rows[k]::rows.drop (k+1):=List.drop_eq_getElem_cons hlt';generalize rows[k]=row at *;have xw:Hid (Ext w wr):=Below.trans HB'.out (xr.out.mono HB'.out.size);obtain⟨ab,ao,vv,rfl,zv,cv,ev⟩:=(hV.out.ext xw.out).at (j:=k) (by rw[lus.out];exact hlt');obtain rfl:.slice D row.length d=vv:=by
       have h:=ev.out;rw[hu] at h;exact Option.some.inj h
      have hxr:=hlen.out row hmem x.1 x.2;obtain⟨cb,co,y,rfl,zy,cy,ey,_⟩:=(oD.read.ext xw.out).at (k:=x.1) hxr;obtain⟨ob,oo,o,rfl,zo,co',eo,edo⟩:=(rO.out.ext xr.out).at (k:=k) (by rw[loff.out];exact hlt');have cOF:wr.cell? ⟨w.heap.size+1+1+1,0,none⟩=some (.slice (some ⟨ob,oo,none⟩) rows.length oc):=(bF.out.ext xr.out).cell 0;have yb:=hget.out row hmem x.1 x.2;have ob':=boff.out o (List.mem_of_getElem? eo.out);rw[getD_some ey.out] at yb;have hw:IntKind.i64.wrap (y-o)=y-o:=IntWalk.i64_in _ (by omega);have hcol2:=hcol.out;rw[edr,edo.out,YT,getD_some ey.out] at hcol2;replace hcol2:=Hd hcol2;have q1:(k:Int)<(rows.length:Int):=by omega
      have qx:((x.1:Nat):Int)<(row.length:Int):=by omega
      clear hcol ev hu oD edr er eo edo ey yb ob' hcf
      by_cases hneg:bb<0
      ·rw[if_pos hneg] at hcol2
       gi_wp2
       refine Zg (by kernel_rfl) (by kernel_rfl) (by kernel_rfl) ?_
       repeat (gi_big_quiet_step (fail))
       refine wpQuietIn_nil ?_;rintro _ ⟨nq,rfl⟩
       gi_wp2
       exact⟨⟨k+1,y-o,by go_num,rfl,by omega,hcol2,xr.out.drewN nq⟩,by simp only[intOf];omega⟩
      ·rw[if_neg hneg] at hcol2
       by_cases hy:y-o<bb
       ·rw[if_pos hy] at hcol2
        gi_wp2
        refine Zg (by kernel_rfl) (by kernel_rfl) (by kernel_rfl) ?_
        repeat (gi_big_quiet_step (fail))
        refine wpQuietIn_nil ?_;rintro _ ⟨nq,rfl⟩
        gi_wp2
        exact⟨⟨k+1,y-o,by go_num,rfl,by omega,hcol2,xr.out.drewN nq⟩,by simp only[intOf];omega⟩
       ·rw[if_neg hy] at hcol2
        gi_wp2
        refine Zg (by kernel_rfl) (by kernel_rfl) (by kernel_rfl) ?_
        repeat (gi_big_quiet_step (fail))
        refine wpQuietIn_nil ?_;rintro _ ⟨nq,rfl⟩
        gi_wp2
        exact⟨⟨k+1,bb,by go_num,rfl,by omega,hcol2,xr.out.drewN nq⟩,by simp only[intOf];omega⟩
     ·obtain rfl:k=rows.length:=by omega
      have e1:rows.drop rows.length=[]:=List.drop_length;have hcol2:=hcol.out;rw[e1] at hcol2;obtain rfl:bb=cf:=by
       rw[<-hcol2]
       cases offs.drop rows.length<;>rfl
      have hw2:IntKind.i64.wrap (su+bb)=su+bb:=IntWalk.i64_in _ (by have:=bdS.out;have:=bdC.out;omega);have zW:wo.heap.size+1<=W.heap.size:=by simpa using HH'.out.1
      have q0:¬((rows.length:Int)<(rows.length:Int)):=by omega
      have F1:Hid (KeepsFrom (wo.heap.size+1) W (wr.setCell ⟨w.heap.size+1+1,0,none⟩ (.int .i64 (su+bb)))):=(KeepsFrom.of_ext xr.out).trans ((KeepsOthers.setCell _ _ _).from _);have F2:Hid (SetKp w.heap.size wo.heap.size W (wr.setCell ⟨w.heap.size+1+1,0,none⟩ (.int .i64 (su+bb)))):=⟨(xr.out.mono (by omega)).setCell (by simp<;>omega) _,(Below.heap_setCell wr ⟨w.heap.size+1+1,0,none⟩ _ wo.heap.size (by simp;omega)).trans (xr.out.block wo.heap.size (by omega))⟩;have F3:Hid (Blk (wr.setCell ⟨w.heap.size+1+1,0,none⟩ (.int .i64 (su+bb))) (w.heap.size+1+1) 3 #[.int .i64 (su+bb)]):=(HO'.out.ext xr.out).set 0 _;have F4:=Hd ((HH'.out.ext xr.out).set (.int .i64 (su+bb)));have F5:Hid (Ext w (wr.setCell ⟨w.heap.size+1+1,0,none⟩ (.int .i64 (su+bb)))):=(Below.trans HB'.out (xr.out.mono HB'.out.size)).setCell (by simp<;>omega) _;have cO2:wr.cell? ⟨w.heap.size+1+1,0,none⟩=some (.int .i64 su):=(HO'.out.ext xr.out).cell 0;have fO2:=(HO'.out.ext xr.out).free 0;clear hcol hcol2 e1 hcf START2
      gi_wp2
      exact⟨F1.out,F2.out,by rw[eN.out];exact F3.out,F4.out,F5.out⟩
   case done =>
    rintro D ys W hD rfl ⟨hO,_,hB⟩ hK;rw[Yz] at hO;have cO:=hO.cell 0
    gi_wp2
    refine⟨by simp,.inl ⟨_,_,rfl,run_takeDeferred hK,?_⟩⟩;refine⟨_,results_tmp rfl _ _ _,?_,hB.trans (belowK_b (w:=w) (Nat.le_refl _) W D _ _ (by simp at hD;omega) hK rfl rfl)⟩;rw[hoffs.out]
    rfl
   case stop =>
    rintro D c pre W _ _ h _;exact h.elim
theorem Zat {base:Nat}(A:Option Addr)(rc:Nat)(us:List Value)(rows:List (List Int))(m:Nat)(hm:m<18446744073709551616)(h63:∀ x∈Zb m,x<63)(hlen:∀ row∈rows,∀ x∈Zb m,x<row.length)(hbd:∀ row∈rows,∀ x∈row,0<=x/\x<=2147483647)(hr64:rows.length<=64)
  (w:World) (hT:Tab w) (hV:RdV w 22 A us) (hR:RowsO w base us rows) :
  Calls Tryz.prog 263 #[.slice A rows.length rc,ZE m] w fun e W'=>e=.returned (.int .i64 (ZY rows (Zb m)))/\Ext w W' :=
 callsIn_wide.1 (ZbC A rc us rows m hm h63 hlen hbd hr64 w hT hV hR)
end Go.Proofs.YtmojhhlcocjoaaaGreatDoor
namespace Go.Proofs.YtmojhhlcocjoaaaGreatDoor
open Go.RowKit Go.ChangeShapes Go.WideShapes Go.ChangeAt Go.Deep Go.Shelf
def Yj (rows:List (List Int))(p:List Int) : Int×Int :=
 match XE rows.length p with
 | none=>(0,1)
 | some m=>(Z1 rows p+(if p.length<rows.length then ZY (rows.drop p.length) (Zb m) else 0),0)
theorem JJ {n:Nat} : ∀ {p:List Int} {m q:Nat},SubN n m->ZX m p=some q->∀ c∈p,0<=c/\c<n
 | [],_,_,_,_,c,hc=>by cases hc
 | d::p,m,q,h,e,c,hc=>by
  unfold ZX at e;split at e
  ·rename_i hd
   rcases List.mem_cons.1 hc with rfl | hc
   ·have:=h.2 c.toNat (Z3.2 ⟨by omega,hd.2.2⟩)
    omega
   ·exact JJ (h.clr _) e c hc
  ·cases e
theorem Qb {n:Nat}(h24:n<=24){p:List Int}{q:Nat}(e:XE n p=some q) : p.length<=n/\(∀ c∈p,0<=c/\c<n)/\SubN n q:=by
 unfold XE at e;split at e
 ·cases e
 ·exact⟨by omega,JJ (Yb h24) e,V5 (Yb h24) e⟩
theorem Vg : ∀ {rows:List (List Int)} {p:List Int} {k:Nat} {row:List Int} {c:Int},rows[k]?=some row->p[k]?=some c->Z1 rows (p.take (k+1))=Z1 rows (p.take k)+row.getD c.toNat 0
 | r::rows,d::p,0,row,c,h1,h2=>by
  simp at h1 h2;subst h1 h2
  cases rows<;>simp[Z1]
 | r::rows,d::p,k+1,row,c,h1,h2=>by
  simp at h1 h2;simp only[List.take_succ_cons,Z1];rw[Vg h1 h2];omega
 | [],_,_,_,_,h1,_=>by simp at h1
 | _::_,[],_,_,_,_,h2=>by simp at h2
theorem VD {B:Int}(hB:0<=B) : ∀ {rows:List (List Int)} {p:List Int},(∀ row∈rows,∀ c∈p,0<=row.getD c.toNat 0/\row.getD c.toNat 0<=B)->0<=Z1 rows p/\Z1 rows p<=B*p.length
 | [],p,_=>by
  have:0<=B*(p.length:Int):=Int.mul_nonneg hB (by omega);simp only[Z1];omega
 | _::_,[],_=>by simp[Z1]
 | r::rows,d::p,h=>by
  have h1:=h r (by simp) d (by simp);have h2:=VD hB (rows:=rows) (p:=p) fun row hr c hc=>h row (by simp[hr]) c (by simp[hc])
  simp only[Z1,List.length_cons,Int.natCast_add,Int.natCast_one,Int.mul_add,Int.mul_one];omega
theorem Vh {rows:List (List Int)}{m:Nat}(hr:rows.length<=24)(h:∀ row∈rows,∀ c∈Zb m,0<=row.getD c 0/\row.getD c 0<=2147483647) : -(2147483647*300)<=ZY rows (Zb m)/\ZY rows (Zb m)<=2147483647*300:=by
 have h1:∀ o∈Uw rows (Zb m),-2147483647<=o/\o<=2147483647:=fun o ho=>by
  obtain⟨row,hr,rfl⟩:=List.mem_map.1 ho;exact Yc (fun c hc=>by have:=h row hr c hc;omega) (by omega) (by omega)
 have h2:=VB (B:=2147483647) h1;have h3:(Uw rows (Zb m)).length=rows.length:=by simp[Uw]
 have h4:=VB (B:=2*2147483647) (l:=(Zb m).map fun c=>YT c (-1) rows (Uw rows (Zb m))) fun z hz=>by
  obtain⟨c,hc,rfl⟩:=List.mem_map.1 hz;exact UD (fun row hr=>h row hr c hc) h1 (by omega) (by omega) (by omega)
 have h5:=Y6 m;rw[List.length_map] at h4;unfold ZY;omega
theorem RowsO.drop {w:World}{base:Nat}{us:List Value}{rows:List (List Int)}(h:RowsO w base us rows)(k:Nat) : RowsO w base (us.drop k) (rows.drop k):=by
 refine⟨by rw[List.length_drop,List.length_drop,h.1],fun i r hr=>?_⟩;rw[List.getElem?_drop] at hr;obtain⟨A,c,h1,h2⟩:=h.2 (k+i) r hr;exact⟨A,c,by rw[List.getElem?_drop];exact h1,h2⟩
theorem Zau {base g:Nat}{rows:List (List Int)}(P:Option Addr)(pc:Nat)(p:List Int)(w:World)(hT:Tab w)(H:KernA w base g rows)(ok:RowsOk rows)(hP:RdI w P p)(lp:p.length<=1000000000) :
  Calls Tryz.prog 259 #[.pointer (some ⟨g,0,none⟩),.slice P p.length pc] w fun e w'=>e=.returned (.tuple #[.int .i64 (Yj rows p).1,.int .i64 (Yj rows p).2])/\Ext w w':=by
 have FR:=fun(W:World) (x:Ext w W)=>Zcu P pc p W (H.ext x) ok.n1 ok.n2 (hP.ext x) lp
 have l1:=ok.n1;have l2:=ok.n2;obtain⟨C,cc,us,hB,_,hV,hR⟩:=H;have lus:Hid (us.length=rows.length):=hR.1;have lcc:rows.length<=cc:=by
  rcases hV.cases with⟨_,_,h,_⟩ | ⟨_,_,_,_,_,h,_⟩<;>omega
 obtain⟨r,hr⟩:∃ r,Hid (XE rows.length p=r):=⟨_,rfl⟩;rw[hr.out] at FR
 cases r with
 | none =>
  have e:Yj rows p=(0,1):=by unfold Yj;rw[hr.out]
  rw[e];unfold Za6 ZE at FR;replace FR:=Hd FR;go_enter Tryz.func259,Tryz.ntmps259;go_wp2_with (fail);refine(FR.out _ (Ext.rf w)).mono ?_;rintro e w1 ⟨rfl,x1⟩;go_wp2_with (fail);go_ret2;exact⟨rfl,by(repeat (first | assumption | exact Ext.rf _ | apply Ext.drew | apply Ext.drewN | apply Ext.alloc))⟩
 | some m =>
  obtain⟨hpl,hin,hS⟩:=Qb l2 hr.out;have e:Yj rows p=(Z1 rows p+(if p.length<rows.length then ZY (rows.drop p.length) (Zb m) else 0),0):=by unfold Yj;rw[hr.out]
  obtain⟨tot,ht⟩:∃ tot,Hid (tot=Z1 rows p+(if p.length<rows.length then ZY (rows.drop p.length) (Zb m) else 0)):=⟨_,rfl⟩;rw[e,<-ht.out];clear e;unfold Za6 ZE at FR;replace FR:=Hd FR;replace hS:=Hd hS;replace hin:=Hd hin;replace ok:=Hd ok;replace hP:=Hd hP;replace hV:=Hd hV;replace hR:=Hd hR;replace hT:=Hd hT;replace hB:=Hd hB;go_enter Tryz.func259,Tryz.ntmps259;go_wp2_with (fail);refine(FR.out _ (Ext.rf w)).mono ?_;rintro e w1 ⟨rfl,x1⟩;have z1:=x1.size;have START:=Hd (And.intro (x1.alloc (.cells #[.int .u64 m,.int .u64 0] 141)) (show Blk (w1.alloc (.cells #[.int .u64 m,.int .u64 0] 141)) w1.heap.size 141 #[.int .u64 m,.int .u64 0] from .new rfl));obtain⟨sb,hsb⟩:∃ sb,Hid (sb=w1.heap.size):=⟨_,rfl⟩;have zsb:w.heap.size<=sb:=by rw[hsb.out];exact z1
  clear x1;go_wp2_with (fail);rw[<-hsb.out] at START ⊢;go_loopw [8,22] (fun s v wr=>∃ (k:Nat) (su:Int),v=.int .i64 k/\s=.int .i64 su/\k<=p.length/\Hid (Z1 rows (p.take k)=su)/\Hid (Ext w wr/\Blk wr sb 141 #[.int .u64 m,.int .u64 0])) (fun _ v _=>p.length-(intOf v).toNat)
  case atStart=>exact⟨0,0,rfl,rfl,by omega,(by cases rows<;>rfl:Z1 rows (p.take 0)=0),START⟩
  case round =>
   obtain⟨wo,rfl⟩:∃ wo:World,wo=wr:=⟨_,rfl⟩;clear START;obtain⟨k,su,rfl,rfl,hk,HS,HH⟩:=hrel;obtain⟨Y,bS⟩:=HH.out;have bdS:Hid (0<=su/\su<=2147483647*24):=by
    have h1:=VD (B:=2147483647) (rows:=rows) (p:=p.take k) (by omega) fun row hr c hc=>by
     have:=hin.out c (List.mem_of_mem_take hc);exact ok.out.get hr (by omega)
    have h2:(p.take k).length<=24:=by rw[List.length_take];omega
    have h:0<=su/\su<=2147483647*24:=by
     rw[<-HS.out];omega
    exact h
   replace Y:=Hd Y;replace bS:=Hd bS;clear HH;have bK:Blk wo g 121 #[.slice C rows.length cc]:=hB.out.ext Y.out;have cK:=bK.c0;clear bK
   by_cases hlt:k<p.length
   ·have hkr:k<rows.length:=by omega
    have er:rows[k]?=some rows[k]:=List.getElem?_eq_getElem hkr;obtain⟨D,d,hu,oD⟩:=hR.out.2 k _ er;have hmem:rows[k]∈rows:=List.getElem_mem hkr;generalize rows[k]=row at *;obtain⟨pb,po,c,rfl,zp,cp,ep,_⟩:=(hP.out.ext Y.out).at hlt;have hc:=hin.out c (List.mem_of_getElem? ep.out);obtain⟨ab,ao,vv,rfl,zv,cv,ev⟩:=(hV.out.read.ext Y.out).at (j:=k) (by rw[lus.out];exact hkr);obtain rfl:.slice D row.length d=vv:=by
     have h:=ev.out;rw[hu] at h;exact Option.some.inj h
    obtain⟨i,rfl⟩:∃ i:Nat,c=(i:Int):=⟨c.toNat,by omega⟩;have lrow:=ok.out.row row hmem;obtain⟨cb,co,y,rfl,zy,cy,ey,_⟩:=(oD.read.ext Y.out).at (k:=i) (by omega);have yb:=ok.out.get hmem (c:=i) (by omega);rw[getD_some ey.out] at yb;have b1:=bdS.out;have hw:IntKind.i64.wrap (su+y)=su+y:=IntWalk.i64_in _ (by omega);have HS2:Hid (Z1 rows (p.take (k+1))=su+y):=Hd (by
     rw[Vg er ep.out,HS.out,Int.toNat_natCast,getD_some ey.out])
    have q1:(k:Int)<(rows.length:Int):=by omega
    have q2:(k:Int)<(p.length:Int):=by omega
    have q3:(i:Int)<(row.length:Int):=by omega
    have FIN:Hid (Ext w wo/\Blk wo sb 141 #[.int .u64 m,.int .u64 0]):=⟨Y.out,bS.out⟩;clear ev hu oD er ep ey lrow b1 yb HS hc;go_wp2_with (fail);go_roundw
    case rel=>exact⟨k+1,su+y,by go_num,rfl,by omega,HS2,FIN⟩
    case measure=>simp only[intOf];omega
   ·obtain rfl:k=p.length:=by omega
    have HS2:Hid (Z1 rows p=su):=by
     have h:=HS.out;rw[List.take_length] at h;exact h
    clear HS;have cS0:=bS.out.c0;have cS1:=bS.out.c1
    by_cases hlr:p.length<rows.length
    ·have ht2:=ht.out
     rw[if_pos hlr,HS2.out] at ht2;replace ht2:=Hd ht2;have b1:(0:Int)<=(p.length:Int):=by omega
     have b2:(p.length:Int)<=(cc:Int):=by omega
     have b3:(p.length:Int)<=(rows.length:Int):=by omega
     have q0:¬((p.length:Int)<(p.length:Int)):=by omega
     have RE:=fun(W:World) (x:Ext w W) (A:Option Addr) (rc:Nat) (hA:RdV W 22 A (us.drop p.length)) (hRo:RowsO W base (us.drop p.length) (rows.drop p.length))=>Zat (base:=base) A rc (us.drop p.length) (rows.drop p.length) m hS.out.1 (fun x hx=>by have:=hS.out.2 x hx;omega) (fun row hr x hx=>by rw[ok.out.row row (List.mem_of_mem_drop hr)];exact hS.out.2 x hx) (fun row hr=>ok.out.num row (List.mem_of_mem_drop hr)) (by rw[List.length_drop];omega) W (hT.out.ext x) hA hRo
     have RB:=Vh (rows:=rows.drop p.length) (m:=m) (by rw[List.length_drop];omega) (fun row hr c hc=>ok.out.get (List.mem_of_mem_drop hr) (hS.out.2 c hc));rw[List.length_drop] at RE;unfold ZE at RE;replace RE:=Hd RE;generalize ZY (rows.drop p.length) (Zb m)=rp at *;have hw2:IntKind.i64.wrap (su+rp)=su+rp:=IntWalk.i64_in _ (by have:=bdS.out;omega);clear RB;go_wp2_with (fail);refine(RE.out wo Y.out _ _ ((hV.out.read.ext Y.out).drop p.length) ((hR.out.ext Y.out).drop p.length)).mono ?_;rintro e w3 ⟨rfl,x3⟩;go_wp2_with (fail);obtain rfl:tot=su+rp:=ht2.out;go_ret2;exact⟨rfl,Y.out.tr x3⟩
    ·have ht2:=ht.out
     rw[if_neg hlr,HS2.out,Int.add_zero] at ht2;have b1:(0:Int)<=(p.length:Int):=by omega
     have b2:(p.length:Int)<=(cc:Int):=by omega
     have b3:(p.length:Int)<=(rows.length:Int):=by omega
     have q0:¬((p.length:Int)<(p.length:Int)):=by omega
     obtain rfl:tot=su:=ht2;go_wp2_with (fail)
     all_goals go_ret2
     all_goals exact⟨rfl,Y.out⟩
theorem strictly.le {lt:Nat->Nat->Bool}(h:Weak lt){x y:Nat}(hs:strictly lt x y) : lt y x=false:=by
 rcases hs with h1 | ⟨h1,_⟩
 ·exact h.asym _ _ h1
 ·exact h1
section
variable {α:Type}
end
end Go.Proofs.YtmojhhlcocjoaaaGreatDoor
namespace Go.Proofs.YtmojhhlcocjoaaaGreatDoor
end Go.Proofs.YtmojhhlcocjoaaaGreatDoor
namespace Go.Proofs.YtmojhhlcocjoaaaGreatDoor
open Go.RowKit Go.ChangeShapes Go.WideShapes Go.ChangeAt Go.Deep
theorem Yr {l:List Nat}{k n:Nat}(h:l[k]?=some n) : (Zl l)[k]?=some (n:Int):=by simp[Zl,h]
theorem XK {i:Nat} : ∀ {l:List Nat},l.Pairwise (· < ·)->i∈l->(l.filter fun j=>decide (i≠j)).length+1=l.length
 | [],_,h=>by cases h
 | x::l,hp,h=>by
  have hp':=List.pairwise_cons.1 hp
  by_cases e:i=x
  ·subst e
   have:l.filter (fun j=>decide (i≠j))=l:=List.filter_eq_self.2 fun y hy=>by
    have:=hp'.1 y hy;simp;omega
   rw[List.filter_cons_of_neg (by simp),this];rfl
  ·rcases List.mem_cons.1 h with h | h
   ·exact absurd h e
   ·rw[List.filter_cons_of_pos (by simpa using e),List.length_cons,List.length_cons,XK hp'.2 h]
theorem V7 {n:Nat} : ∀ {p:List Int} {m q:Nat},SubN n m->ZX m p=some q->(Zb q).length+p.length=(Zb m).length
 | [],m,q,_,e=>by
  simp only[ZX,Option.some.injEq] at e;subst e;rfl
 | c::p,m,q,h,e=>by
  unfold ZX at e;split at e
  ·rename_i hc
   have h1:=V7 (h.clr _) e;have h2:=XK (Z8 m) (Z3.2 ⟨by omega,hc.2.2⟩:c.toNat∈Zb m);rw[<-YQ h.1] at h2;rw[List.length_cons];omega
  ·cases e
theorem ZbD {n:Nat}(h24:n<=24){p:List Int}{q:Nat}(e:XE n p=some q) : (Zb q).length+p.length=n:=by
 unfold XE at e;split at e
 ·cases e
 ·rw[V7 (Yb h24) e,Xp (by omega),List.length_range]
theorem Mod.heap {g:Nat}{w w':World}(h:Mod (fun k=>k=g) w w'){a:World}(x:Ext a w)(hg:a.heap.size<=g) : Ext a w':=x.mod h fun k hk e=>by omega
def Yk (n m:Nat) : Array Value:=((List.range 24).map fun c=>Value.bool (decide (c<n) && !m.testBit c)).toArray
theorem Yl {n m c:Nat}(hc:c<24) : (Yk n m)[c]?=some (.bool (decide (c<n) && !m.testBit c)):=by
 unfold Yk;simp[hc]
theorem V8 {n m c:Nat}(h:m<18446744073709551616)(hc:c<n) : (Yk n m).setIfInBounds c (.bool true)=Yk n (Ye m c):=by
 apply Array.ext_getElem?;intro i
 by_cases hi:i<24
 ·rw[Yl hi]
  by_cases e:c=i
  ·subst e
   rw[Array.getElem?_setIfInBounds_self_of_lt (by unfold Yk;simp;omega),UU h];simp[hc]
  ·rw[Array.getElem?_setIfInBounds_ne e,Yl hi,UU h]
   simp[e]
 ·rw[Array.getElem?_eq_none (by unfold Yk;simp;omega),Array.getElem?_eq_none (by unfold Yk;simp;omega)]
abbrev Zdx : Array Value:=#[.bool false,.bool false,.bool false,.bool false,.bool false,.bool false,.bool false,.bool false,.bool false,.bool false,.bool false,.bool false,.bool false,.bool false,.bool false,.bool false,.bool false,.bool false,.bool false,.bool false,.bool false,.bool false,.bool false,.bool false]
theorem Qc {n:Nat}(h:n<=24) : Yk n (2^n-1)=Zdx:=by
 apply Array.ext_getElem?;intro i
 by_cases hi:i<24
 ·rw[Yl hi]
  have e:(decide (i<n) && !(2^n-1).testBit i)=false:=by
   rw[Nat.testBit_two_pow_sub_one]
   cases decide (i<n)<;>rfl
  rw[e];have:i=0\/i=1\/i=2\/i=3\/i=4\/i=5\/i=6\/i=7\/i=8\/i=9\/i=10\/i=11\/i=12\/i=13\/i=14\/i=15\/i=16\/i=17\/i=18\/i=19\/i=20\/i=21\/i=22\/i=23:=by omega
  rcases this with rfl | rfl | rfl | rfl | rfl | rfl | rfl | rfl | rfl | rfl | rfl | rfl | rfl | rfl | rfl | rfl | rfl | rfl | rfl | rfl | rfl | rfl | rfl | rfl<;>rfl
 ·rw[Array.getElem?_eq_none (by unfold Yk;simp;omega),Array.getElem?_eq_none (by simp;omega)]
theorem Ur {n m:Nat}(h:SubN n m)(hn:n<=64) : Zb m=(List.range n).filter fun c=>m.testBit c:=by
 refine List.Perm.eq_of_pairwise (le:=(· < ·)) (fun a b _ _ h1 h2=>by omega) (Z8 m) (List.Pairwise.filter _ List.pairwise_lt_range) ?_;refine(List.perm_ext_iff_of_nodup ((Z8 m).imp fun h=>Nat.ne_of_lt h) ((List.Pairwise.filter _ List.pairwise_lt_range).imp fun h=>Nat.ne_of_lt h)).2 fun c=>?_
 rw[Z3];simp only[List.mem_filter,List.mem_range]
 constructor
 ·rintro ⟨h1,h2⟩
  exact⟨h.2 c (Z3.2 ⟨h1,h2⟩),h2⟩
 ·rintro ⟨h1,h2⟩
  exact⟨by omega,h2⟩
def VE (m:Nat)(w:World)(e:Ending)(w':World) : Prop:=∃ A c,e=.returned (.tuple #[.slice A (Zb m).length c,.bool true])/\OwI w' w.heap.size A c (Zl (Zb m))/\Ext w w'
def Zcw (r:Option Nat)(w:World)(e:Ending)(w':World) : Prop:=match r with
 | none=>e=.returned (.tuple #[.slice none 0 0,.bool false])/\Ext w w'
 | some m=>VE m w e w'
def Z4 (m k:Nat) : List Nat:=(List.range k).filter fun c=>m.testBit c
theorem QN (m k:Nat) : Z4 m (k+1)=Z4 m k++if m.testBit k=true then [k] else []:=by
 unfold Z4;rw[List.range_succ,List.filter_append]
 by_cases h:m.testBit k=true
 ·rw[if_pos h];simp[h]
 ·rw[if_neg h];simp[h]
theorem JK (m k:Nat) : (Z4 m k).length<=k:=by
 have:=List.length_filter_le (fun c=>m.testBit c) (List.range k)
 rwa [List.length_range] at this
theorem ZbE (i:InstP)(us:List Value)(P:Option Addr)(pc:Nat)(p:List Int)(w:World)(H:RInst w us i)(n:Nat)(hn:i.n=n)(h1:1<=n)(h24:n<=24)(hP:RdI w P p)(lp:p.length<=1000000000) :
  Calls Tryz.prog 151 #[.agg (List.toArray us),.slice P p.length pc] w (Zcw (XE n p) w):=by
 obtain⟨kind,nn,cap,xw,xv,co⟩:=i;obtain⟨A,a,B,b,D,d,rfl,-,-,-⟩:=H;simp only at *;subst hn;have UF:=Hd (Yb h24);obtain⟨r,hr⟩:∃ r,Hid (XE n p=r):=⟨_,rfl⟩;rw[hr.out];unfold XE at hr;replace hP:=Hd hP;have B1:Hid (Blk (w.alloc (.cells #[.int .i64 kind,.int .i64 n,.int .i64 cap,.slice A xw.length a,.slice B xv.length b,.slice D co.length d] 25)) w.heap.size 25 #[.int .i64 kind,.int .i64 n,.int .i64 cap,.slice A xw.length a,.slice B xv.length b,.slice D co.length d]):=.new rfl
 by_cases hlen:n<p.length
 ·have hr2:Hid (r=none):=by
   have h:=hr.out;rw[if_pos hlen] at h;exact h.symm
  have hlb:(n:Int)<(p.length:Int):=by omega
  rw[hr2.out];unfold Zcw;clear hr hr2;go_enter Tryz.func151,Tryz.ntmps151;go_wp2_with (fail);go_ret2;exact⟨rfl,by(repeat (first | assumption | exact Ext.rf _ | apply Ext.drew | apply Ext.drewN | apply Ext.alloc))⟩
 ·have hr2:Hid (ZX (2^n-1) p=r):=by
   have h:=hr.out;rw[if_neg hlen] at h;exact h
  have hlb:¬(n:Int)<(p.length:Int):=by omega
  obtain⟨m0,hm0⟩:∃ m0,Hid (m0=2^n-1):=⟨2^n-1,by exact rfl⟩;have FU2:Hid (Yk n m0=Zdx):=by rw[hm0.out];exact Qc h24
  rw[<-hm0.out] at hr2 UF;have START:Hid (Ext w ((w.alloc (.cells #[.int .i64 kind,.int .i64 n,.int .i64 cap,.slice A xw.length a,.slice B xv.length b,.slice D co.length d] 25)).alloc (.cells #[.bool false,.bool false,.bool false,.bool false,.bool false,.bool false,.bool false,.bool false,.bool false,.bool false,.bool false,.bool false,.bool false,.bool false,.bool false,.bool false,.bool false,.bool false,.bool false,.bool false,.bool false,.bool false,.bool false,.bool false] 228))/\Blk ((w.alloc (.cells #[.int .i64 kind,.int .i64 n,.int .i64 cap,.slice A xw.length a,.slice B xv.length b,.slice D co.length d] 25)).alloc (.cells #[.bool false,.bool false,.bool false,.bool false,.bool false,.bool false,.bool false,.bool false,.bool false,.bool false,.bool false,.bool false,.bool false,.bool false,.bool false,.bool false,.bool false,.bool false,.bool false,.bool false,.bool false,.bool false,.bool false,.bool false] 228)) w.heap.size 25 #[.int .i64 kind,.int .i64 n,.int .i64 cap,.slice A xw.length a,.slice B xv.length b,.slice D co.length d]/\Blk ((w.alloc (.cells #[.int .i64 kind,.int .i64 n,.int .i64 cap,.slice A xw.length a,.slice B xv.length b,.slice D co.length d] 25)).alloc (.cells #[.bool false,.bool false,.bool false,.bool false,.bool false,.bool false,.bool false,.bool false,.bool false,.bool false,.bool false,.bool false,.bool false,.bool false,.bool false,.bool false,.bool false,.bool false,.bool false,.bool false,.bool false,.bool false,.bool false,.bool false] 228)) (w.heap.size+1) 228 (Yk n m0)) :=
   ⟨((Ext.rf _).alloc _).alloc _,B1.out.alloc _,by rw[FU2.out];exact .new (by simp)⟩
  clear hr;go_enter Tryz.func151,Tryz.ntmps151;go_wp2_with (fail);go_loopw [7] (fun v wr=>∃ (k m:Nat),v=.int .i64 k/\k<=p.length/\Hid (ZX m (p.drop k)=r)/\Hid (SubN n m)/\Hid (Ext w wr/\Blk wr w.heap.size 25 #[.int .i64 kind,.int .i64 n,.int .i64 cap,.slice A xw.length a,.slice B xv.length b,.slice D co.length d]/\Blk wr (w.heap.size+1) 228 (Yk n m))) (fun v _=>p.length-(intOf v).toNat)
  case atStart=>exact⟨0,m0,rfl,by omega,hr2,UF,START⟩
  case round =>
   obtain⟨wo,rfl⟩:∃ wo:World,wo=wr:=⟨_,rfl⟩;clear START FU2;obtain⟨k,m,rfl,hk,HF,HU,HH⟩:=hrel;obtain⟨Y,bI,bU⟩:=HH.out;have cN:=bI.c1;replace Y:=Hd Y;replace bI:=Hd bI;replace bU:=Hd bU;clear HH
   by_cases hlt:k<p.length
   ·obtain⟨pb,po,c,rfl,zp,cp,ep,dp⟩:=(hP.out.ext Y.out).at hlt
    have HF2:Hid (r=if 0<=c/\c<64/\m.testBit c.toNat=true then ZX (Ye m c.toNat) (p.drop (k+1)) else none):=by
     have h:=HF.out;rw[dp.out,Qa] at h;exact h.symm
    have q1:(k:Int)<(p.length:Int):=by omega
    clear HF ep dp
    by_cases c0:c<0
    ·have HN:Hid (r=none):=by
      have h:=HF2.out;rw[if_neg (by omega)] at h;exact h
     have t0:decide (c<0)=true:=decide_eq_true c0;go_wp2_with (fail);go_quiet (fail);go_wp2_with (fail);go_ret2;rw[HN.out];exact⟨rfl,Y.out.drewN _⟩
    ·have t0:decide (c<0)=false:=decide_eq_false c0
     obtain⟨ci,rfl⟩:∃ ci:Nat,c=(ci:Int):=⟨c.toNat,by omega⟩;rw[Int.toNat_natCast] at HF2;clear c0 t0
     by_cases c1:n<=ci
     ·have HN:Hid (r=none):=by
       have h:=HF2.out;rw[if_neg (by rintro ⟨_,h1,h2⟩;have:=HU.out.2 ci (Z3.2 ⟨by omega,h2⟩);omega)] at h;exact h
      have t1:decide (n<=ci)=true:=decide_eq_true c1;have t2:decide ((n:Int)<=(ci:Int))=true:=decide_eq_true (by omega);go_wp2_with (fail);go_quiet (fail);go_wp2_with (fail);go_ret2;rw[HN.out];exact⟨rfl,Y.out.drewN _⟩
     ·have t1:decide (n<=ci)=false:=decide_eq_false c1
      have t2:decide ((n:Int)<=(ci:Int))=false:=decide_eq_false (by omega);have cin:ci<n:=by omega
      have ci24:(ci:Int)<24:=by omega
      have dn:decide (ci<n)=true:=decide_eq_true cin
      cases hb:m.testBit ci with
      | false =>
       have HN:Hid (r=none):=by
        have h:=HF2.out;rw[if_neg (by rintro ⟨_,h1,h2⟩;rw[hb] at h2;cases h2)] at h;exact h
       have cu:wo.cell? ⟨w.heap.size+1,ci,none⟩=some (.bool true):=by rw[bU.out.cell,Yl (by omega),dn,hb];rfl
       clear HF2 hb dn;go_wp2_with (fail);go_quiet (fail);go_wp2_with (fail);go_ret2;rw[HN.out];exact⟨rfl,Y.out.drewN _⟩
      | true =>
       have HF3:Hid (ZX (Ye m ci) (p.drop (k+1))=r):=by
        have h:=HF2.out;rw[if_pos ⟨by omega,by omega,hb⟩] at h;exact h.symm
       have cu:wo.cell? ⟨w.heap.size+1,ci,none⟩=some (.bool false):=by rw[bU.out.cell,Yl (by omega),dn,hb];rfl
       have fu:=bU.out.free ci;have HU2:=Hd (HU.out.clr ci);have NX:Hid (∀ q,Ext w ((wo.drewN q).setCell ⟨w.heap.size+1,ci,none⟩ (.bool true))/\Blk ((wo.drewN q).setCell ⟨w.heap.size+1,ci,none⟩ (.bool true)) w.heap.size 25 #[.int .i64 kind,.int .i64 n,.int .i64 cap,.slice A xw.length a,.slice B xv.length b,.slice D co.length d]/\Blk ((wo.drewN q).setCell ⟨w.heap.size+1,ci,none⟩ (.bool true)) (w.heap.size+1) 228 (Yk n (Ye m ci))):=by
        intro q;refine⟨(Y.out.drewN q).setNew (by simp) _,(bI.out.drewN q).far (by simp) _,?_⟩;rw[<-V8 HU.out.1 cin];exact(bU.out.drewN q).set ci _
       clear HF2 hb dn;generalize Ye m ci=m2 at *;go_wp2_with (fail);go_quiet (fail);go_wp2_with (fail);go_roundw
       case rel=>exact⟨k+1,m2,by go_num,by omega,HF3,HU2,NX.out _⟩
       case measure=>simp[intOf];omega
   ·have HF2:Hid (some m=r):=by
     have h:=HF.out;rw[show p.drop k=[] from List.drop_of_length_le (by omega)] at h;exact h
    have q1:¬(k:Int)<(p.length:Int):=by omega
    have HM:Hid (Zb m=Z4 m n):=Ur HU.out (by omega);have X9:=Hd (Y.out.alloc (.cells #[] 3));have bI9:=Hd (bI.out.alloc (.cells #[] 3));have bU9:=Hd (bU.out.alloc (.cells #[] 3));have zY:=Y.out.size;have o9:Hid (OwI (wo.alloc (.cells #[] 3)) w.heap.size (some ⟨wo.heap.size,0,none⟩) 0 (Zl (Z4 m 0))):=OwI.new (xs:=[]) rfl zY (by simp[maxLen]);clear HF HU hr2;go_wp2_with (fail);go_loopw [9,8] (fun v o wr=>∃ (k:Nat) (A':Option Addr) (c':Nat),v=.int .i64 k/\o=.slice A' (Z4 m k).length c'/\k<=n/\Hid (OwI wr w.heap.size A' c' (Zl (Z4 m k)))/\Hid (Ext w wr)/\Hid (Blk wr w.heap.size 25 #[.int .i64 kind,.int .i64 n,.int .i64 cap,.slice A xw.length a,.slice B xv.length b,.slice D co.length d])/\Hid (Blk wr (w.heap.size+1) 228 (Yk n m))) (fun v _ _=>n-(intOf v).toNat)
    case atStart=>exact⟨0,_,_,rfl,rfl,by omega,o9,X9,bI9,bU9⟩
    case round =>
     obtain⟨wi,rfl⟩:∃ wi:World,wi=wr:=⟨_,rfl⟩;obtain⟨j,A',c',rfl,rfl,hj,oJ,YJ,bIJ,bUJ⟩:=hrel;clear X9 bI9 bU9 o9;have cN2:=bIJ.out.c1;have US:=Hd (QN m j);have UL:=JK m j
     by_cases hjn:j<n
     ·have j24:(j:Int)<24:=by omega
      have dn:decide (j<n)=true:=decide_eq_true hjn;have q3:(j:Int)<(n:Int):=by omega
      cases hb:m.testBit j with
      | false =>
       have cu:wi.cell? ⟨w.heap.size+1,j,none⟩=some (.bool true):=by rw[bUJ.out.cell,Yl (by omega),dn,hb];rfl
       have HE:Hid (Z4 m (j+1)=Z4 m j):=by
        have h:=US.out;rw[hb,if_neg (by simp),List.append_nil] at h;exact h
       clear US hb dn;go_wp2_with (fail);go_roundw
       case rel=>exact⟨j+1,A',c',by go_num,by rw[HE.out],by omega,by rw[HE.out];exact oJ,YJ,bIJ,bUJ⟩
       case measure=>simp[intOf];omega
      | true =>
       have cu:wi.cell? ⟨w.heap.size+1,j,none⟩=some (.bool false):=by rw[bUJ.out.cell,Yl (by omega),dn,hb];rfl
       have HE:Hid (Z4 m (j+1)=Z4 m j++[j]):=by
        have h:=US.out;rw[hb,if_pos rfl] at h;exact h
       have HE2:Hid (Zl (Z4 m (j+1))=Zl (Z4 m j)++[(j:Int)]):=Hd (by rw[HE.out];simp[Zl]);have HL:Hid ((Z4 m (j+1)).length=(Z4 m j).length+1):=Hd (by rw[HE.out];simp);have zJ:=YJ.out.size;have e0:(Z4 m j).length=(Zl (Z4 m j)).length:=(Zq _).symm;have l0:(Zl (Z4 m j)).length<=24:=by rw[Zq];omega
       rw[e0];clear US hb dn UL e0 HE;replace l0:=Hd l0;go_wp2_with (at_builtin;refine Ya _ rfl _ _ rfl w.heap.size A' (Zl (Z4 m j)).length c' (Zl (Z4 m j)) [(j:Int)] (some ⟨wi.heap.size,0,none⟩) 1 rfl rfl rfl ?_ ?_ ?_ ?_ ?_;(exact oJ.out.ext ((Ext.rf _).alloc _));(exact .blk (.new (by simp)) rfl);(have:=l0.out;simp;omega);(first | exact Nat.le_refl _ | omega | (focus (simp;try omega)));rintro A5 c5 w5 o5 g5 _;have X5:=Hd (Ext.grow (YJ.out.alloc _) g5 (fun k hk=>(oJ.out.lt k hk).1));have bI5:Hid (Blk w5 w.heap.size 25 #[.int .i64 kind,.int .i64 n,.int .i64 cap,.slice A xw.length a,.slice B xv.length b,.slice D co.length d]):=(bIJ.out.alloc _).mod (Mod.grown (S:=fun k=>bl A'=some k) g5 (fun _ h=>h)) (fun h=>absurd rfl (oJ.out.ne bIJ.out (by decide) _ h));have bU5:Hid (Blk w5 (w.heap.size+1) 228 (Yk n m)):=(bUJ.out.alloc _).mod (Mod.grown (S:=fun k=>bl A'=some k) g5 (fun _ h=>h)) (fun h=>absurd rfl (oJ.out.ne bUJ.out (by decide) _ h));rw[<-HE2.out] at o5;replace o5:=Hd o5;clear g5);go_roundw
       case rel=>exact⟨j+1,A5,c5,by go_num,by rw[HL.out,Zq],by omega,o5,X5,bI5,bU5⟩
       case measure=>simp[intOf];omega
     ·obtain rfl:j=n:=by omega
      have q3:¬(j:Int)<(j:Int):=by omega
      have FIN:Hid (VE m w (.returned (.tuple #[.slice A' (Z4 m j).length c',.bool true])) wi):=⟨A',c',by rw[HM.out],by rw[HM.out];exact oJ.out,YJ.out⟩;clear US UL;go_wp2_with (fail);go_ret2;rw[<-HF2.out];exact FIN.out
end Go.Proofs.YtmojhhlcocjoaaaGreatDoor
