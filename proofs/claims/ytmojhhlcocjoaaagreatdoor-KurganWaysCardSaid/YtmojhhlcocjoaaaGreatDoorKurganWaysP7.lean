/- packed and squeezed by programs (see wip/) -/
import Derived.Test.YtmojhhlcocjoaaaGreatDoorKurganWaysP6
import Derived.Lib.Hide
import Derived.Shelf.SlLaysF0
import Derived.Shelf.SlSortCmp.WholeK
set_option maxRecDepth 100000
set_option maxHeartbeats 16000000
set_option linter.unusedVariables false
set_option linter.unusedSimpArgs false
namespace Go.Proofs.YtmojhhlcocjoaaaGreatDoor
open Go.RowKit Go.ChangeShapes Go.WideShapes Go.ChangeAt Go.Deep
structure FillS (rows:List (List Int))(n N:Nat)(w wr:World)(base tc tb g:Nat) : Prop where
 mod:Mod (fun b=>b=tc\/b=tb) w wr
 tabs:∃ r r2 T Bk,WayM wr base tc N n g r T/\WayM wr base tb N n g r2 (fun g l=>((Bk g l:Nat):Int))/\WayOk rows n T Bk g/\(∀ a b,1<=a->a<g->1<=b->b<g->r a≠r2 b)
theorem WayM.putF {w w':World}{base tc N n G q:Nat}{r:Nat->Nat}{T:Nat->Nat->Int}{u:Nat->Int}{cs:Array Value}(h:WayM w base tc N n G r T)(hb:Blk w tc 22 cs)(hs:cs.size=N)(hc:∀ g,1<=g->g<G->cs[g]?=some (.slice (some ⟨r g,0,none⟩) n n))(hG:G<N)(m:Mod (fun b=>b=tc) w w')
  (hF:Blk w' tc 22 (cs.setIfInBounds G (.slice (some ⟨q,0,none⟩) n n))) (hq:Arr w' q n u) (hbq:base<=q):WayM w' base tc N n (G+1) (fun g=>if g=G then q else r g) (fun g=>if g=G then u else T g):=by
 refine⟨⟨_,hF,by simpa using hs,fun g h1 h2=>?_⟩,fun g h1 h2=>?_⟩
 ·by_cases e:g=G
  ·subst e
   simp[Array.getElem?_setIfInBounds,hs,hG]
  ·rw[if_neg e,Array.getElem?_setIfInBounds,if_neg (fun h=>e h.symm)]
   exact hc g h1 (by omega)
 ·by_cases e:g=G
  ·simp only[if_pos e]
   exact⟨hq,hbq⟩
  ·simp only[if_neg e]
   have h3:=h.row g h1 (by omega);exact⟨h3.1.mod m (h3.1.ne hb (by decide)),h3.2⟩
structure RowS (co:List (List Int))(n:Nat)(T:Nat->Nat->Int)(g qa qb l:Nat)(w wr:World) : Prop where
 mod:Mod (fun b=>b=qa\/b=qb) w wr
 a:Arr wr qa n (fun j=>if j<l then(Wb co n T g j).1 else 0)
 b:Arr wr qb n (fun j=>((if j<l then(Wb co n T g j).2 else 0:Nat):Int))
structure RowAh (co:List (List Int))(n:Nat)(T:Nat->Nat->Int)(g rs qa qb l k:Nat)(w wr:World) : Prop where
 mod:Mod (fun b=>b=qa\/b=qb) w wr
 a:Arr wr qa n (fun j=>if j=l then(ZG (fun a=>T rs a+Zb co (a+1) (l+1)) rs k).1 else if j<l then(Wb co n T g j).1 else 0)
 b:Arr wr qb n (fun j=>((if j=l then(ZG (fun a=>T rs a+Zb co (a+1) (l+1)) rs k).2 else if j<l then(Wb co n T g j).2 else 0:Nat):Int))
section
variable {co:List (List Int)} {n:Nat} {T:Nat->Nat->Int} {g rs qa qb l k:Nat} {w wr:World}
theorem RowAh.rows (h:RowAh co n T g rs qa qb l n w wr)(hb:g.testBit l=true)(hr:Zx g l=rs)(h0:rs≠0) : RowS co n T g qa qb (l+1) w wr:=by
 have wN:Wb co n T g l=ZG (fun a=>T rs a+Zb co (a+1) (l+1)) rs n:=by
  unfold Wb;rw[if_pos hb,hr,if_neg h0]
 refine⟨h.mod,h.a.congr fun j _=>?_,h.b.congr fun j _=>?_⟩
 ·by_cases e:j=l
  ·subst e
   rw[if_pos rfl,if_pos (by omega),wN]
  ·simp only[if_neg e]
   by_cases e2:j<l
   ·simp only[if_pos e2,if_pos (show j<l+1 by omega)]
   ·simp only[if_neg e2,if_neg (show ¬j<l+1 by omega)]
 ·by_cases e:j=l
  ·subst e
   rw[if_pos rfl,if_pos (by omega),wN]
  ·simp only[if_neg e]
   by_cases e2:j<l
   ·simp only[if_pos e2,if_pos (show j<l+1 by omega)]
   ·simp only[if_neg e2,if_neg (show ¬j<l+1 by omega)]
theorem RowAh.same (h:RowAh co n T g rs qa qb l k w wr)(e:ZG (fun a=>T rs a+Zb co (a+1) (l+1)) rs (k+1)=ZG (fun a=>T rs a+Zb co (a+1) (l+1)) rs k) : RowAh co n T g rs qa qb l (k+1) w wr :=
 ⟨h.mod,h.a.congr fun j _=>by rw[e],h.b.congr fun j _=>by rw[e]⟩
theorem RowAh.take (h:RowAh co n T g rs qa qb l k w wr)(hn:qa≠qb){c:Int}(e:ZG (fun a=>T rs a+Zb co (a+1) (l+1)) rs (k+1)=(c,k)) :
  RowAh co n T g rs qa qb l (k+1) w ((wr.setCell ⟨qa,l,none⟩ (.int .i64 c)).setCell ⟨qb,l,none⟩ (.int .i64 k)):=by
 refine⟨(h.mod.set (p:=⟨qa,l,none⟩) (.inl (.inl rfl)) _).set (p:=⟨qb,l,none⟩) (.inl (.inr rfl)) _,((h.a.set l c).far (a:=⟨qb,l,none⟩) hn _).congr fun j _=>?_,((h.b.far (a:=⟨qa,l,none⟩) (fun e=>hn e.symm) _).set l (k:Int)).congr fun j _=>?_⟩
 ·rw[e]
  by_cases e2:j=l<;>simp[e2]
 ·rw[e]
  by_cases e2:j=l<;>simp[e2]
end
def FormF (csT:Array Value)(n g base tc:Nat)(T:Nat->Nat)(W:World) : Prop:=∃ h,Blk W tc 22 (csT.setIfInBounds g (.slice (some ⟨h,0,none⟩) n n))/\Arr W h n (fun _=>0)/\base<=h/\T h=11
theorem FormF.ext {csT:Array Value}{n g base tc:Nat}{T T':Nat->Nat}{W W':World}(f:FormF csT n g base tc T W)(x:Ext W W')(hT:∀ h,h<W.heap.size->T' h=T h) : FormF csT n g base tc T' W':=by
 obtain⟨h,h1,h2,h3,h4⟩:=f;exact⟨h,h1.ext x,h2.ext x,h3,by rw[hT h h2.lt];exact h4⟩
theorem FormF.of {csT:Array Value}{n g base tc h:Nat}{T:Nat->Nat}{W:World}(f:Blk W tc 22 csT\/FormF csT n g base tc T W)(a:Arr W h n (fun _=>0))(hb:base<=h)(hT:T h=11) : FormF csT n g base tc T (W.setCell ⟨tc,g,none⟩ (.slice (some ⟨h,0,none⟩) n n)):=by
 rcases f with b | ⟨h',b,_⟩
 ·exact⟨h,b.set g _,a.far (a.ne b (by decide)) _,hb,hT⟩
 ·refine⟨h,?_,a.far (a.ne b (by decide)) _,hb,hT⟩
  have:=b.set g (.slice (some ⟨h,0,none⟩) n n);rw[Array.setIfInBounds_setIfInBounds] at this;exact this
theorem FormF.can {csT:Array Value}{n g base tc:Nat}{T:Nat->Nat}{W:World}(f:Blk W tc 22 csT\/FormF csT n g base tc T W)(hv:∃ v,csT[g]?=some v) : (∃ v,W.cell? ⟨tc,g,none⟩=some v)/\W.frozen? ⟨tc,g,none⟩=false:=by
 obtain⟨v,hv⟩:=hv;rcases f with b | ⟨h',b,_⟩
 ·exact⟨⟨v,by rw[b.cell];exact hv⟩,b.free g⟩
 ·refine⟨⟨.slice (some ⟨h',0,none⟩) n n,?_⟩,b.free g⟩
  rw[b.cell,Array.getElem?_setIfInBounds_self_of_lt];exact(Array.getElem?_eq_some_iff.1 hv).1
theorem ZeY (i:InstP)(us:List Value)(w0 w:World)(H:RInst w0 us i)(X:Ext w0 w)(rok:RowsOk i.cost)(n N gp tc tb:Nat)(hn:i.n=n+1)(hl:i.cost.length=n+1)(n1:1<=n)(n11:n<=11)(hN:N=2^n)
  (hP:Blk w gp 137 #[.slice (some ⟨tc,0,none⟩) N N,.slice (some ⟨tb,0,none⟩) N N]) (S1:FillS i.cost n N w w w0.heap.size tc tb 1) (hc:w0.heap.size<=tc) (hb:w0.heap.size<=tb) (hcb:tc≠tb) :
  Calls Tryz.prog 84 #[.pointer (some ⟨gp,0,none⟩),.agg (List.toArray us)] w fun e w'=>e=.returned (.tuple #[])/\FillS i.cost n N w w' w0.heap.size tc tb N:=by
 have num:=Y0 rok;obtain⟨kind,nn,cap,xw,xv,co⟩:=i;obtain⟨A,a,B,b,D,d,rfl,-,-,hC⟩:=H;simp only at *;subst hn;have PM:∀ W,Mod (fun b=>b=tc\/b=tb) w W->Blk W gp 137 #[.slice (some ⟨tc,0,none⟩) N N,.slice (some ⟨tb,0,none⟩) N N]:=fun W m=>hP.mod m (by
  obtain⟨_,_,_,_,h1,h2,_⟩:=S1.tabs;obtain⟨cs,h3,_⟩:=h1.tab;obtain⟨cs2,h4,_⟩:=h2.tab;rintro (e | e)
  ·exact Blk.ne hP h3 (by decide) e
  ·exact Blk.ne hP h4 (by decide) e)
 have N2:N<=2048:=by
  have:2^n<=2^11:=Nat.pow_le_pow_right (by omega) n11;omega
 have N3:2<=N:=by
  have:2^1<=2^n:=Nat.pow_le_pow_right (by omega) n1;omega
 have SH:IntKind.i64.wrap ((2:Int)^n)=(N:Int):=by rw[hN];exact XG n (by omega)
 have w1:IntKind.i64.wrap ((n:Int)+1-1)=(n:Int):=by rw[show (n:Int)+1-1=(n:Int) by omega];exact IntWalk.i64_in _ (by omega)
 replace S1:=Hd S1;replace PM:=Hd PM;replace num:=Hd num;replace rok:=Hd rok;replace hC:=Hd hC;replace hN:=Hd hN;replace X:=Hd X;have B1:Hid (Blk (w.alloc (.cells #[.int .i64 kind,.int .i64 (n+1),.int .i64 cap,.slice A xw.length a,.slice B xv.length b,.slice D co.length d] 25)) w.heap.size 25 #[.int .i64 kind,.int .i64 (n+1),.int .i64 cap,.slice A xw.length a,.slice B xv.length b,.slice D co.length d]):=.new rfl;have X1:Hid (Ext w (w.alloc (.cells #[.int .i64 kind,.int .i64 (n+1),.int .i64 cap,.slice A xw.length a,.slice B xv.length b,.slice D co.length d] 25))):=(Ext.rf _).alloc _;rw[hl] at B1 X1 ⊢;replace hl:=Hd hl;clear hP;go_enter Tryz.func84,Tryz.ntmps84;go_upto_region 2 with(fail);generalize w.alloc (.cells #[.int .i64 kind,.int .i64 (n+1),.int .i64 cap,.slice A xw.length a,.slice B xv.length b,.slice D (n+1) d] 25)=w1 at *;obtain⟨gi,hgi⟩:∃ gi,gi=w.heap.size:=⟨_,rfl⟩;rw[<-hgi] at B1 ⊢;replace hgi:=Hd hgi;have S2:Hid (FillS co n N w w1 w0.heap.size tc tb 1):=by
  obtain⟨r,r2,T,Bk,h1,h2,h3,h4⟩:=S1.out.tabs;exact⟨S1.out.mod.ext X1.out,r,r2,T,Bk,h1.ext X1.out,h2.ext X1.out,h3,h4⟩
 go_wp2_with (fail);go_loopw [5] (fun v5 wr=>∃ g:Nat,v5=.int .i64 g/\1<=g/\g<=N/\Hid (FillS co n N w wr w0.heap.size tc tb g)/\Hid (Blk wr gi 25 #[.int .i64 kind,.int .i64 (n+1),.int .i64 cap,.slice A xw.length a,.slice B xv.length b,.slice D (n+1) d])) (fun v5 _=>N-(intOf v5).toNat)
 case atStart=>exact⟨1,rfl,by omega,by omega,S2,B1⟩
 case round =>
  clear S2 B1;obtain⟨wo,rfl⟩:∃ wo:World,wo=wr:=⟨_,rfl⟩;obtain⟨g,rfl,hg1,hg2,FS,Bi⟩:=hrel
  by_cases hlt:g<N
  ·have q1:(g:Int)<(N:Int):=by omega
   obtain⟨r,r2,T,Bk,hT,hB,hW,hR⟩:=FS.out.tabs;have Pp:=PM.out wo FS.out.mod;have zc:=(hT.any hlt).2.2;have zb:=(hB.any hlt).2.2;have zl:=FS.out.mod.size;have zw0:=X.out.size;replace hT:=Hd hT;replace hB:=Hd hB;replace hW:=Hd hW;replace hR:=Hd hR;replace Pp:=Hd Pp;go_wp2_with (fail);refine wp_region_any (by kernel_rfl) ?_
   change wpAny _ _ _ _ _ _ _ (World.drew _)
   refine Za (i:=0) (op:=Op.move (Operand.tmp 0)) (t:=135) (d:=some 19) (v:=?_) rfl (by decide +kernel) (by decide +kernel) (by decide +kernel) (fun _ _ _ h=>h) ?_ ?_
   case refine_2=>(intro _;unfold Zd;go_simp;try with_reducible rfl)
   try simp only[lay]
   refine Za (i:=1) (op:=Op.nilCheck (Operand.tmp 19)) (t:=0) (d:=some 20) (v:=?_) rfl (by decide +kernel) (by decide +kernel) (by decide +kernel) (fun _ _ _ h=>h) ?_ ?_
   case refine_2=>(intro _;unfold Zd;go_simp;try with_reducible rfl)
   try simp only[lay]
   refine Za (i:=2) (op:=Op.fieldAddr 137 (Operand.tmp 20) 0) (t:=0) (d:=some 21) (v:=?_) rfl (by decide +kernel) (by decide +kernel) (by decide +kernel) (fun _ _ _ h=>h) ?_ ?_
   case refine_2=>(intro _;unfold Zd;go_simp;try with_reducible rfl)
   try simp only[lay]
   refine Za (i:=4) (op:=Op.move (Operand.tmp 5)) (t:=3) (d:=some 23) (v:=?_) rfl (by decide +kernel) (by decide +kernel) (by decide +kernel) (fun _ _ _ h=>h) ?_ ?_
   case refine_2=>(intro _;unfold Zd;go_simp;try with_reducible rfl)
   try simp only[lay]
   refine Za (i:=5) (op:=Op.move (Operand.tmp 0)) (t:=135) (d:=some 24) (v:=?_) rfl (by decide +kernel) (by decide +kernel) (by decide +kernel) (fun _ _ _ h=>h) ?_ ?_
   case refine_2=>(intro _;unfold Zd;go_simp;try with_reducible rfl)
   try simp only[lay]
   refine Za (i:=6) (op:=Op.nilCheck (Operand.tmp 24)) (t:=0) (d:=some 25) (v:=?_) rfl (by decide +kernel) (by decide +kernel) (by decide +kernel) (fun _ _ _ h=>h) ?_ ?_
   case refine_2=>(intro _;unfold Zd;go_simp;try with_reducible rfl)
   try simp only[lay]
   refine Za (i:=7) (op:=Op.fieldAddr 137 (Operand.tmp 25) 1) (t:=0) (d:=some 26) (v:=?_) rfl (by decide +kernel) (by decide +kernel) (by decide +kernel) (fun _ _ _ h=>h) ?_ ?_
   case refine_2=>(intro _;unfold Zd;go_simp;try with_reducible rfl)
   try simp only[lay]
   refine Za (i:=9) (op:=Op.move (Operand.tmp 5)) (t:=3) (d:=some 28) (v:=?_) rfl (by decide +kernel) (by decide +kernel) (by decide +kernel) (fun _ _ _ h=>h) ?_ ?_
   case refine_2=>(intro _;unfold Zd;go_simp;try with_reducible rfl)
   try simp only[lay]
   refine Za (i:=10) (op:=Op.move (Operand.tmp 4)) (t:=3) (d:=some 29) (v:=?_) rfl (by decide +kernel) (by decide +kernel) (by decide +kernel) (fun _ _ _ h=>h) ?_ ?_
   case refine_2=>(intro _;unfold Zd;go_simp;try with_reducible rfl)
   try simp only[lay]
   refine Za (i:=12) (op:=Op.move (Operand.tmp 4)) (t:=3) (d:=some 31) (v:=?_) rfl (by decide +kernel) (by decide +kernel) (by decide +kernel) (fun _ _ _ h=>h) ?_ ?_
   case refine_2=>(intro _;unfold Zd;go_simp;try with_reducible rfl)
   try simp only[lay]
   obtain⟨csT,bT0,sT,hcsT⟩:=hT.out.tab;obtain⟨csB,bB0,_⟩:=hB.out.tab;have vT:∃ v,csT[g]?=some v:=⟨csT[g],Array.getElem?_eq_getElem (by omega)⟩;refine Wl (n:=2) (σ:=Nat->Nat) [(3,some 22),(8,some 27),(11,some 30),(13,some 32),(14,some 33),(15,none)]
    (fun T W=>Mod (fun b=>b=tc) wo W/\(Blk W tc 22 csT\/FormF csT n g wo.heap.size tc T W))
    (fun i v T W=>(i=3->v=.slice (some ⟨tc,0,none⟩) N N)/\(i=8->v=.slice (some ⟨tb,0,none⟩) N N)/\(i=11\/i=13->∃ h,v=.slice (some ⟨h,0,none⟩) n n/\Arr W h n (fun _=>0)/\wo.heap.size<=h/\T h=i)/\(i=14->v=.pointer (some ⟨tc,g,none⟩))/\(i=15->FormF csT n g wo.heap.size tc T W))
    (fun T W T' W'=>Mod (fun b=>b=tc) W W'/\(∀ h,h<W.heap.size->T' h=T h)/\(FormF csT n g wo.heap.size tc T W->FormF csT n g wo.heap.size tc T' W')) #[true,true,true,true,true,true,true,true,true,true,true,true,true,true,true,true,false,false] (by decide +kernel) ?_ ?_ ?_ (s0:=fun _=>0) ⟨(Mod.rf _).drew,.inl bT0.drew⟩
   ·rintro j v T W T' W' ⟨h1,h2,h3,h4,h5⟩ ⟨hx,hT,hF⟩
    refine⟨h1,h2,fun hj=>?_,h4,fun hj=>hF (h5 hj)⟩;obtain⟨h,k1,k2,k3,k4⟩:=h3 hj;exact⟨h,k1,k2.mod hx (by omega),k3,by rw[hT h k2.lt];exact k4⟩
   ·intro pq hpm u T W hRW hD K hK
    obtain⟨hMW,hTW⟩:=hRW;have bpw:Blk W gp 137 #[.slice (some ⟨tc,0,none⟩) N N,.slice (some ⟨tb,0,none⟩) N N]:=Pp.out.mod hMW (Blk.ne Pp.out bT0 (by decide));have c0:=bpw.c0;have c1:=bpw.c1;have MK:∀ (i:Nat) (W':World),i=11\/i=13->Arr W' W.heap.size n (fun _=>0)->Ext W W'->((i=3->Value.slice (some ⟨W.heap.size,0,none⟩) n n=.slice (some ⟨tc,0,none⟩) N N)/\(i=8->Value.slice (some ⟨W.heap.size,0,none⟩) n n=.slice (some ⟨tb,0,none⟩) N N)/\(i=11\/i=13->∃ h,Value.slice (some ⟨W.heap.size,0,none⟩) n n=.slice (some ⟨h,0,none⟩) n n/\Arr W' h n (fun _=>0)/\wo.heap.size<=h/\(fun x=>if x=W.heap.size then i else T x) h=i)/\(i=14->Value.slice (some ⟨W.heap.size,0,none⟩) n n=.pointer (some ⟨tc,g,none⟩))/\(i=15->FormF csT n g wo.heap.size tc (fun x=>if x=W.heap.size then i else T x) W'))/\(Mod (fun b=>b=tc) wo W'/\(Blk W' tc 22 csT\/FormF csT n g wo.heap.size tc (fun x=>if x=W.heap.size then i else T x) W'))/\(Mod (fun b=>b=tc) W W'/\(∀ h,h<W.heap.size->(fun x=>if x=W.heap.size then i else T x) h=T h)/\(FormF csT n g wo.heap.size tc T W->FormF csT n g wo.heap.size tc (fun x=>if x=W.heap.size then i else T x) W')):=fun i W' hi a x=>by
     have tg:∀ h,h<W.heap.size->(fun x=>if x=W.heap.size then i else T x) h=T h:=fun h hh=>if_neg (by omega)
     have ff:FormF csT n g wo.heap.size tc T W->FormF csT n g wo.heap.size tc (fun x=>if x=W.heap.size then i else T x) W':=fun f=>f.ext x tg
     exact⟨⟨(fun h=>by omega),(fun h=>by omega),(fun _=>⟨_,rfl,a,hMW.size,if_pos rfl⟩),(fun h=>by omega),(fun h=>by omega)⟩,⟨hMW.ext x,hTW.elim (fun b=>.inl (b.ext x)) fun f=>.inr (ff f)⟩,Mod.of_ext x,tg,ff⟩
    have ID:Mod (fun b=>b=tc) W W/\(∀ h,h<W.heap.size->T h=T h)/\(FormF csT n g wo.heap.size tc T W->FormF csT n g wo.heap.size tc T W):=⟨Mod.rf _,fun _ _=>rfl,fun f=>f⟩;simp only[List.mem_cons,List.not_mem_nil,or_false] at hpm;rcases hpm with rfl | rfl | rfl | rfl | rfl | rfl
    ·exact Zp (T:=23) rfl (.pointer (some ⟨gp,0,none⟩)) (by kernel_rfl) (.slice (some ⟨tc,0,none⟩) N N) (by go_simp) (hK _ T W ⟨fun _=>rfl,(fun h=>by cases h),(fun h=>by omega),(fun h=>by cases h),(fun h=>by cases h)⟩ ⟨hMW,hTW⟩ ID)
    ·exact Zp (T:=23) rfl (.pointer (some ⟨gp,1,none⟩)) (by kernel_rfl) (.slice (some ⟨tb,0,none⟩) N N) (by go_simp) (hK _ T W ⟨(fun h=>by cases h),fun _=>rfl,(fun h=>by omega),(fun h=>by cases h),(fun h=>by cases h)⟩ ⟨hMW,hTW⟩ ID)
    ·exact XJ rfl n (n:Int) (by kernel_rfl) (by kernel_rfl) rfl (by omega) fun W' a x=>hK _ _ _ (MK 11 W' (.inl rfl) a x).1 (MK 11 W' (.inl rfl) a x).2.1 (MK 11 W' (.inl rfl) a x).2.2
    ·exact XJ rfl n (n:Int) (by kernel_rfl) (by kernel_rfl) rfl (by omega) fun W' a x=>hK _ _ _ (MK 13 W' (.inr rfl) a x).1 (MK 13 W' (.inr rfl) a x).2.1 (MK 13 W' (.inr rfl) a x).2.2
    ·have h3:=(hD 3 (Zn (by kernel_rfl))).1 rfl
     exact Z2 (T:=23) rfl (.slice (some ⟨tc,0,none⟩) N N) (.int .i64 g) (Eq.trans (b:=u 3) (by kernel_rfl) h3) (by kernel_rfl) (.pointer (some ⟨tc,g,none⟩)) (by go_simp) (hK _ T W ⟨(fun h=>by cases h),(fun h=>by cases h),(fun h=>by omega),(fun _=>rfl),(fun h=>by cases h)⟩ ⟨hMW,hTW⟩ ID)
    ·have h14:=(hD 14 (Zn (by kernel_rfl))).2.2.2.1 rfl
     obtain⟨h,h11,a11,z11,e11⟩:=(hD 11 (Zn (by kernel_rfl))).2.2.1 (.inl rfl);have NF:FormF csT n g wo.heap.size tc T (W.setCell ⟨tc,g,none⟩ (.slice (some ⟨h,0,none⟩) n n)):=FormF.of hTW a11 z11 e11;obtain⟨⟨vc,kc⟩,fc⟩:(∃ v,W.cell? ⟨tc,g,none⟩=some v)/\W.frozen? ⟨tc,g,none⟩=false:=FormF.can hTW vT;exact Yl rfl (.pointer (some ⟨tc,g,none⟩)) (.slice (some ⟨h,0,none⟩) n n) (Eq.trans (b:=u 14) (by kernel_rfl) h14) (Eq.trans (b:=u 11) (by kernel_rfl) h11) (by go_simp) (hK undef T _ ⟨(fun h=>by cases h),(fun h=>by cases h),(fun h=>by omega),(fun h=>by cases h),(fun _=>NF)⟩ ⟨hMW.set (p:=⟨tc,g,none⟩) (.inl rfl) _,.inr NF⟩ ⟨(Mod.rf (S:=fun b=>b=tc) _).set (p:=⟨tc,g,none⟩) (.inl rfl) _,fun _ _=>rfl,fun _=>NF⟩)
   ·intro u T9 W hRW hV
    obtain⟨hMW,-⟩:=hRW;have h8:=(hV (8,some 27) (by simp)).2.1 rfl;obtain⟨qb,h13,a13,z13,e13⟩:=(hV (13,some 32) (by simp)).2.2.1 (.inr rfl);obtain⟨qa,bF,a11,z11,e11⟩:=(hV (15,none) (by simp)).2.2.2.2 rfl;have nab:qa≠qb:=by rintro rfl;omega
    simp only[Zk,h8,h13];generalize u 3=y3 at *;generalize u 11=y11 at *;generalize u 14=y14 at *;clear hV h8 h13 e11 e13;have PT:=hT.out.putF bT0 sT hcsT hlt hMW bF a11 (by omega:w0.heap.size<=qa);have hB2:=hB.out.mod hMW (fun e=>hcb e.symm) (fun x h1 h2=>(hB.out.row x h1 h2).1.ne bT0 (by decide));have bB:=bB0.mod hMW (fun e=>hcb e.symm);obtain⟨⟨vb,kb⟩,fb,_⟩:=hB2.any hlt;have PB:=hB2.put hlt a13 (by omega:w0.heap.size<=qb);have PT2:=PT.mod (S:=fun b=>b=tb) (w':=W.setCell ⟨tb,g,none⟩ (.slice (some ⟨qb,0,none⟩) n n)) ((Mod.rf (S:=fun b=>b=tb) _).set (p:=⟨tb,g,none⟩) (.inl rfl) _) hcb (fun x h1 h2=>by
     by_cases e:x=g
     ·rw[if_pos e];exact a11.ne bB (by decide)
     ·rw[if_neg e];exact((hT.out.row x h1 (by omega)).1.ne bB0 (by decide)))
    have MQ:Mod (fun b=>b=tc\/b=tb) wo (W.setCell ⟨tb,g,none⟩ (.slice (some ⟨qb,0,none⟩) n n)):=(hMW.mono (fun _ _ h=>.inl h)).set (p:=⟨tb,g,none⟩) (.inl (.inr rfl)) _;have BI:Blk (W.setCell ⟨tb,g,none⟩ (.slice (some ⟨qb,0,none⟩) n n)) gi 25 #[.int .i64 kind,.int .i64 (n+1),.int .i64 cap,.slice A xw.length a,.slice B xv.length b,.slice D (n+1) d]:=by
     have b9:=Bi.out.mod hMW (Blk.ne Bi.out bT0 (by decide));exact b9.far (p:=⟨tb,g,none⟩) (Blk.ne b9 bB (by decide)) _
    have BP:Blk (W.setCell ⟨tb,g,none⟩ (.slice (some ⟨qb,0,none⟩) n n)) gp 137 #[.slice (some ⟨tc,0,none⟩) N N,.slice (some ⟨tb,0,none⟩) N N]:=by
     have b9:=Pp.out.mod hMW (Blk.ne Pp.out bT0 (by decide));exact b9.far (p:=⟨tb,g,none⟩) (Blk.ne b9 bB (by decide)) _
    replace PT2:=Hd PT2;replace PB:=Hd PB;replace MQ:=Hd MQ;replace BI:=Hd BI;replace BP:=Hd BP;clear PT bB hB2 a11 a13 bF bT0 bB0 hcsT sT vT Pp Bi hMW
    try simp only[lay]
    refine Zi 16 (by decide +kernel) (Z2 (T:=23) rfl (.slice (some ⟨tb,0,none⟩) N N) (.int .i64 g) (by kernel_rfl) (by kernel_rfl) (.pointer (some ⟨tb,g,none⟩)) (by go_simp) ?_)
    try simp only[lay]
    refine Zi 17 (by decide +kernel) (Yl rfl (.pointer (some ⟨tb,g,none⟩)) (.slice (some ⟨qb,0,none⟩) n n) (by kernel_rfl) (by kernel_rfl) (by go_simp;rfl) ?_);refine wpAny_done (by kernel_rfl) ?_ _;generalize W.setCell ⟨tb,g,none⟩ (.slice (some ⟨qb,0,none⟩) n n)=W2 at *;clear kb fb;go_simp;go_wp2_with (fail);have RA:Arr W2 qa n (fun _=>0):=by
     have h1:=(PT2.out.row g hg1 (by omega)).1
     simpa using h1
    have RB:Arr W2 qb n (fun _=>0):=by
     have h1:=(PB.out.row g hg1 (by omega)).1
     simpa using h1
    have R0:Hid (RowS co n T g qa qb 0 W2 W2):=⟨Mod.rf _,RA.congr fun i _=>by simp,RB.congr fun i _=>by simp⟩;have LOW:Hid (∀ wr,Mod (fun b=>b=qa\/b=qb) W2 wr->WayM wr w0.heap.size tc N n g r T/\wr.cell? ⟨tc,g,none⟩=some (.slice (some ⟨qa,0,none⟩) n n)/\wr.cell? ⟨tb,g,none⟩=some (.slice (some ⟨qb,0,none⟩) n n)/\Blk wr gi 25 #[.int .i64 kind,.int .i64 (n+1),.int .i64 cap,.slice A xw.length a,.slice B xv.length b,.slice D (n+1) d]/\Blk wr gp 137 #[.slice (some ⟨tc,0,none⟩) N N,.slice (some ⟨tb,0,none⟩) N N]):=fun wr m=>by
     obtain⟨cs,hb,hs,hcs⟩:=PT2.out.tab;obtain⟨cs2,hb2,hs2,hcs2⟩:=PB.out.tab;have m1:=hb.mod m (by rintro (e | e);exact RA.ne hb (by decide) e.symm;exact RB.ne hb (by decide) e.symm);have m2:=hb2.mod m (by rintro (e | e);exact RA.ne hb2 (by decide) e.symm;exact RB.ne hb2 (by decide) e.symm);refine⟨⟨⟨cs,m1,hs,fun x h1 h2=>?_⟩,fun x h1 h2=>?_⟩,?_,?_,BI.out.mod m (by rintro (e | e);exact RA.ne BI.out (by decide) e.symm;exact RB.ne BI.out (by decide) e.symm),BP.out.mod m (by rintro (e | e);exact RA.ne BP.out (by decide) e.symm;exact RB.ne BP.out (by decide) e.symm)⟩
     ·have h3:=hcs x h1 (by omega)
      rw[if_neg (by omega)] at h3;exact h3
     ·have h3:=PT2.out.row x h1 (by omega)
      have h4:¬x=g:=by omega
      simp only[if_neg h4] at h3;have h5:=(hT.out.row x h1 h2).1.lt;exact⟨h3.1.mod m (by rintro (e | e)<;>omega),h3.2⟩
     ·rw[m1.cell,hcs g hg1 (by omega),if_pos rfl]
     ·rw[m2.cell,hcs2 g hg1 (by omega),if_pos rfl]
    clear RA RB;go_loopw [36] (fun v36 wr=>∃ l:Nat,v36=.int .i64 l/\l<=n/\Hid (RowS co n T g qa qb l W2 wr)) (fun v36 _=>n-(intOf v36).toNat)
    case atStart=>exact⟨0,rfl,by omega,R0⟩
    case round =>
     clear R0;obtain⟨wp,rfl⟩:∃ wp:World,wp=wr:=⟨_,rfl⟩;obtain⟨l,rfl,hl2,RS⟩:=hrel
     by_cases hll:l<n
     ·obtain⟨l1,l2,l3,l4,l5⟩:=LOW.out wp RS.out.mod
      have c0:=l5.c0;have ka:=RS.out.a.cell hll;have fa:=RS.out.a.free l;have q2:(l:Int)<(n:Int):=by omega
      have BT:=UC g l (by omega);have RF:Hid (Mod (fun b=>b=qa\/b=qb) W2 (wp.setCell ⟨qa,l,none⟩ (.int .i64 Uz))/\Arr (wp.setCell ⟨qa,l,none⟩ (.int .i64 Uz)) qa n (fun i=>if i=l then Uz else if i<l then(Wb co n T g i).1 else 0)/\Arr (wp.setCell ⟨qa,l,none⟩ (.int .i64 Uz)) qb n (fun j=>((if j<l then(Wb co n T g j).2 else 0:Nat):Int))):=⟨RS.out.mod.set (p:=⟨qa,l,none⟩) (.inl (.inl rfl)) _,RS.out.a.set l Uz,RS.out.b.far (a:=⟨qa,l,none⟩) (fun e=>nab e.symm) _⟩;replace l1:=Hd l1;replace l4:=Hd l4;replace l5:=Hd l5;unfold Uz at RF
      by_cases hbit:g.testBit l=true
      ·rw[hbit] at BT
       simp only[Bool.not_true] at BT;have CL:bits .andNot .i64 (g:Int) ((2:Int)^l)=((Zx g l:Nat):Int):=by
        have h9:=ZcV g l (by omega) (by omega);rw[Int.natCast_pow] at h9;exact h9
       have SHL:=XG l (by omega);obtain⟨rs,hrs⟩:∃ rs,Hid (Zx g l=rs):=⟨_,rfl⟩;rw[hrs.out] at CL
       by_cases hz:rs=0
       ·subst hz
        have CL0:bits .andNot .i64 (g:Int) ((2:Int)^l)=0:=CL;have XF:Ext w0 (wp.setCell ⟨qa,l,none⟩ (.int .i64 1152921504606846976)):=((X.out.mod FS.out.mod (fun k hk e=>by rcases e with e | e<;>omega)).mod MQ.out (fun k hk e=>by rcases e with e | e<;>omega)).mod RF.out.1 (fun k hk e=>by rcases e with e | e<;>omega);obtain⟨cb,cof,rb,ro,d',rfl,x1,x2⟩:=WP rok.out (hC.out.1.ext XF fun _ _ h=>h.ext XF) (r:=0) (c:=l+1) (by have:=hl.out;omega) (by have:=hl.out;omega);rw[hl.out,Nat.add_zero] at x1;obtain⟨p1,hp1⟩:∃ p1,Hid (l+1=p1):=⟨_,rfl⟩;rw[hp1.out] at x2;have q5:(p1:Int)<(n:Int)+1:=by have:=hp1.out;omega
        have LF:=LOW.out _ RF.out.1;have y0:=LF.2.2.2.2.cell 0;have y1:=LF.2.1;have y5:=LF.2.2.2.1.cell 5;have ya:=RF.out.2.1.cell hll;have yf:=RF.out.2.1.free l;clear CL;go_upto_region 13 with(fail);generalize wp.setCell ⟨qa,l,none⟩ (.int .i64 1152921504606846976)=wf at *;clear ka fa;obtain⟨cst,hcst⟩:∃ cst,Hid (Zb co 0 p1=cst):=⟨_,rfl⟩;rw[hcst.out] at x2;have wl:IntKind.i64.wrap ((l:Int)+1)=(p1:Int):=by rw[show (l:Int)+1=(p1:Int) by have:=hp1.out;omega];exact IntWalk.i64_in _ (by omega)
        refine wp_region_any (by kernel_rfl) ?_
        change wpAny _ _ _ _ _ _ _ (World.drew _)
        refine Za (i:=0) (op:=Op.move (Operand.tmp 0)) (t:=135) (d:=some 59) (v:=?_) rfl (by decide +kernel) (by decide +kernel) (by decide +kernel) (fun _ _ _ h=>h) ?_ ?_
        case refine_2=>(intro _;unfold Zd;go_simp;try with_reducible rfl)
        try simp only[lay]
        refine Za (i:=1) (op:=Op.nilCheck (Operand.tmp 59)) (t:=0) (d:=some 60) (v:=?_) rfl (by decide +kernel) (by decide +kernel) (by decide +kernel) (fun _ _ _ h=>h) ?_ ?_
        case refine_2=>(intro _;unfold Zd;go_simp;try with_reducible rfl)
        try simp only[lay]
        refine Za (i:=2) (op:=Op.fieldAddr 137 (Operand.tmp 60) 0) (t:=0) (d:=some 61) (v:=?_) rfl (by decide +kernel) (by decide +kernel) (by decide +kernel) (fun _ _ _ h=>h) ?_ ?_
        case refine_2=>(intro _;unfold Zd;go_simp;try with_reducible rfl)
        try simp only[lay]
        refine Za (i:=4) (op:=Op.move (Operand.tmp 5)) (t:=3) (d:=some 63) (v:=?_) rfl (by decide +kernel) (by decide +kernel) (by decide +kernel) (fun _ _ _ h=>h) ?_ ?_
        case refine_2=>(intro _;unfold Zd;go_simp;try with_reducible rfl)
        try simp only[lay]
        refine Za (i:=7) (op:=Op.move (Operand.tmp 6)) (t:=3) (d:=some 66) (v:=?_) rfl (by decide +kernel) (by decide +kernel) (by decide +kernel) (fun _ _ _ h=>h) ?_ ?_
        case refine_2=>(intro _;unfold Zd;go_simp;try with_reducible rfl)
        try simp only[lay]
        refine Za (i:=8) (op:=Op.fieldAddr 25 (Operand.tmp 3) 5) (t:=0) (d:=some 67) (v:=?_) rfl (by decide +kernel) (by decide +kernel) (by decide +kernel) (fun _ _ _ h=>h) ?_ ?_
        case refine_2=>(intro _;unfold Zd;go_simp;try with_reducible rfl)
        try simp only[lay]
        refine Za (i:=12) (op:=Op.move (Operand.tmp 6)) (t:=3) (d:=some 71) (v:=?_) rfl (by decide +kernel) (by decide +kernel) (by decide +kernel) (fun _ _ _ h=>h) ?_ ?_
        case refine_2=>(intro _;unfold Zd;go_simp;try with_reducible rfl)
        try simp only[lay]
        refine Za (i:=13) (op:=Op.binOp BinOp.add 3 (Operand.tmp 71) (Operand.const (Value.int IntKind.i64 1)) 3) (t:=3) (d:=some 72) (v:=?_) rfl (by decide +kernel) (by decide +kernel) (by decide +kernel) (fun _ _ _ h=>h) ?_ ?_
        case refine_2=>(intro _;unfold Zd;go_simp;try with_reducible rfl)
        try simp only[lay]
        refine YX (n:=2) [(3,some 62),(5,some 64),(6,some 65),(9,some 68),(10,some 69),(11,some 70),(14,some 73),(15,some 74)] (fun | 3=>.slice (some ⟨tc,0,none⟩) N N | 5=>.pointer (some ⟨tc,g,none⟩) | 6=>.slice (some ⟨qa,0,none⟩) n n | 9=>.slice (some ⟨cb,cof,none⟩) (n+1) d | 10=>.pointer (some ⟨cb,cof,none⟩) | 11=>.slice (some ⟨rb,ro,none⟩) (n+1) d' | 14=>.pointer (some ⟨rb,ro+p1,none⟩) | 15=>.int .i64 cst | _=>undef) #[true,true,true,true,true,true,true,true,true,true,true,true,true,true,true,true,false,false] (by decide +kernel) ?_ ?_
        ·intro pS hpm uS hD K hK
         simp only[List.mem_cons,List.not_mem_nil,or_false] at hpm;rcases hpm with rfl | rfl | rfl | rfl | rfl | rfl | rfl | rfl
         ·exact Zp (T:=23) (x:=Operand.tmp 61) (t:=23) (d:=some 62) rfl (.pointer (some ⟨gp,0,none⟩)) (by kernel_rfl) (.slice (some ⟨tc,0,none⟩) N N) (by go_simp) hK
         ·exact Z2 (T:=23) (x:=Operand.tmp 62) (y:=Operand.tmp 63) (t:=0) (d:=some 64) rfl (.slice (some ⟨tc,0,none⟩) N N) (.int .i64 g) (Eq.trans (b:=uS 3) (by kernel_rfl) (hD 3 (Zn (by kernel_rfl)))) (by kernel_rfl) (.pointer (some ⟨tc,g,none⟩)) (by go_simp) hK
         ·exact Zp (T:=22) (x:=Operand.tmp 64) (t:=22) (d:=some 65) rfl (.pointer (some ⟨tc,g,none⟩)) (Eq.trans (b:=uS 5) (by kernel_rfl) (hD 5 (Zn (by kernel_rfl)))) (.slice (some ⟨qa,0,none⟩) n n) (by go_simp) hK
         ·exact Zp (T:=23) (x:=Operand.tmp 67) (t:=23) (d:=some 68) rfl (.pointer (some ⟨gi,5,none⟩)) (by kernel_rfl) (.slice (some ⟨cb,cof,none⟩) (n+1) d) (by go_simp) hK
         ·exact Z2 (T:=23) (x:=Operand.tmp 68) (y:=Operand.const (Value.int IntKind.i64 0)) (t:=0) (d:=some 69) rfl (.slice (some ⟨cb,cof,none⟩) (n+1) d) (.int .i64 0) (Eq.trans (b:=uS 9) (by kernel_rfl) (hD 9 (Zn (by kernel_rfl)))) (by kernel_rfl) (.pointer (some ⟨cb,cof,none⟩)) (by go_simp) hK
         ·exact Zp (T:=22) (x:=Operand.tmp 69) (t:=22) (d:=some 70) rfl (.pointer (some ⟨cb,cof,none⟩)) (Eq.trans (b:=uS 10) (by kernel_rfl) (hD 10 (Zn (by kernel_rfl)))) (.slice (some ⟨rb,ro,none⟩) (n+1) d') (by go_simp) hK
         ·exact Z2 (T:=22) (x:=Operand.tmp 70) (y:=Operand.tmp 72) (t:=0) (d:=some 73) rfl (.slice (some ⟨rb,ro,none⟩) (n+1) d') (.int .i64 p1) (Eq.trans (b:=uS 11) (by kernel_rfl) (hD 11 (Zn (by kernel_rfl)))) (by kernel_rfl) (.pointer (some ⟨rb,ro+p1,none⟩)) (by go_simp) hK
         ·exact Zp (T:=3) (x:=Operand.tmp 73) (t:=3) (d:=some 74) rfl (.pointer (some ⟨rb,ro+p1,none⟩)) (Eq.trans (b:=uS 14) (by kernel_rfl) (hD 14 (Zn (by kernel_rfl)))) (.int .i64 cst) (by go_simp) hK
        simp only[Zk,Act.put,List.setIfInBounds_toArray,List.set_cons_zero,List.set_cons_succ];refine Zi 16 (by decide +kernel) (Z2 (T:=22) rfl (.slice (some ⟨qa,0,none⟩) n n) (.int .i64 l) (by kernel_rfl) (by kernel_rfl) (.pointer (some ⟨qa,l,none⟩)) (by go_simp) ?_)
        try simp only[lay]
        refine Zi 17 (by decide +kernel) (Yl rfl (.pointer (some ⟨qa,l,none⟩)) (.int .i64 cst) (by kernel_rfl) (by kernel_rfl) (by go_simp;rfl) ?_);refine wpAny_done (by kernel_rfl) ?_ _;have wN:Wb co n T g l=(cst,0):=by
         unfold Wb;rw[if_pos hbit,if_pos hrs.out,<-hcst.out,<-hp1.out]
        have RN:Hid (RowS co n T g qa qb (l+1) W2 (wf.drew.setCell ⟨qa,l,none⟩ (.int .i64 cst))):=by
         refine⟨(RF.out.1.drew).set (p:=⟨qa,l,none⟩) (.inl (.inl rfl)) _,((RF.out.2.1.ext ((Ext.rf _).drew)).set l cst).congr fun j _=>?_,((RF.out.2.2.ext ((Ext.rf _).drew)).far (a:=⟨qa,l,none⟩) (fun e=>nab e.symm) _).congr fun j _=>?_⟩
         ·by_cases e:j=l
          ·subst e
           rw[if_pos rfl,if_pos (by omega),wN]
          ·simp only[if_neg e]
           by_cases e2:j<l
           ·simp only[if_pos e2,if_pos (show j<l+1 by omega)]
           ·simp only[if_neg e2,if_neg (show ¬j<l+1 by omega)]
         ·by_cases e:j=l
          ·subst e
           rw[if_neg (by omega),if_pos (by omega),wN]
          ·by_cases e2:j<l
           ·simp only[if_pos e2,if_pos (show j<l+1 by omega)]
           ·simp only[if_neg e2,if_neg (show ¬j<l+1 by omega)]
        have hl9:Hid (l+1<=n):=by
         have h9:l+1<=n:=hll;exact h9
        clear RF wN y0 y1 y5 ya yf x1 x2 wl q5;go_simp;go_wp2_with (fail);go_roundw
        case rel=>exact⟨l+1,by go_num,hl9.out,RN⟩
        case measure=>(have h9:=hl9.out;simp[intOf];omega)
       ·have e0:((rs:Nat):Int)≠0:=by omega
        have e0':(((rs:Nat):Int)==0)=false:=by simpa using e0
        have rsl:rs<g:=by rw[<-hrs.out];exact Vo (n:=n) (by omega) (by have:=hN.out;omega) hbit
        have rs1:1<=rs:=by omega
        have XK:Hid (∀ wr,Mod (fun b=>b=qa\/b=qb) W2 wr->Ext w0 wr):=fun wr m=>((X.out.mod FS.out.mod (fun k hk e=>by rcases e with e | e<;>omega)).mod MQ.out (fun k hk e=>by rcases e with e | e<;>omega)).mod m (fun k hk e=>by rcases e with e | e<;>omega)
        have BD:Hid (∀ k,k<n->rs.testBit k=true->0<=T rs k/\T rs k<=rs*2147483647):=fun k h1 h2=>WayOk.bd (n:=n) (by omega) (by have:=hN.out;omega) hW.out (fun a b ha hb=>num.out a b (by have:=hl.out;omega) (by have:=hl.out;omega)) rs k rsl h1 h2
        obtain⟨rr,hrr⟩:∃ rr,Hid (r rs=rr):=⟨_,rfl⟩;have ROW:Hid (∀ wr,Mod (fun b=>b=qa\/b=qb) W2 wr->wr.cell? ⟨tc,rs,none⟩=some (.slice (some ⟨rr,0,none⟩) n n)/\∀ k,k<n->wr.cell? ⟨rr,k,none⟩=some (.int .i64 (T rs k))):=fun wr m=>by
         rw[<-hrr.out];exact⟨(LOW.out wr m).1.cell rs1 rsl,fun k hk=>((LOW.out wr m).1.num rs1 rsl hk).1⟩
        have RA0:Hid (RowAh co n T g rs qa qb l 0 W2 (wp.setCell ⟨qa,l,none⟩ (.int .i64 1152921504606846976))):=⟨RF.out.1,RF.out.2.1,RF.out.2.2.congr fun j _=>by
         by_cases e:j=l
         ·subst e
          rw[if_neg (by omega),if_pos rfl]
          rfl
         ·rw[if_neg e]⟩
        have RR:Hid (∀ wr,RowAh co n T g rs qa qb l n W2 wr->RowS co n T g qa qb (l+1) W2 wr):=fun wr h=>h.rows hbit hrs.out hz
        have p11:(rs:Int)<=2048:=by omega
        clear RF RS hbit;go_wp2_with (fail);go_loopw [77] (fun v77 wr=>∃ k:Nat,v77=.int .i64 k/\k<=n/\Hid (RowAh co n T g rs qa qb l k W2 wr)) (fun v77 _=>n-(intOf v77).toNat)
        case atStart=>exact⟨0,rfl,by omega,RA0⟩
        case round =>
         clear RA0 ka fa CL SHL BT;obtain⟨wk,rfl⟩:∃ wk:World,wk=wr:=⟨_,rfl⟩;obtain⟨k,rfl,hk2,RK⟩:=hrel
         by_cases hkk:k<n
         ·have q3:(k:Int)<(n:Int):=by omega
          have BT:=UC rs k (by omega)
          by_cases hbk:rs.testBit k=true
          ·rw[hbk] at BT
           simp only[Bool.not_true] at BT;have bd:=BD.out k hkk hbk;obtain⟨m1,m2,m3,m4,m5⟩:=LOW.out wk RK.out.mod;have y0:=m5.c0;have y1:=m5.c1;have y5:=m4.cell 5;have yr:=(ROW.out wk RK.out.mod).1;have yk:=(ROW.out wk RK.out.mod).2 k hkk;have XF:=XK.out wk RK.out.mod;obtain⟨cb,cof,rb,ro,d',rfl,x1,x2⟩:=WP rok.out (hC.out.1.ext XF fun _ _ h=>h.ext XF) (r:=k+1) (c:=l+1) (by have:=hl.out;omega) (by have:=hl.out;omega);have cn:=num.out (k+1) (l+1) (by have:=hl.out;omega) (by have:=hl.out;omega);rw[hl.out] at x1;have lst:ZG (fun a=>T rs a+Zb co (a+1) (l+1)) rs (k+1)=if T rs k+Zb co (k+1) (l+1)<(ZG (fun a=>T rs a+Zb co (a+1) (l+1)) rs k).1 then(T rs k+Zb co (k+1) (l+1),k) else ZG (fun a=>T rs a+Zb co (a+1) (l+1)) rs k:=by
            rw[ZG,if_pos hbk]
           have ya:=RK.out.a.cell hll;have yb:=RK.out.b.cell hll;have fa:=RK.out.a.free l;have fb:=RK.out.b.free l;simp only[if_true] at ya yb;have RSM:Hid (¬(T rs k+Zb co (k+1) (l+1)<(ZG (fun a=>T rs a+Zb co (a+1) (l+1)) rs k).1)->RowAh co n T g rs qa qb l (k+1) W2 wk.drew):=fun h=>⟨(RK.out.same (by rw[lst,if_neg h])).mod.drew,(RK.out.same (by rw[lst,if_neg h])).a.ext (Ext.rf _).drew,(RK.out.same (by rw[lst,if_neg h])).b.ext (Ext.rf _).drew⟩
           have RTK:Hid (T rs k+Zb co (k+1) (l+1)<(ZG (fun a=>T rs a+Zb co (a+1) (l+1)) rs k).1->∀ W,Ext wk W->RowAh co n T g rs qa qb l (k+1) W2 ((W.setCell ⟨qa,l,none⟩ (.int .i64 (T rs k+Zb co (k+1) (l+1)))).setCell ⟨qb,l,none⟩ (.int .i64 k))):=fun h W x=>by
            have h1:RowAh co n T g rs qa qb l k W2 W:=⟨RK.out.mod.ext x,RK.out.a.ext x,RK.out.b.ext x⟩;exact h1.take nab (by rw[lst,if_pos h])
           clear lst;generalize (ZG (fun a=>T rs a+Zb co (a+1) (l+1)) rs k).1=cu at *;obtain⟨bk,eb⟩:∃ bk,Hid ((ZG (fun a=>T rs a+Zb co (a+1) (l+1)) rs k).2=bk):=⟨_,rfl⟩;rw[eb.out] at yb;obtain⟨p1,hp1⟩:∃ p1,Hid (l+1=p1):=⟨_,rfl⟩;obtain⟨k1,hk1⟩:∃ k1,Hid (k+1=k1):=⟨_,rfl⟩;obtain⟨cst,hcst⟩:∃ cst,Hid (Zb co (k+1) (l+1)=cst):=⟨_,rfl⟩;obtain⟨tt,htt⟩:∃ tt,Hid (T rs k=tt):=⟨_,rfl⟩;rw[hcst.out,htt.out] at RSM RTK;rw[htt.out] at yk bd;rw[hcst.out] at x2 cn;rw[hp1.out] at x2;rw[hk1.out] at x1;have q5:(p1:Int)<(n:Int)+1:=by have:=hp1.out;omega
           have q6:(k1:Int)<(n:Int)+1:=by have:=hk1.out;omega
           have q7:(rs:Int)<(N:Int):=by omega
           have q8:(g:Int)<(N:Int):=by omega
           have wl:IntKind.i64.wrap ((l:Int)+1)=(p1:Int):=by rw[show (l:Int)+1=(p1:Int) by have:=hp1.out;omega];exact IntWalk.i64_in _ (by omega)
           have wk1:IntKind.i64.wrap ((k:Int)+1)=(k1:Int):=by rw[show (k:Int)+1=(k1:Int) by have:=hk1.out;omega];exact IntWalk.i64_in _ (by omega)
           have ws:IntKind.i64.wrap (tt+cst)=tt+cst:=IntWalk.i64_in _ (by omega);have YB:Hid (∀ W,Ext wk W->(W.setCell ⟨qa,l,none⟩ (.int .i64 (tt+cst))).cell? ⟨qb,l,none⟩=some (.int .i64 bk)/\(W.setCell ⟨qa,l,none⟩ (.int .i64 (tt+cst))).frozen? ⟨qb,l,none⟩=false):=fun W x=>by
            have h1:=(RK.out.b.ext x).far (a:=⟨qa,l,none⟩) (fun e=>nab e.symm) (.int .i64 (tt+cst));have h2:=h1.cell hll;rw[if_pos rfl,eb.out] at h2;exact⟨h2,h1.free l⟩
           clear cn bd m1 m4 m5;go_wp2_with (fail);refine wp_region_any (by kernel_rfl) ?_
           change wpAny _ _ _ _ _ _ _ (World.drew _)
           refine Za (i:=0) (op:=Op.move (Operand.tmp 0)) (t:=135) (d:=some 85) (v:=?_) rfl (by decide +kernel) (by decide +kernel) (by decide +kernel) (fun _ _ _ h=>h) ?_ ?_
           case refine_2=>(intro _;unfold Zd;go_simp;try with_reducible rfl)
           try simp only[lay]
           refine Za (i:=1) (op:=Op.nilCheck (Operand.tmp 85)) (t:=0) (d:=some 86) (v:=?_) rfl (by decide +kernel) (by decide +kernel) (by decide +kernel) (fun _ _ _ h=>h) ?_ ?_
           case refine_2=>(intro _;unfold Zd;go_simp;try with_reducible rfl)
           try simp only[lay]
           refine Za (i:=2) (op:=Op.fieldAddr 137 (Operand.tmp 86) 0) (t:=0) (d:=some 87) (v:=?_) rfl (by decide +kernel) (by decide +kernel) (by decide +kernel) (fun _ _ _ h=>h) ?_ ?_
           case refine_2=>(intro _;unfold Zd;go_simp;try with_reducible rfl)
           try simp only[lay]
           refine Za (i:=4) (op:=Op.move (Operand.tmp 7)) (t:=3) (d:=some 89) (v:=?_) rfl (by decide +kernel) (by decide +kernel) (by decide +kernel) (fun _ _ _ h=>h) ?_ ?_
           case refine_2=>(intro _;unfold Zd;go_simp;try with_reducible rfl)
           try simp only[lay]
           refine Za (i:=7) (op:=Op.move (Operand.tmp 8)) (t:=3) (d:=some 92) (v:=?_) rfl (by decide +kernel) (by decide +kernel) (by decide +kernel) (fun _ _ _ h=>h) ?_ ?_
           case refine_2=>(intro _;unfold Zd;go_simp;try with_reducible rfl)
           try simp only[lay]
           refine Za (i:=10) (op:=Op.fieldAddr 25 (Operand.tmp 3) 5) (t:=0) (d:=some 95) (v:=?_) rfl (by decide +kernel) (by decide +kernel) (by decide +kernel) (fun _ _ _ h=>h) ?_ ?_
           case refine_2=>(intro _;unfold Zd;go_simp;try with_reducible rfl)
           try simp only[lay]
           refine Za (i:=12) (op:=Op.move (Operand.tmp 8)) (t:=3) (d:=some 97) (v:=?_) rfl (by decide +kernel) (by decide +kernel) (by decide +kernel) (fun _ _ _ h=>h) ?_ ?_
           case refine_2=>(intro _;unfold Zd;go_simp;try with_reducible rfl)
           try simp only[lay]
           refine Za (i:=13) (op:=Op.binOp BinOp.add 3 (Operand.tmp 97) (Operand.const (Value.int IntKind.i64 1)) 3) (t:=3) (d:=some 98) (v:=?_) rfl (by decide +kernel) (by decide +kernel) (by decide +kernel) (fun _ _ _ h=>h) ?_ ?_
           case refine_2=>(intro _;unfold Zd;go_simp;try with_reducible rfl)
           try simp only[lay]
           refine Za (i:=16) (op:=Op.move (Operand.tmp 6)) (t:=3) (d:=some 101) (v:=?_) rfl (by decide +kernel) (by decide +kernel) (by decide +kernel) (fun _ _ _ h=>h) ?_ ?_
           case refine_2=>(intro _;unfold Zd;go_simp;try with_reducible rfl)
           try simp only[lay]
           refine Za (i:=17) (op:=Op.binOp BinOp.add 3 (Operand.tmp 101) (Operand.const (Value.int IntKind.i64 1)) 3) (t:=3) (d:=some 102) (v:=?_) rfl (by decide +kernel) (by decide +kernel) (by decide +kernel) (fun _ _ _ h=>h) ?_ ?_
           case refine_2=>(intro _;unfold Zd;go_simp;try with_reducible rfl)
           try simp only[lay]
           refine YX (n:=2) [(3,some 88),(5,some 90),(6,some 91),(8,some 93),(9,some 94),(11,some 96),(14,some 99),(15,some 100),(18,some 103),(19,some 104)] (fun | 3=>.slice (some ⟨tc,0,none⟩) N N | 5=>.pointer (some ⟨tc,rs,none⟩) | 6=>.slice (some ⟨rr,0,none⟩) n n | 8=>.pointer (some ⟨rr,k,none⟩) | 9=>.int .i64 tt | 11=>.slice (some ⟨cb,cof,none⟩) (n+1) d | 14=>.pointer (some ⟨cb,cof+k1,none⟩) | 15=>.slice (some ⟨rb,ro,none⟩) (n+1) d' | 18=>.pointer (some ⟨rb,ro+p1,none⟩) | 19=>.int .i64 cst | _=>undef) #[true,true,true,true,true,true,true,true,true,true,true,true,true,true,true,true,true,true,true,true,false,false] (by decide +kernel) ?_ ?_
           ·intro pS hpm uS hD K hK
            simp only[List.mem_cons,List.not_mem_nil,or_false] at hpm;rcases hpm with rfl | rfl | rfl | rfl | rfl | rfl | rfl | rfl | rfl | rfl
            ·exact Zp (T:=23) (x:=Operand.tmp 87) (t:=23) (d:=some 88) rfl (.pointer (some ⟨gp,0,none⟩)) (by kernel_rfl) (.slice (some ⟨tc,0,none⟩) N N) (by go_simp) hK
            ·exact Z2 (T:=23) (x:=Operand.tmp 88) (y:=Operand.tmp 89) (t:=0) (d:=some 90) rfl (.slice (some ⟨tc,0,none⟩) N N) (.int .i64 rs) (Eq.trans (b:=uS 3) (by kernel_rfl) (hD 3 (Zn (by kernel_rfl)))) (by kernel_rfl) (.pointer (some ⟨tc,rs,none⟩)) (by go_simp) hK
            ·exact Zp (T:=22) (x:=Operand.tmp 90) (t:=22) (d:=some 91) rfl (.pointer (some ⟨tc,rs,none⟩)) (Eq.trans (b:=uS 5) (by kernel_rfl) (hD 5 (Zn (by kernel_rfl)))) (.slice (some ⟨rr,0,none⟩) n n) (by go_simp) hK
            ·exact Z2 (T:=22) (x:=Operand.tmp 91) (y:=Operand.tmp 92) (t:=0) (d:=some 93) rfl (.slice (some ⟨rr,0,none⟩) n n) (.int .i64 k) (Eq.trans (b:=uS 6) (by kernel_rfl) (hD 6 (Zn (by kernel_rfl)))) (by kernel_rfl) (.pointer (some ⟨rr,k,none⟩)) (by go_simp) hK
            ·exact Zp (T:=3) (x:=Operand.tmp 93) (t:=3) (d:=some 94) rfl (.pointer (some ⟨rr,k,none⟩)) (Eq.trans (b:=uS 8) (by kernel_rfl) (hD 8 (Zn (by kernel_rfl)))) (.int .i64 tt) (by go_simp) hK
            ·exact Zp (T:=23) (x:=Operand.tmp 95) (t:=23) (d:=some 96) rfl (.pointer (some ⟨gi,5,none⟩)) (by kernel_rfl) (.slice (some ⟨cb,cof,none⟩) (n+1) d) (by go_simp) hK
            ·exact Z2 (T:=23) (x:=Operand.tmp 96) (y:=Operand.tmp 98) (t:=0) (d:=some 99) rfl (.slice (some ⟨cb,cof,none⟩) (n+1) d) (.int .i64 k1) (Eq.trans (b:=uS 11) (by kernel_rfl) (hD 11 (Zn (by kernel_rfl)))) (by kernel_rfl) (.pointer (some ⟨cb,cof+k1,none⟩)) (by go_simp) hK
            ·exact Zp (T:=22) (x:=Operand.tmp 99) (t:=22) (d:=some 100) rfl (.pointer (some ⟨cb,cof+k1,none⟩)) (Eq.trans (b:=uS 14) (by kernel_rfl) (hD 14 (Zn (by kernel_rfl)))) (.slice (some ⟨rb,ro,none⟩) (n+1) d') (by go_simp) hK
            ·exact Z2 (T:=22) (x:=Operand.tmp 100) (y:=Operand.tmp 102) (t:=0) (d:=some 103) rfl (.slice (some ⟨rb,ro,none⟩) (n+1) d') (.int .i64 p1) (Eq.trans (b:=uS 15) (by kernel_rfl) (hD 15 (Zn (by kernel_rfl)))) (by kernel_rfl) (.pointer (some ⟨rb,ro+p1,none⟩)) (by go_simp) hK
            ·exact Zp (T:=3) (x:=Operand.tmp 103) (t:=3) (d:=some 104) rfl (.pointer (some ⟨rb,ro+p1,none⟩)) (Eq.trans (b:=uS 18) (by kernel_rfl) (hD 18 (Zn (by kernel_rfl)))) (.int .i64 cst) (by go_simp) hK
           simp only[Zk,Act.put,List.setIfInBounds_toArray,List.set_cons_zero,List.set_cons_succ];refine Za (i:=20) (op:=Op.binOp BinOp.add 3 (Operand.tmp 94) (Operand.tmp 104) 3) (t:=3) (d:=some 105) (v:=?_) rfl (by decide +kernel) (by decide +kernel) (by decide +kernel) (fun _ _ _ h=>h) ?_ ?_
           case refine_2=>(intro _;unfold Zd;go_simp;try with_reducible rfl)
           try simp only[lay]
           refine Za (i:=21) (op:=Op.assign (Operand.tmp 105)) (t:=3) (d:=some 9) (v:=?_) rfl (by decide +kernel) (by decide +kernel) (by decide +kernel) (fun _ _ _ h=>h) ?_ ?_
           case refine_2=>(intro _;unfold Zd;go_simp;try with_reducible rfl)
           try simp only[lay]
           refine wpAny_done (by kernel_rfl) ?_ _;clear x1 x2 y5 yk yr
           by_cases hlt9:tt+cst<cu
           ·have FT:=Hd (RTK.out hlt9)
            clear RSM RTK;go_wp2_with (fail);refine wp_region_any (by kernel_rfl) ?_
            change wpAny _ _ _ _ _ _ _ (World.drew _)
            refine Za (i:=0) (op:=Op.move (Operand.tmp 0)) (t:=135) (d:=some 118) (v:=?_) rfl (by decide +kernel) (by decide +kernel) (by decide +kernel) (fun _ _ _ h=>h) ?_ ?_
            case refine_2=>(intro _;unfold Zd;go_simp;try with_reducible rfl)
            try simp only[lay]
            refine Za (i:=1) (op:=Op.nilCheck (Operand.tmp 118)) (t:=0) (d:=some 119) (v:=?_) rfl (by decide +kernel) (by decide +kernel) (by decide +kernel) (fun _ _ _ h=>h) ?_ ?_
            case refine_2=>(intro _;unfold Zd;go_simp;try with_reducible rfl)
            try simp only[lay]
            refine Za (i:=2) (op:=Op.fieldAddr 137 (Operand.tmp 119) 0) (t:=0) (d:=some 120) (v:=?_) rfl (by decide +kernel) (by decide +kernel) (by decide +kernel) (fun _ _ _ h=>h) ?_ ?_
            case refine_2=>(intro _;unfold Zd;go_simp;try with_reducible rfl)
            try simp only[lay]
            refine Za (i:=4) (op:=Op.move (Operand.tmp 5)) (t:=3) (d:=some 122) (v:=?_) rfl (by decide +kernel) (by decide +kernel) (by decide +kernel) (fun _ _ _ h=>h) ?_ ?_
            case refine_2=>(intro _;unfold Zd;go_simp;try with_reducible rfl)
            try simp only[lay]
            refine Za (i:=7) (op:=Op.move (Operand.tmp 6)) (t:=3) (d:=some 125) (v:=?_) rfl (by decide +kernel) (by decide +kernel) (by decide +kernel) (fun _ _ _ h=>h) ?_ ?_
            case refine_2=>(intro _;unfold Zd;go_simp;try with_reducible rfl)
            try simp only[lay]
            refine Za (i:=8) (op:=Op.move (Operand.tmp 0)) (t:=135) (d:=some 126) (v:=?_) rfl (by decide +kernel) (by decide +kernel) (by decide +kernel) (fun _ _ _ h=>h) ?_ ?_
            case refine_2=>(intro _;unfold Zd;go_simp;try with_reducible rfl)
            try simp only[lay]
            refine Za (i:=9) (op:=Op.nilCheck (Operand.tmp 126)) (t:=0) (d:=some 127) (v:=?_) rfl (by decide +kernel) (by decide +kernel) (by decide +kernel) (fun _ _ _ h=>h) ?_ ?_
            case refine_2=>(intro _;unfold Zd;go_simp;try with_reducible rfl)
            try simp only[lay]
            refine Za (i:=10) (op:=Op.fieldAddr 137 (Operand.tmp 127) 1) (t:=0) (d:=some 128) (v:=?_) rfl (by decide +kernel) (by decide +kernel) (by decide +kernel) (fun _ _ _ h=>h) ?_ ?_
            case refine_2=>(intro _;unfold Zd;go_simp;try with_reducible rfl)
            try simp only[lay]
            refine Za (i:=12) (op:=Op.move (Operand.tmp 5)) (t:=3) (d:=some 130) (v:=?_) rfl (by decide +kernel) (by decide +kernel) (by decide +kernel) (fun _ _ _ h=>h) ?_ ?_
            case refine_2=>(intro _;unfold Zd;go_simp;try with_reducible rfl)
            try simp only[lay]
            refine Za (i:=15) (op:=Op.move (Operand.tmp 6)) (t:=3) (d:=some 133) (v:=?_) rfl (by decide +kernel) (by decide +kernel) (by decide +kernel) (fun _ _ _ h=>h) ?_ ?_
            case refine_2=>(intro _;unfold Zd;go_simp;try with_reducible rfl)
            try simp only[lay]
            refine Za (i:=16) (op:=Op.move (Operand.tmp 9)) (t:=3) (d:=some 134) (v:=?_) rfl (by decide +kernel) (by decide +kernel) (by decide +kernel) (fun _ _ _ h=>h) ?_ ?_
            case refine_2=>(intro _;unfold Zd;go_simp;try with_reducible rfl)
            try simp only[lay]
            refine Za (i:=17) (op:=Op.move (Operand.tmp 8)) (t:=3) (d:=some 135) (v:=?_) rfl (by decide +kernel) (by decide +kernel) (by decide +kernel) (fun _ _ _ h=>h) ?_ ?_
            case refine_2=>(intro _;unfold Zd;go_simp;try with_reducible rfl)
            try simp only[lay]
            refine YX (n:=4) [(3,some 121),(5,some 123),(6,some 124),(11,some 129),(13,some 131),(14,some 132)] (fun | 3=>.slice (some ⟨tc,0,none⟩) N N | 5=>.pointer (some ⟨tc,g,none⟩) | 6=>.slice (some ⟨qa,0,none⟩) n n | 11=>.slice (some ⟨tb,0,none⟩) N N | 13=>.pointer (some ⟨tb,g,none⟩) | 14=>.slice (some ⟨qb,0,none⟩) n n | _=>undef) #[true,true,true,true,true,true,true,true,true,true,true,true,true,true,true,true,true,true,false,false,false,false] (by decide +kernel) ?_ ?_
            ·intro pS hpm uS hD K hK
             simp only[List.mem_cons,List.not_mem_nil,or_false] at hpm;rcases hpm with rfl | rfl | rfl | rfl | rfl | rfl
             ·exact Zp (T:=23) (x:=Operand.tmp 120) (t:=23) (d:=some 121) rfl (.pointer (some ⟨gp,0,none⟩)) (by kernel_rfl) (.slice (some ⟨tc,0,none⟩) N N) (by go_simp) hK
             ·exact Z2 (T:=23) (x:=Operand.tmp 121) (y:=Operand.tmp 122) (t:=0) (d:=some 123) rfl (.slice (some ⟨tc,0,none⟩) N N) (.int .i64 g) (Eq.trans (b:=uS 3) (by kernel_rfl) (hD 3 (Zn (by kernel_rfl)))) (by kernel_rfl) (.pointer (some ⟨tc,g,none⟩)) (by go_simp) hK
             ·exact Zp (T:=22) (x:=Operand.tmp 123) (t:=22) (d:=some 124) rfl (.pointer (some ⟨tc,g,none⟩)) (Eq.trans (b:=uS 5) (by kernel_rfl) (hD 5 (Zn (by kernel_rfl)))) (.slice (some ⟨qa,0,none⟩) n n) (by go_simp) hK
             ·exact Zp (T:=23) (x:=Operand.tmp 128) (t:=23) (d:=some 129) rfl (.pointer (some ⟨gp,1,none⟩)) (by kernel_rfl) (.slice (some ⟨tb,0,none⟩) N N) (by go_simp) hK
             ·exact Z2 (T:=23) (x:=Operand.tmp 129) (y:=Operand.tmp 130) (t:=0) (d:=some 131) rfl (.slice (some ⟨tb,0,none⟩) N N) (.int .i64 g) (Eq.trans (b:=uS 11) (by kernel_rfl) (hD 11 (Zn (by kernel_rfl)))) (by kernel_rfl) (.pointer (some ⟨tb,g,none⟩)) (by go_simp) hK
             ·exact Zp (T:=22) (x:=Operand.tmp 131) (t:=22) (d:=some 132) rfl (.pointer (some ⟨tb,g,none⟩)) (Eq.trans (b:=uS 13) (by kernel_rfl) (hD 13 (Zn (by kernel_rfl)))) (.slice (some ⟨qb,0,none⟩) n n) (by go_simp) hK
            simp only[Zk,Act.put,List.setIfInBounds_toArray,List.set_cons_zero,List.set_cons_succ];refine Zi 18 (by decide +kernel) (Z2 (T:=22) rfl (.slice (some ⟨qa,0,none⟩) n n) (.int .i64 l) (by kernel_rfl) (by kernel_rfl) (.pointer (some ⟨qa,l,none⟩)) (by go_simp) ?_)
            try simp only[lay]
            refine Zi 19 (by decide +kernel) (Yl rfl (.pointer (some ⟨qa,l,none⟩)) (.int .i64 (tt+cst)) (by kernel_rfl) (by kernel_rfl) (by go_simp;rfl) ?_)
            try simp only[lay]
            obtain⟨z1,z2⟩:=YB.out wk.drew.drew (Ext.rf _).drew.drew;refine Zi 20 (by decide +kernel) (Z2 (T:=22) rfl (.slice (some ⟨qb,0,none⟩) n n) (.int .i64 l) (by kernel_rfl) (by kernel_rfl) (.pointer (some ⟨qb,l,none⟩)) (by go_simp) ?_)
            try simp only[lay]
            refine Zi 21 (by decide +kernel) (Yl rfl (.pointer (some ⟨qb,l,none⟩)) (.int .i64 k) (by kernel_rfl) (by kernel_rfl) (by go_simp;rfl) ?_);refine wpAny_done (by kernel_rfl) ?_ _;have RN:=Hd (FT.out wk.drew.drew (Ext.rf _).drew.drew);have hl9:Hid (k+1<=n):=by
             have h9:k+1<=n:=hkk;exact h9
            clear FT YB z1 z2 wl wk1 q5 q6;go_simp;go_wp2_with (fail);go_roundw
            case rel=>exact⟨k+1,by go_num,hl9.out,RN⟩
            case measure=>(have h9:=hl9.out;simp[intOf];omega)
           ·have RN:=Hd (RSM.out (by omega))
            have hl9:Hid (k+1<=n):=by
             have h9:k+1<=n:=hkk;exact h9
            clear RSM RTK YB wl wk1 q5 q6;go_wp2_with (fail);go_roundw
            case rel=>exact⟨k+1,by go_num,hl9.out,RN⟩
            case measure=>(have h9:=hl9.out;simp[intOf];omega)
          ·have hbk2:rs.testBit k=false:=by simpa using hbk
           rw[hbk2] at BT;simp only[Bool.not_false] at BT;have RN:Hid (RowAh co n T g rs qa qb l (k+1) W2 wk):=RK.out.same (by rw[ZG,if_neg hbk]);clear hbk hbk2;go_wp2_with (fail);go_roundw
           case rel=>exact⟨k+1,by go_num,by omega,RN⟩
           case measure=>simp[intOf];omega
         ·obtain rfl:k=n:=by omega
          have q3:¬((k:Int)<(k:Int)):=by omega
          have RN:=Hd (RR.out wk RK.out);go_wp2_with (fail);go_roundw
          case rel=>exact⟨l+1,by go_num,by omega,RN⟩
          case measure=>simp[intOf];omega
      ·have hbit2:g.testBit l=false:=by simpa using hbit
       rw[hbit2] at BT;simp only[Bool.not_false] at BT;have RN:Hid (RowS co n T g qa qb (l+1) W2 (wp.setCell ⟨qa,l,none⟩ (.int .i64 1152921504606846976))):=by
        refine⟨RF.out.1,RF.out.2.1.congr fun j _=>?_,RF.out.2.2.congr fun j _=>?_⟩
        ·by_cases e:j=l
         ·subst e
          rw[if_pos rfl,if_pos (by omega)];unfold Wb Uz;rw[if_neg hbit]
         ·rw[if_neg e]
          by_cases e2:j<l
          ·rw[if_pos e2,if_pos (by omega)]
          ·rw[if_neg e2,if_neg (by omega)]
        ·by_cases e:j=l
         ·subst e
          rw[if_neg (by omega),if_pos (by omega)];unfold Wb;rw[if_neg hbit]
         ·by_cases e2:j<l
          ·rw[if_pos e2,if_pos (by omega)]
          ·rw[if_neg e2,if_neg (by omega)]
       clear RF hbit hbit2;go_wp2_with (fail);go_roundw
       case rel=>exact⟨l+1,by go_num,by omega,RN⟩
       case measure=>simp[intOf];omega
     ·obtain rfl:l=n:=by omega
      have m4:=RS.out.mod;have hra:∀ x,1<=x->x<g->r x<wo.heap.size:=fun x h1 h2=>(hT.out.row x h1 h2).1.lt
      have hrb:∀ x,1<=x->x<g->r2 x<wo.heap.size:=fun x h1 h2=>(hB.out.row x h1 h2).1.lt
      obtain⟨cs,hb,-⟩:=PT2.out.tab;obtain⟨cs2,hb2,-⟩:=PB.out.tab;have NS:Hid (FillS co l N w wp w0.heap.size tc tb (g+1)):=by
       refine⟨FS.out.mod.tr' (MQ.out.tr' m4 (S:=fun b=>b=tc\/b=tb) (fun k hk hs=>by rcases hs with e | e<;>omega)) (fun k _ hs=>hs),fun x=>if x=g then qa else r x,fun x=>if x=g then qb else r2 x,_,_,?_,?_,WayOk.next (T:=T) (Bk:=Bk) n11 (by have:=hN.out;omega) hW.out (fun a b ha hb=>num.out a b (by have:=hl.out;omega) (by have:=hl.out;omega)),?_⟩
       ·refine(PT2.out.last (u:=fun j=>(Wb co l T g j).1) m4 (by rintro (e | e)<;>(subst e;omega)) (fun x h1 h2=>by rw[if_neg (by omega)];have:=hra x h1 h2;rintro (e | e)<;>omega) (by rw[if_pos rfl];exact RS.out.a.congr fun j hj=>if_pos hj) hg1).congr fun x j _ _ _=>?_
        by_cases e:x=g
        ·simp[e]
        ·simp[e]
       ·refine(PB.out.last (u:=fun j=>(((Wb co l T g j).2:Nat):Int)) m4 (by rintro (e | e)<;>(subst e;omega)) (fun x h1 h2=>by rw[if_neg (by omega)];have:=hrb x h1 h2;rintro (e | e)<;>omega) (by rw[if_pos rfl];exact RS.out.b.congr fun j hj=>by rw[if_pos hj]) hg1).congr fun x j _ _ _=>?_
        by_cases e:x=g
        ·simp[e]
        ·simp[e]
       ·intro x y x1 x2 y1 y2
        by_cases ex:x=g<;>by_cases ey:y=g
        ·simp only[if_pos ex,if_pos ey];exact nab
        ·simp only[if_pos ex,if_neg ey];have:=hrb y y1 (by omega);omega
        ·simp only[if_neg ex,if_pos ey];have:=hra x x1 (by omega);omega
        ·simp only[if_neg ex,if_neg ey];exact hR.out x y x1 (by omega) y1 (by omega)
      have NI:=Hd (LOW.out wp m4).2.2.2.1;have q3:¬((l:Int)<(l:Int)):=by omega
      have wg:IntKind.i64.wrap ((g:Int)+1)=((g+1:Nat):Int):=by rw[show (g:Int)+1=((g+1:Nat):Int) by omega];exact IntWalk.i64_in _ (by omega)
      clear hb hb2 m4 hra hrb LOW;go_wp2_with (fail);go_roundw
      case rel=>exact⟨g+1,by go_num,by omega,by omega,NS,NI⟩
      case measure=>simp[intOf];omega
  ·obtain rfl:g=N:=by omega
   have q1:¬((g:Int)<(g:Int)):=by omega
   go_wp2_with (fail);go_end0;exact⟨rfl,FS.out⟩
end Go.Proofs.YtmojhhlcocjoaaaGreatDoor
namespace Go.Proofs.YtmojhhlcocjoaaaGreatDoor
open Go.RowKit Go.ChangeShapes Go.WideShapes Go.ChangeAt
def RevTo (xs ys:List Int)(i:Nat) : Prop:=ys.length=xs.length/\∀ k,k<xs.length->ys[k]?=if k<i\/xs.length-i<=k then xs[xs.length-1-k]? else xs[k]?
theorem RevTo.start (xs:List Int) : RevTo xs xs 0:=⟨rfl,fun k hk=>by rw[if_neg (by omega)]⟩
theorem RevTo.step {xs ys:List Int}{i:Nat}{x y:Int}(h:RevTo xs ys i)(hi:i+i+1<xs.length)(hx:ys[i]?=some x)(hy:ys[xs.length-1-i]?=some y) : RevTo xs ((ys.set i y).set (xs.length-1-i) x) (i+1):=by
 obtain⟨h1,h2⟩:=h;have ei:=h2 i (by omega);have ej:=h2 (xs.length-1-i) (by omega);rw[if_neg (by omega),hx] at ei;rw[if_neg (by omega),hy] at ej;refine⟨by simpa using h1,fun k hk=>?_⟩
 by_cases hkj:xs.length-1-i=k
 ·subst hkj
  rw[List.getElem?_set_self (by simp;omega),if_pos (by omega),show xs.length-1-(xs.length-1-i)=i by omega,<-ei]
 ·rw[List.getElem?_set_ne hkj]
  by_cases hki:i=k
  ·subst hki
   rw[List.getElem?_set_self (by omega),if_pos (by omega),<-ej]
  ·rw[List.getElem?_set_ne hki,h2 k hk]
   by_cases hc:k<i\/xs.length-i<=k
   ·rw[if_pos hc,if_pos (by omega)]
   ·rw[if_neg hc,if_neg (by omega)]
theorem RevTo.done {xs ys:List Int}{i:Nat}(h:RevTo xs ys i)(hi:xs.length<=i+i+1) : ys=xs.reverse:=by
 obtain⟨h1,h2⟩:=h;apply List.ext_getElem?;intro k
 by_cases hk:k<xs.length
 ·rw[h2 k hk,List.getElem?_reverse hk]
  split
  ·rfl
  ·rw[show xs.length-1-k=k by omega]
 ·rw[List.getElem?_eq_none (by omega),List.getElem?_eq_none (by simp;omega)]
theorem Zbn (A:Option Addr)(c base:Nat)(xs:List Int)(w:World)(h:OwI w base A c xs)(hl:xs.length<=2^44) :
  Calls Tryz.prog 85 #[.slice A xs.length c] w fun e w'=>e=.returned (.tuple #[])/\OwI w' base A c xs.reverse/\Mod (fun k=>bl A=some k) w w':=by
 go_enter Tryz.func85,Tryz.ntmps85;go_wp2_with fail;go_loopw [2,3] (fun i j wr=>∃ (k:Nat) (ys:List Int),i=.int .i64 k/\j=.int .i64 ((xs.length:Int)-1-k)/\k+k<=xs.length/\RevTo xs ys k/\OwI wr base A c ys/\Mod (fun k=>bl A=some k) w wr) (fun i _ _=>xs.length-(intOf i).toNat)
 case atStart=>exact⟨0,xs,rfl,by simp,by omega,RevTo.start _,h,Mod.rf _⟩
 case round =>
  obtain⟨k,ys,rfl,rfl,hk,hr,ho,hm⟩:=hrel
  by_cases hlt:k+k+1<xs.length
  ·have hly:ys.length=xs.length:=hr.1
   obtain⟨g,x,rfl,hg,hgl,hc1,hf1,hx,hs1⟩:=ho.at (k:=k) (by omega);obtain⟨y,hc2,hf2,_,hy,_⟩:=ho.cell (k:=xs.length-1-k) (by omega);obtain⟨_,_,_,_,_,hs2⟩:=(hs1.out y).cell (k:=xs.length-1-k) (by rw[List.length_set];omega);have hr2:=Hd (hr.step hlt hx.out hy.out);replace hly:=Hd hly;replace hr:=Hd hr;replace ho:=Hd ho;have hlt':(k:Int)<(xs.length:Int)-1-k:=by omega
   have hej:(xs.length:Int)-1-(k:Int)=((xs.length-1-k:Nat):Int):=by omega
   rw[hej] at hlt' ⊢;generalize hj:xs.length-1-k=j at *;have hkj:k<j:=by omega
   have hjl:j<xs.length:=by omega
   replace hj:=Hd hj;replace hej:=Hd hej;go_wp2_with (go_region);go_roundw
   case rel=>exact⟨k+1,_,by go_num,by congr 1;have:=hej.out;omega,by omega,hr2.out,(hs2.out x).ext ((Ext.rf _).drew),((hm.set (p:=⟨g,k,none⟩) (.inl rfl) _).set (p:=⟨g,j,none⟩) (.inl rfl) _).drew⟩
   case measure=>simp[intOf];omega
  ·have hle:¬(k:Int)<(xs.length:Int)-1-k:=by omega
   go_wp2;go_end0;exact⟨rfl,by have:=hr.done (by omega);rw[<-this];exact ho,hm⟩
structure HI (n:Nat)(cst:Nat->Nat->Int)(r:Nat)(u v:Nat->Int)(has:Nat->Nat) : Prop where
 le:∀ c,1<=c->c<=n->has c<=r
 all:∀ i,1<=i->i<=r->∃ c,1<=c/\c<=n/\has c=i
 inj:∀ c c',1<=c->c<=n->1<=c'->c'<=n->has c=has c'->has c≠0->c=c'
 slack:∀ i c,1<=i->i<=n->1<=c->c<=n->u i+v c<=cst i c
 tight:∀ c,1<=c->c<=n->has c≠0->cst (has c) c=u (has c)+v c
 free:∀ c,1<=c->c<=n->has c=0->v c=0
 neg:∀ c,1<=c->c<=n->v c<=0
 pos:∀ i,0<=u i
 fresh:∀ i,r<i->u i=0
theorem HI.start {n:Nat}{cst:Nat->Nat->Int}(num:∀ i c,1<=i->i<=n->1<=c->c<=n->0<=cst i c) : HI n cst 0 (fun _=>0) (fun _=>0) (fun _=>0) where
 le:=fun _ _ _=>Nat.le_refl _
 all:=fun i h1 h2=>by omega
 inj:=fun _ _ _ _ _ _ _ h=>absurd rfl h
 slack:=fun i c h1 h2 h3 h4=>by have:=num i c h1 h2 h3 h4;omega
 tight:=fun _ _ _ h=>absurd rfl h
 free:=fun _ _ _ _=>rfl
 neg:=fun _ _ _=>Int.le_refl _
 pos:=fun _=>Int.le_refl _
 fresh:=fun _ _=>rfl
theorem Xw {l:List Nat}{n:Nat}(hd:l.Nodup)(h:∀ x∈l,x<n) : l.length<=n:=by
 have hp:l.Perm ((List.range n).filter fun x=>decide (x∈l)):=by
  refine(List.perm_ext_iff_of_nodup hd (List.Pairwise.filter _ List.nodup_range)).2 fun x=>?_
  rw[List.mem_filter,List.mem_range];exact⟨fun hx=>⟨h x hx,decide_eq_true hx⟩,fun hx=>of_decide_eq_true hx.2⟩
 rw[hp.length_eq];have:=List.length_filter_le (fun x=>decide (x∈l)) (List.range n)
 rwa [List.length_range] at this
theorem HI.some_free {n:Nat}{cst:Nat->Nat->Int}{r:Nat}{u v:Nat->Int}{has:Nat->Nat}(h:HI n cst r u v has)(hr:r<n) : ∃ c,1<=c/\c<=n/\has c=0:=by
 cases hd:decide (∃ c,c<n/\has (c+1)=0) with
 | true =>
  obtain⟨c,h1,h2⟩:=of_decide_eq_true hd;exact⟨c+1,by omega,by omega,h2⟩
 | false =>
  exfalso
  have hn:=of_decide_eq_false hd;have hne:∀ c,c<n->has (c+1)≠0:=fun c hc e=>hn ⟨c,hc,e⟩
  have hl:=Xw (l:=(List.range n).map fun c=>has (c+1)-1) (n:=r) ?_ ?_
  ·rw[List.length_map,List.length_range] at hl
   omega
  ·refine(List.pairwise_map.2 ?_)
   refine List.Pairwise.imp_of_mem ?_ List.nodup_range;intro a b ha hb hab e;have ha:=List.mem_range.1 ha;have hb:=List.mem_range.1 hb;have h1:=hne a ha;have h2:=hne b hb;have:=h.inj (a+1) (b+1) (by omega) (by omega) (by omega) (by omega) (by omega) h1;exact hab (by omega)
  ·intro x hx
   obtain⟨c,hc,rfl⟩:=List.mem_map.1 hx;have hc:=List.mem_range.1 hc;have h1:=hne c hc;have h2:=h.le (c+1) (by omega) (by omega);omega
structure GI (n:Nat)(cst:Nat->Nat->Int)(far:Int)(R:Nat)(has:Nat->Nat)(L:List Nat)(at':Nat)(u v least:Nat->Int)(frm:Nat->Nat) : Prop where
 nodup:(L++[at']).Nodup
 first:(L++[at']).head?=some 0
 le:∀ c∈L++[at'],c<=n
 seen:∀ c∈L,has c≠0
 way:∀ (A B:List Nat) (c:Nat),L++[at']=A++c::B->A≠[]->frm c∈A/\cst (has (frm c)) c=u (has (frm c))+v c
 slack:∀ i c,1<=i->i<=n->1<=c->c<=n->u i+v c<=cst i c
 tight:∀ c,1<=c->c<=n->has c≠0->cst (has c) c=u (has c)+v c
 free:∀ c,1<=c->c<=n->has c=0->v c=0
 neg:∀ c,1<=c->c<=n->v c<=0
 pos:∀ i,0<=u i
 fresh:∀ i,R<i->u i=0
 far0:L=[]->∀ c,1<=c->c<=n->least c=far
 least1:∀ c,1<=c->c<=n->c∉L->∀ s∈L,least c<=cst (has s) c-u (has s)-v c
 least2:L≠[]->∀ c,1<=c->c<=n->c∉L->frm c∈L/\least c=cst (has (frm c)) c-u (has (frm c))-v c
structure HasOk (n R:Nat)(has:Nat->Nat) : Prop where
 le:∀ c,c<=n->has c<=R
 zero:has 0=R
 inj:∀ c c',c<=n->c'<=n->has c=has c'->has c≠0->c=c'
 all:∀ i,1<=i->i<=R->∃ c,c<=n/\has c=i
theorem HI.hasOk {n:Nat}{cst:Nat->Nat->Int}{r:Nat}{u v:Nat->Int}{has has':Nat->Nat}(h:HI n cst r u v has)(h0:has' 0=r+1)(hs:∀ c,1<=c->has' c=has c) : HasOk n (r+1) has' where
 le:=fun c hc=>by
  by_cases e:c=0
  ·subst e;omega
  ·rw[hs c (by omega)]
   have:=h.le c (by omega) hc;omega
 zero:=h0
 inj:=fun c c' hc hc' e hne=>by
  by_cases e0:c=0
  ·subst e0
   by_cases e1:c'=0
   ·exact e1.symm
   ·rw[hs c' (by omega),h0] at e
    have:=h.le c' (by omega) hc';omega
  ·by_cases e1:c'=0
   ·subst e1
    rw[hs c (by omega),h0] at e;have:=h.le c (by omega) hc;omega
   ·rw[hs c (by omega),hs c' (by omega)] at e
    rw[hs c (by omega)] at hne;exact h.inj c c' (by omega) hc (by omega) hc' e hne
 all:=fun i h1 h2=>by
  by_cases e:i=r+1
  ·exact⟨0,by omega,by rw[h0,e]⟩
  ·obtain⟨c,k1,k2,k3⟩:=h.all i h1 (by omega)
   exact⟨c,k2,by rw[hs c k1];exact k3⟩
theorem HI.grow {n:Nat}{cst:Nat->Nat->Int}{r:Nat}{u v least:Nat->Int}{has has' frm:Nat->Nat}{far:Int}(h:HI n cst r u v has)(hs:∀ c,1<=c->has' c=has c)(hf:∀ c,1<=c->c<=n->least c=far) : GI n cst far (r+1) has' [] 0 u v least frm where
 nodup:=by simp
 first:=rfl
 le:=fun c hc=>by simp at hc;omega
 seen:=fun c hc=>by cases hc
 way:=fun A B c e hA=>by
  exfalso
  have:=congrArg List.length e
  cases A with
  | nil=>exact hA rfl
  | cons a A=>simp at this
 slack:=h.slack
 tight:=fun c h1 h2 h3=>by
  rw[hs c h1] at h3 ⊢;exact h.tight c h1 h2 h3
 free:=fun c h1 h2 h3=>by
  rw[hs c h1] at h3;exact h.free c h1 h2 h3
 neg:=h.neg
 pos:=h.pos
 fresh:=fun i hi=>h.fresh i (by omega)
 far0:=fun _=>hf
 least1:=fun c _ _ _ s hs=>by cases hs
 least2:=fun h=>absurd rfl h
section
variable {n R:Nat} {cst:Nat->Nat->Int} {far:Int} {has frm frm':Nat->Nat} {L:List Nat} {a next:Nat} {u v least least' u' v' least2:Nat->Int} {step:Int}
theorem GI.notin (h:GI n cst far R has L a u v least frm) : a∉L:=fun ha=>by
 have:=List.nodup_append.1 h.nodup;exact this.2.2 a ha a (by simp) rfl
theorem GI.round (h:GI n cst far R has L a u v least frm)(ho:HasOk n R has)(hRn:R<=n)(hfar:∀ i c,1<=i->i<=n->1<=c->c<=n->cst i c-u i-v c<far)(ha:has a≠0)
  (k1:∀ c,1<=c->c<=n->c∉L++[a]->(cst (has a) c-u (has a)-v c<least c/\least' c=cst (has a) c-u (has a)-v c/\frm' c=a)\/(least c<=cst (has a) c-u (has a)-v c/\least' c=least c/\frm' c=frm c))
  (k1':∀ c,c∈L++[a]->frm' c=frm c)
  (k2:1<=next/\next<=n/\next∉L++[a]/\step=least' next/\∀ c,1<=c->c<=n->c∉L++[a]->step<=least' c)
  (k3:∀ i,u' i=if ∃ s,s∈L++[a]/\has s=i then u i+step else u i) (k4:∀ c,1<=c->c<=n->v' c=if c∈L++[a] then v c-step else v c) (k5:∀ c,1<=c->c<=n->c∉L++[a]->least2 c=least' c-step) :
  GI n cst far R has (L++[a]) next u' v' least2 frm'/\0<=step:=by
 obtain⟨n1,n2,n3,n4,n5⟩:=k2;have hseen:∀ s∈L++[a],has s≠0/\s<=n:=fun s hs=>by
  refine⟨?_,h.le s hs⟩;rcases List.mem_append.1 hs with hs | hs
  ·exact h.seen s hs
  ·obtain rfl:=List.mem_singleton.1 hs
   exact ha
 have hrow:∀ s∈L++[a],1<=has s/\has s<=n:=fun s hs=>by
  have:=hseen s hs;have h2:=ho.le s this.2;omega
 have l1:∀ c,1<=c->c<=n->c∉L++[a]->∀ s∈L++[a],least' c<=cst (has s) c-u (has s)-v c:=fun c h1 h2 h3 s hs=>by
  have hcL:c∉L:=fun hc=>h3 (List.mem_append_left _ hc)
  have hk:=k1 c h1 h2 h3;rcases List.mem_append.1 hs with hs | hs
  ·have:=h.least1 c h1 h2 hcL s hs
   rcases hk with hk | hk<;>omega
  ·obtain rfl:=List.mem_singleton.1 hs
   rcases hk with hk | hk<;>omega
 have l2:∀ c,1<=c->c<=n->c∉L++[a]->frm' c∈L++[a]/\least' c=cst (has (frm' c)) c-u (has (frm' c))-v c:=fun c h1 h2 h3=>by
  have hcL:c∉L:=fun hc=>h3 (List.mem_append_left _ hc)
  rcases k1 c h1 h2 h3 with⟨_,e1,e2⟩ | ⟨g1,e1,e2⟩
  ·rw[e1,e2]
   exact⟨by simp,rfl⟩
  ·by_cases hL:L=[]
   ·exfalso
    have:=h.far0 hL c h1 h2;have h4:=hrow a (by simp);have:=hfar (has a) c h4.1 h4.2 h1 h2;omega
   ·have:=h.least2 hL c h1 h2 hcL
    rw[e1,e2];exact⟨List.mem_append_left _ this.1,this.2⟩
 have hst:0<=step:=by
  obtain⟨m1,m2⟩:=l2 next n1 n2 n3;have hr:=hrow _ m1;have:=h.slack (has (frm' next)) next hr.1 hr.2 n1 n2;omega
 have ex:∀ i,(∃ s,s∈L++[a]/\has s=i)\/¬∃ s,s∈L++[a]/\has s=i:=fun i=>Classical.em _
 have uin:∀ s∈L++[a],u' (has s)=u (has s)+step:=fun s hs=>by rw[k3,if_pos ⟨s,hs,rfl⟩]
 have ule:∀ i,u i<=u' i:=fun i=>by
  rw[k3];split<;>omega
 refine⟨⟨?_,?_,?_,fun c hc=>(hseen c hc).1,?_,?_,?_,?_,?_,?_,?_,?_,?_,?_⟩,hst⟩
 ·exact List.nodup_append.2 ⟨h.nodup,by simp,fun x hx y hy e=>by
   obtain rfl:=List.mem_singleton.1 hy;exact n3 (e ▸ hx)⟩
 ·have:=h.first
  rw[List.head?_append,this]
  rfl
 ·intro c hc
  rcases List.mem_append.1 hc with hc | hc
  ·exact h.le c hc
  ·obtain rfl:=List.mem_singleton.1 hc
   exact n2
 ·
  intro A B c e hA;rcases List.eq_nil_or_concat B with rfl | ⟨B',b,rfl⟩
  ·have e':(L++[a])++[next]=A++[c]:=by simpa using e
   obtain⟨e1,e2⟩:=List.append_inj' e' rfl;obtain rfl:next=c:=by simpa using e2
   subst e1;obtain⟨m1,m2⟩:=l2 next n1 n2 n3;refine⟨m1,?_⟩;rw[uin _ m1,k4 next n1 n2,if_neg n3];omega
  ·rw[List.concat_eq_append] at e
   have e':(L++[a])++[next]=(A++c::B')++[b]:=by simpa using e
   obtain⟨e1,_⟩:=List.append_inj' e' rfl;have hc:c∈L++[a]:=by rw[e1];simp
   obtain⟨m1,m2⟩:=h.way A B' c e1 hA;rw[k1' c hc];refine⟨m1,?_⟩;have hfc:frm c∈L++[a]:=by rw[e1];exact List.mem_append_left _ m1
   have c1:1<=c:=by
    rcases Nat.eq_zero_or_pos c with rfl | h1
    ·exfalso
     cases A with
     | nil=>exact hA rfl
     | cons x A =>
      have hf:=h.first;rw[e1] at hf;obtain rfl:x=0:=by simpa using hf
      have hn:=h.nodup;rw[e1] at hn;exact(List.nodup_cons.1 hn).1 (by simp)
    ·exact h1
   rw[uin _ hfc,k4 c c1 (h.le c hc),if_pos hc];omega
 ·
  intro i c h1 h2 h3 h4;have hs:=h.slack i c h1 h2 h3 h4;rw[k3,k4 c h3 h4]
  by_cases hc:c∈L++[a]
  ·rw[if_pos hc]
   split<;>omega
  ·rw[if_neg hc]
   split
   ·rename_i hi
    obtain⟨s,hs1,rfl⟩:=hi;have g1:=l1 c h3 h4 hc s hs1;have g2:=n5 c h3 h4 hc;omega
   ·exact hs
 ·
  intro c h1 h2 h3;have ht:=h.tight c h1 h2 h3;rw[k3,k4 c h1 h2]
  by_cases hc:c∈L++[a]
  ·rw[if_pos ⟨c,hc,rfl⟩,if_pos hc]
   omega
  ·rw[if_neg hc,if_neg]
   ·exact ht
   ·rintro ⟨s,hs1,hs2⟩
    have:=ho.inj s c (hseen s hs1).2 h2 hs2 (hseen s hs1).1;exact hc (this ▸ hs1)
 ·intro c h1 h2 h3
  rw[k4 c h1 h2,if_neg (fun hc=>(hseen c hc).1 h3)];exact h.free c h1 h2 h3
 ·intro c h1 h2
  have:=h.neg c h1 h2;rw[k4 c h1 h2];split<;>omega
 ·intro i
  have:=h.pos i;have:=ule i;omega
 ·intro i hi
  rw[k3,if_neg]
  ·exact h.fresh i hi
  ·rintro ⟨s,hs1,hs2⟩
   have:=ho.le s (hseen s hs1).2;omega
 ·intro e
  simp at e
 ·intro c h1 h2 h3 s hs
  have g1:=l1 c h1 h2 h3 s hs;rw[k5 c h1 h2 h3,uin s hs,k4 c h1 h2,if_neg h3];omega
 ·intro _ c h1 h2 h3
  obtain⟨m1,m2⟩:=l2 c h1 h2 h3;refine⟨m1,?_⟩;rw[k5 c h1 h2 h3,uin _ m1,k4 c h1 h2,if_neg h3];omega
end
end Go.Proofs.YtmojhhlcocjoaaaGreatDoor
namespace Go.Proofs.YtmojhhlcocjoaaaGreatDoor
open Go.RowKit Go.ChangeShapes Go.WideShapes Go.ChangeAt Go.Deep
def LeastT (rows:List (List Int))(n:Nat)(c:Int) : Prop:=(∃ q:List Nat,(0::q).Perm (List.range n)/\Zy rows 0 q=c)/\∀ q:List Nat,(0::q).Perm (List.range n)->c<=Zy rows 0 q
def Zbo (rows:List (List Int))(w:World)(e:Ending)(w':World) : Prop :=
 ∃ A c q,e=.returned (.tuple #[.slice A rows.length c,.int .i64 (Zy rows 0 q),.int .i64 0])/\RdI w' A (Ze (0::q))/\(0::q).Perm (List.range rows.length)/\rows.length<=c/\c<=maxLen/\LeastT rows rows.length (Zy rows 0 q)/\Ext w w'
def XH (f:Nat->Int) : Nat->Nat
 | 0=>0
 | k+1=>if f k<f (XH f k) then k else XH f k
theorem Zas {f:Nat->Int}{n:Nat}(h:1<=n) : ∀ k,k<=n->XH f k<n
 | 0,_=>by simp only[XH];omega
 | k+1,hk=>by
  have:=Zas (f:=f) h k (by omega);unfold XH;split<;>omega
theorem ZcW {f:Nat->Int} : ∀ k j,j<k->f (XH f k)<=f j
 | 0,j,h=>by omega
 | k+1,j,h=>by
  unfold XH
  by_cases e:j=k
  ·subst e
   split<;>omega
  ·have:=ZcW (f:=f) k j (by omega)
   split<;>omega
theorem J1 {ops:Array Oper}{i:Nat}{t:TypeId}{d:Option Tmp}{a:Act}{w:World}{K:Act->World->Prop}{Q:Exit->Act->World->Prop}{x y:Operand}(hi:WX ops i=some (none,.makeSlice 23 x y,t,d))(n:Nat)(L:Int)(hx:a.eval x=.int .i64 L)(hy:a.eval y=.int .i64 L)(hL:L=(n:Int))(hn:n<=2^40)
  (hK:∀ w',(∃ cs,Blk w' w.heap.size 22 cs/\cs.size=n)->Ext w w'->K (a.put d (.slice (some ⟨w.heap.size,0,none⟩) n n)) w'):wpOp Tryz.prog ops Q i K a w:=by
 obtain⟨i0,hi0,hz0,hz1,hz2⟩:=info_parts Qy;subst hL;obtain⟨w',hrun,h2,h3⟩:=run_make_full (P:=Tryz.prog) w w.heap.size 23 22 i0 _ 1 Tryz.underlying23 hi0 hz0 hz1 .i64 .i64 n (by rw[hz2];omega) (by simp only[maxLen];omega) (Nat.le_refl _);refine ZM hi _ (by simp[Zd,execOp,hx,hy,hrun]) (hK w' ?_ ((Ext.rf _).grownNone h3));rcases OwV.cases h2 with⟨e,_⟩ | ⟨g,cur,e,_,hg,_,_,hs,_⟩
 ·cases e
 ·obtain rfl:w.heap.size=g:=by simpa using e
  exact⟨cur,hg,by simpa using hs⟩
theorem ZeZ (i:InstP)(us:List Value)(w:World)(H:RInst w us i)(hc:Zf i=0)(hk:i.kind=3)(h12:i.n<=12) :
  Calls Tryz.prog 43 #[.agg (List.toArray us)] w (Zbo i.cost w):=by
 have sq:=Zo hc (by omega);have rok:=ZF sq;have hln:=sq.len;have n1:=rok.n1;obtain⟨n,hn⟩:∃ n,i.cost.length=n+1:=⟨i.cost.length-1,by omega⟩;have n11:n<=11:=by omega
 have hin:i.n=n+1:=by omega
 obtain⟨N,hN⟩:∃ N,N=2^n:=⟨_,rfl⟩;have num:=Y0 rok;have TK:=fun(W:World) (x:Ext w W)=>Zcb i us W (H.ext x) hc hk h12
 have TO:=fun(P:Option Addr) (c:Nat) (q:List Nat) (W:World) (x:Ext w W) (hP:RdI W P (Ze (0::q))) (hl:(0::q).Perm (List.range i.cost.length))=>ZdF i us P c q W (H.ext x) hc hk hP hl
 have FI:=fun(W:World) (x:Ext w W) (gp tc tb:Nat) (n1:1<=n) (hP:Blk W gp 137 #[.slice (some ⟨tc,0,none⟩) N N,.slice (some ⟨tb,0,none⟩) N N]) (S1:FillS i.cost n N W W w.heap.size tc tb 1) (hc:w.heap.size<=tc) (hb:w.heap.size<=tb) (hcb:tc≠tb)=>ZeY i us w W H x rok n N gp tc tb hin hn n1 n11 hN hP S1 hc hb hcb
 obtain⟨kind,nn,cap,xw,xv,co⟩:=i;obtain⟨A,a,B,b,D,d,rfl,-,-,hC,-⟩:=H;simp only at *;subst hk hin;unfold Zbo;rw[hn] at TK TO FI num ⊢;have B1:Hid (Blk (w.alloc (.cells #[.int .i64 3,.int .i64 (n+1),.int .i64 cap,.slice A xw.length a,.slice B xv.length b,.slice D (n+1) d] 25)) w.heap.size 25 #[.int .i64 3,.int .i64 (n+1),.int .i64 cap,.slice A xw.length a,.slice B xv.length b,.slice D (n+1) d]):=.new rfl;have wn1:IntKind.i64.wrap ((n:Int)+1-1)=(n:Int):=by rw[show (n:Int)+1-1=(n:Int) by omega];exact IntWalk.i64_in _ (by omega)
 have CA:=Hd (fun(W:World) (x:Ext w W) (r c:Nat) (hr:r<n+1) (hc:c<n+1)=>WP rok (hC.ext x fun _ _ h=>h.ext x) (r:=r) (c:=c) (by omega) (by omega));rw[hn] at CA;have N2:N<=2048:=by
  have:2^n<=2^11:=Nat.pow_le_pow_right (by omega) n11;omega
 have SH:IntKind.i64.wrap ((2:Int)^n)=(N:Int):=by rw[hN];exact XG n (by omega)
 replace TK:=Hd TK;replace TO:=Hd TO;replace FI:=Hd FI;replace num:=Hd num;replace hn:=Hd hn;replace hN:=Hd hN;clear hc hC rok sq n1 h12 hln;go_enter Tryz.func43,Tryz.ntmps43;go_wp2_with (fail);refine(TK.out _ (by(repeat (first | assumption | exact Ext.rf _ | apply Ext.drew | apply Ext.drewN | apply Ext.alloc)))).mono ?_;rintro e w1 ⟨rfl,x1⟩;have X1:=Hd (Ext.tr (a:=w) (by(repeat (first | assumption | exact Ext.rf _ | apply Ext.drew | apply Ext.drewN | apply Ext.alloc))) x1);have b1:=Hd (B1.out.ext x1);have t1:=b1.out.c1;clear x1 B1
 by_cases hz:n=0
 ·have q0:((n:Int)==0)=true:=by rw[beq_iff_eq];omega
  have t0:=b1.out.c0;have t2:=b1.out.c2;have t3:=b1.out.c3;have t4:=b1.out.c4;have t5:=b1.out.c5;have PR:Hid ((0::([]:List Nat)).Perm (List.range (n+1))):=Hd (by rw[hz];exact List.Perm.refl _);have TT:Hid (∀ (m:Nat),m=n+1->∀ W:World,Ext w1 W->∀ P,RdI W P (Ze [0])->Calls Tryz.prog 83 #[.agg #[.int .i64 3,.int .i64 (n+1),.int .i64 cap,.slice A xw.length a,.slice B xv.length b,.slice D (n+1) d],.slice P m 1] W fun e w'=>e=.returned (.tuple #[.slice P m 1,.int .i64 (Zy co 0 []),.int .i64 0])/\Ext W w'):=fun m hm W x P hP=>by
   subst hm;exact TO.out P 1 [] W (X1.out.tr x) hP PR.out
  have hD1:Hid (n+1=1):=Hd (by omega);have LT:Hid (LeastT co (n+1) (Zy co 0 [])):=⟨⟨_,PR.out,rfl⟩,fun q hq=>by
   have h:=hq.length_eq;rw[List.length_range,hz] at h;obtain rfl:q=[]:=List.eq_nil_of_length_eq_zero (by simpa using h);exact Int.le_refl _⟩
  replace hz:=Hd hz;go_wp2_with (fail);refine(TT.out 1 hD1.out.symm _ (by(repeat (first | assumption | exact Ext.rf _ | apply Ext.drew | apply Ext.drewN | apply Ext.alloc))) _ (.blk (by(first | exact .new (by simp) | exact .drew (.new (by simp)) | exact .alloc (.new (by simp)) _ | exact .drew (.alloc (.new (by simp)) _) | exact .alloc (.alloc (.new (by simp)) _) _ | exact .drew (.alloc (.alloc (.new (by simp)) _) _) | (repeat (first | assumption | (refine Blk.new ?_;(focus (simp;done))) | apply Blk.drew | apply Blk.drewN | apply Blk.alloc)))) rfl)).mono ?_;rintro e w3 ⟨rfl,x3⟩;have X3:Hid (Ext w w3):=X1.out.tr (Ext.tr (by(repeat (first | assumption | exact Ext.rf _ | apply Ext.drew | apply Ext.drewN | apply Ext.alloc))) x3);have R3:Hid (RdI w3 (some ⟨w1.heap.size,0,none⟩) (Ze [0])):=RdI.ext (.blk (by(first | exact .new (by simp) | exact .drew (.new (by simp)) | exact .alloc (.new (by simp)) _ | exact .drew (.alloc (.new (by simp)) _) | exact .alloc (.alloc (.new (by simp)) _) _ | exact .drew (.alloc (.alloc (.new (by simp)) _) _) | (repeat (first | assumption | (refine Blk.new ?_;(focus (simp;done))) | apply Blk.drew | apply Blk.drewN | apply Blk.alloc)))) rfl) x3;clear x3 t0 t1 t2 t3 t4 t5 TT;go_wp2_with (fail);go_ret3;exact⟨some ⟨w1.heap.size,0,none⟩,1,[],by rw[hD1.out];rfl,R3.out,PR.out,by rw[hD1.out];exact Nat.le_refl _,by simp[maxLen],LT.out,X3.out⟩
 ·have q0:((n:Int)==0)=false:=by rw[beq_eq_false_iff_ne];omega
  have n1:1<=n:=by omega
  go_wp2_with (fail);go_cut [7] (fun v7 wx=>∃ gp tc tb,v7=.pointer (some ⟨gp,0,none⟩)/\Blk wx gp 137 #[.slice (some ⟨tc,0,none⟩) N N,.slice (some ⟨tb,0,none⟩) N N]/\FillS co n N wx wx w.heap.size tc tb 1/\w1.heap.size<=tc/\w1.heap.size<=tb/\tc≠tb/\Ext w1 wx)
  case first =>
   refine wp_region_any (by kernel_rfl) ?_
   change wpAny _ _ _ _ _ _ _ (World.drew _)
   refine Za (i:=0) (op:=Op.move (Operand.tmp 6)) (t:=3) (d:=some 29) (v:=?_) rfl (by decide +kernel) (by decide +kernel) (by decide +kernel) (fun _ _ _ h=>h) ?_ ?_
   case refine_2=>(intro _;unfold Zd;go_simp;try with_reducible rfl)
   try simp only[lay]
   refine Za (i:=1) (op:=Op.binOp BinOp.shl 3 (Operand.const (Value.int IntKind.i64 1)) (Operand.tmp 29) 3) (t:=3) (d:=some 30) (v:=?_) rfl (by decide +kernel) (by decide +kernel) (by decide +kernel) (fun _ _ _ h=>h) ?_ ?_
   case refine_2=>(intro _;unfold Zd;go_simp;try with_reducible rfl)
   try simp only[lay]
   refine Za (i:=3) (op:=Op.move (Operand.tmp 6)) (t:=3) (d:=some 32) (v:=?_) rfl (by decide +kernel) (by decide +kernel) (by decide +kernel) (fun _ _ _ h=>h) ?_ ?_
   case refine_2=>(intro _;unfold Zd;go_simp;try with_reducible rfl)
   try simp only[lay]
   refine Za (i:=4) (op:=Op.binOp BinOp.shl 3 (Operand.const (Value.int IntKind.i64 1)) (Operand.tmp 32) 3) (t:=3) (d:=some 33) (v:=?_) rfl (by decide +kernel) (by decide +kernel) (by decide +kernel) (fun _ _ _ h=>h) ?_ ?_
   case refine_2=>(intro _;unfold Zd;go_simp;try with_reducible rfl)
   try simp only[lay]
   refine Wl (n:=3) (σ:=Nat->Nat) [(2,some 31),(5,some 34)] (fun _ W=>Ext w1 W)
    (fun i v T W=>∃ h,v=.slice (some ⟨h,0,none⟩) N N/\(∃ cs,Blk W h 22 cs/\cs.size=N)/\w1.heap.size<=h/\h<W.heap.size/\T h=i)
    (fun T W T' W'=>Ext W W'/\∀ h,h<W.heap.size->T' h=T h) #[true,true,true,true,true,true,false,false,false] (by decide +kernel) ?_ ?_ ?_ (s0:=fun _=>0) ((Ext.rf _).drew)
   ·rintro j v T W T' W' ⟨h,k1,⟨cs,k2,k2'⟩,k3,k4,k5⟩ ⟨hx,hT⟩
    exact⟨h,k1,⟨cs,k2.ext hx,k2'⟩,k3,by have:=hx.size;omega,by rw[hT h k4];exact k5⟩
   ·intro pq hpm u T W hRW hD K hK
    have MK:∀ (i:Nat) (W':World),(∃ cs,Blk W' W.heap.size 22 cs/\cs.size=N)->Ext W W'->(∃ h,Value.slice (some ⟨W.heap.size,0,none⟩) N N=.slice (some ⟨h,0,none⟩) N N/\(∃ cs,Blk W' h 22 cs/\cs.size=N)/\w1.heap.size<=h/\h<W'.heap.size/\(fun x=>if x=W.heap.size then i else T x) h=i)/\Ext w1 W'/\(Ext W W'/\∀ h,h<W.heap.size->(fun x=>if x=W.heap.size then i else T x) h=T h):=fun i W' a x =>
     ⟨⟨_,rfl,a,hRW.size,(by obtain⟨cs,h,_⟩:=a;exact h.lt),if_pos rfl⟩,hRW.tr x,x,fun h hh=>if_neg (by omega)⟩
    simp only[List.mem_cons,List.not_mem_nil,or_false] at hpm;rcases hpm with rfl | rfl
    ·exact J1 rfl N (N:Int) (by kernel_rfl) (by kernel_rfl) rfl (by omega) fun W' a x=>hK _ _ _ (MK 2 W' a x).1 (MK 2 W' a x).2.1 (MK 2 W' a x).2.2
    ·exact J1 rfl N (N:Int) (by kernel_rfl) (by kernel_rfl) rfl (by omega) fun W' a x=>hK _ _ _ (MK 5 W' a x).1 (MK 5 W' a x).2.1 (MK 5 W' a x).2.2
   ·intro u T W hRW hV
    obtain⟨tc,h2,⟨c2,b2,s2⟩,z2,-,e2⟩:=hV (2,some 31) (by simp);obtain⟨tb,h5,⟨c5,b5,s5⟩,z5,-,e5⟩:=hV (5,some 34) (by simp);have ne:tc≠tb:=by rintro rfl;omega
    simp only[Zk,h2,h5];clear hV h2 h5 e2 e5
    try simp only[lay]
    refine Za (i:=6) (op:=Op.build 137 #[(0,Operand.tmp 31),(1,Operand.tmp 34)]) (t:=137) (d:=some 35) (v:=?_) rfl (by decide +kernel) (by decide +kernel) (by decide +kernel) (fun _ _ _ h=>h) ?_ ?_
    case refine_2=>(intro _;unfold Zd;go_simp;try with_reducible rfl)
    try simp only[lay]
    refine Zi 7 (by decide +kernel) (ZM (op:=.box 137 (.tmp 35)) rfl (.pointer (some ⟨W.heap.size,0,none⟩)) (w':=W.alloc (.cells #[.slice (some ⟨tc,0,none⟩) N N,.slice (some ⟨tb,0,none⟩) N N] 137)) (by unfold Zd;go_simp) ?_)
    try simp only[lay]
    refine Za (i:=8) (op:=Op.assign (Operand.tmp 36)) (t:=135) (d:=some 7) (v:=?_) rfl (by decide +kernel) (by decide +kernel) (by decide +kernel) (fun _ _ _ h=>h) ?_ ?_
    case refine_2=>(intro _;unfold Zd;go_simp;try with_reducible rfl)
    try simp only[lay]
    refine wpAny_done (by kernel_rfl) ?_ _;have xa:Ext W (W.alloc (.cells #[.slice (some ⟨tc,0,none⟩) N N,.slice (some ⟨tb,0,none⟩) N N] 137)):=(Ext.rf _).alloc _;have FS:Hid (FillS co n N (W.alloc (.cells #[.slice (some ⟨tc,0,none⟩) N N,.slice (some ⟨tb,0,none⟩) N N] 137)) (W.alloc (.cells #[.slice (some ⟨tc,0,none⟩) N N,.slice (some ⟨tb,0,none⟩) N N] 137)) w.heap.size tc tb 1) :=
     ⟨Mod.rf _,fun _=>0,fun _=>0,fun _ _=>0,fun _ _=>0,⟨⟨c2,b2.ext xa,s2,fun g h1 h2=>by omega⟩,fun g h1 h2=>by omega⟩,⟨⟨c5,b5.ext xa,s5,fun g h1 h2=>by omega⟩,fun g h1 h2=>by omega⟩,fun g l hg hl hb=>by
      obtain rfl:g=0:=by omega
      simp at hb,fun a b h1 h2=>by omega⟩
    go_simp;go_wp2_with (fail);go_meet;exact⟨W.heap.size,tc,tb,rfl,.new rfl,FS.out,z2,z5,ne,hRW.tr xa⟩
  case rest =>
  obtain⟨gp,tc,tb,rfl,hP,hF,ztc,ztb,ncb,x5⟩:=hcut;obtain⟨w5,rfl⟩:∃ w5:World,w5=wc:=⟨_,rfl⟩;have X5:=Hd (X1.out.tr x5);have b5:=Hd (b1.out.ext x5);have t0:=b5.out.c0;have t1:=b5.out.c1;have t2:=b5.out.c2;have t3:=b5.out.c3;have t4:=b5.out.c4;have t5:=b5.out.c5;have zw1:=X1.out.size;have FC:=Hd (FI.out w5 X5.out gp tc tb n1 hP hF (by omega) (by omega) ncb);have zgi:=b1.out.lt;have gne:¬(gp=tc\/gp=tb):=by
   obtain⟨_,_,_,_,k1,k2,_⟩:=hF.tabs;obtain⟨cs,h3,_⟩:=k1.tab;obtain⟨cs2,h4,_⟩:=k2.tab;rintro (e | e)
   ·exact Blk.ne hP h3 (by decide) e
   ·exact Blk.ne hP h4 (by decide) e
  replace hP:=Hd hP;clear hF x5 b1 FI;go_wp2_with (fail);refine FC.out.mono ?_;rintro e w6 ⟨rfl,F6⟩;obtain⟨r,r2,T,Bk,hT,hB,hW,hR⟩:=F6.tabs;have X6:Ext w w6:=X5.out.mod F6.mod (fun k hk e=>by rcases e with e | e<;>omega);have P6:=Hd (hP.out.mod F6.mod gne);have b6:=Hd (b5.out.mod F6.mod (fun e=>by rcases e with e | e<;>omega));have hN':=hN.out;subst hN';have z6:=X6.size;have z6b:=F6.mod.size;have zz6:w.heap.size<w6.heap.size:=b6.out.lt;obtain⟨G,hG⟩:∃ G,Hid (2^n=G+1):=⟨2^n-1,by
   have h:2^n=2^n-1+1:=by have:=Nat.two_pow_pos n;omega
   exact h⟩
  have G1:1<=G:=by
   have h:=hG.out;have:2^1<=2^n:=Nat.pow_le_pow_right (by omega) n1;omega
  have G2:G<=2047:=by have:=hG.out;omega
  have GB:Hid (∀ c,c<n->G.testBit c=true):=fun c hc=>by
   have h:G=2^n-1:=by rw[hG.out];rfl
   rw[h,UB]
   simpa using hc
  have num':=num.out;have BD:Hid (∀ g l,g<2^n->l<n->g.testBit l=true->0<=T g l/\T g l<=g*2147483647):=fun g l h1 h2 h3=>WayOk.bd (n:=n) (by omega) (Nat.le_refl _) hW num.out g l h1 h2 h3
  have CT:Hid (∀ W,Ext w6 W->∀ g,1<=g->g<2^n->∀ l,l<n->W.cell? ⟨tc,g,none⟩=some (.slice (some ⟨r g,0,none⟩) n n)/\W.cell? ⟨r g,l,none⟩=some (.int .i64 (T g l))):=fun W x g h1 h2 l h3=>⟨(hT.ext x).cell h1 h2,((hT.ext x).num h1 h2 h3).1⟩
  have CB:Hid (∀ W,Ext w6 W->∀ g,1<=g->g<2^n->∀ l,l<n->W.cell? ⟨tb,g,none⟩=some (.slice (some ⟨r2 g,0,none⟩) n n)/\W.cell? ⟨r2 g,l,none⟩=some (.int .i64 ((Bk g l:Nat):Int))):=fun W x g h1 h2 l h3=>⟨(hB.ext x).cell h1 h2,((hB.ext x).num h1 h2 h3).1⟩
  rw[hG.out] at SH P6;replace X6:=Hd X6;replace hW:=Hd hW;clear F6 hT hB hR b5 hP X5 t0 t1 t2 t3 t4 t5 num' FC z6b;have wG:IntKind.i64.wrap (((G+1:Nat):Int)-1)=(G:Int):=by rw[show ((G+1:Nat):Int)-1=(G:Int) by omega];exact IntWalk.i64_in _ (by omega)
  obtain⟨f,hf⟩:∃ f:Nat->Int,Hid (f=fun c=>T G c+Zb co (c+1) 0):=⟨_,rfl⟩;go_wp2_with (fail);go_loopw [44,9] (fun v44 v9 wr=>∃ k:Nat,v44=.int .i64 k/\v9=.int .i64 (XH f k)/\k<=n/\Hid (Ext w6 wr)) (fun v44 _ _=>n-(intOf v44).toNat)
  case atStart=>exact⟨0,rfl,rfl,by omega,Ext.rf _⟩
  case round =>
   obtain⟨wo,rfl⟩:∃ wo:World,wo=wr:=⟨_,rfl⟩;obtain⟨k,rfl,rfl,hk,X⟩:=hrel
   by_cases hkn:k<n
   ·have q1:(k:Int)<(n:Int):=by omega
    have HA:Hid (XH f (k+1)=if f k<f (XH f k) then k else XH f k):=by
     have h:XH f (k+1)=if f k<f (XH f k) then k else XH f k:=rfl
     exact h
    have hak:=Zas (f:=f) n1 k (by omega);generalize XH f k=m at *;have XW:=X6.out.tr X.out;have b9:=b6.out.ext X.out;have P9:=P6.out.ext X.out;have y0:=P9.c0;have y5:=b9.c5;obtain⟨yt,yk⟩:=CT.out wo X.out G G1 (by rw[hG.out];omega) k hkn;obtain⟨-,ym⟩:=CT.out wo X.out G G1 (by rw[hG.out];omega) m hak;obtain⟨cb,cof,rb,ro,d1,rfl,c1,c2⟩:=CA.out wo XW (k+1) 0 (by omega) (by omega);obtain⟨cb',cof',sb,so,d2,hD,c3,c4⟩:=CA.out wo XW (m+1) 0 (by omega) (by omega);obtain⟨rfl,rfl⟩:cb=cb'/\cof=cof':=by simpa using hD
    replace c2:wo.cell? ⟨rb,ro,none⟩=some (.int .i64 (Zb co (k+1) 0)):=c2;replace c4:wo.cell? ⟨sb,so,none⟩=some (.int .i64 (Zb co (m+1) 0)):=c4;have n1':=num.out (k+1) 0 (by omega) (by omega);have n2':=num.out (m+1) 0 (by omega) (by omega);have e1':=BD.out G k (by rw[hG.out];omega) hkn (GB.out k hkn);have e2':=BD.out G m (by rw[hG.out];omega) hak (GB.out m hak);obtain⟨rr,hrr⟩:∃ rr,Hid (r G=rr):=⟨_,rfl⟩;obtain⟨tk,htk⟩:∃ tk,Hid (T G k=tk):=⟨_,rfl⟩;obtain⟨tm,htm⟩:∃ tm,Hid (T G m=tm):=⟨_,rfl⟩;obtain⟨ck,hck⟩:∃ ck,Hid (Zb co (k+1) 0=ck):=⟨_,rfl⟩;obtain⟨cm,hcm⟩:∃ cm,Hid (Zb co (m+1) 0=cm):=⟨_,rfl⟩;obtain⟨k1,hk1⟩:∃ k1,Hid (k+1=k1):=⟨_,rfl⟩;obtain⟨m1,hm1⟩:∃ m1,Hid (m+1=m1):=⟨_,rfl⟩;rw[hrr.out,htk.out] at yk;rw[hrr.out] at yt;rw[hrr.out,htm.out] at ym;rw[hck.out] at c2 n1';rw[hcm.out] at c4 n2';rw[htk.out] at e1';rw[htm.out] at e2';rw[hk1.out] at c1;rw[hm1.out] at c3;have HB:Hid (XH f (k+1)=if tk+ck<tm+cm then k else m):=Hd (by
     rw[HA.out];simp only[hf.out,htk.out,htm.out,hck.out,hcm.out])
    have q2:(k1:Int)<(n:Int)+1:=by have:=hk1.out;omega
    have q3:(m1:Int)<(n:Int)+1:=by have:=hm1.out;omega
    have q4:(m:Int)<(n:Int):=by omega
    have q5:(G:Int)<((G+1:Nat):Int):=by omega
    have wk:IntKind.i64.wrap ((k:Int)+1)=(k1:Int):=by rw[show (k:Int)+1=(k1:Int) by have:=hk1.out;omega];exact IntWalk.i64_in _ (by omega)
    have wm:IntKind.i64.wrap ((m:Int)+1)=(m1:Int):=by rw[show (m:Int)+1=(m1:Int) by have:=hm1.out;omega];exact IntWalk.i64_in _ (by omega)
    have wa:IntKind.i64.wrap (tk+ck)=tk+ck:=IntWalk.i64_in _ (by omega);have wb:IntKind.i64.wrap (tm+cm)=tm+cm:=IntWalk.i64_in _ (by omega);have hl9:Hid (k+1<=n):=by
     have h9:k+1<=n:=hkn;exact h9
    clear HA hD n1' n2' e1' e2' b9 P9 XW
    by_cases hlt:tk+ck<tm+cm
    ·have HC:Hid (XH f (k+1)=k):=by
      have h:=HB.out;rw[if_pos hlt] at h;exact h
     clear HB;go_wp2_with (fail);go_quiet (fail);clear wk wm;go_wp2_with (fail);go_roundw
     case rel=>exact⟨k+1,by go_num,by rw[HC.out],hl9.out,X.out.drewN _⟩
     case measure=>(have h9:=hl9.out;simp[intOf];omega)
    ·have HC:Hid (XH f (k+1)=m):=by
      have h:=HB.out;rw[if_neg hlt] at h;exact h
     clear HB;go_wp2_with (fail);go_quiet (fail);clear wk wm;go_wp2_with (fail);go_roundw
     case rel=>exact⟨k+1,by go_num,by rw[HC.out],hl9.out,X.out.drewN _⟩
     case measure=>(have h9:=hl9.out;simp[intOf];omega)
   ·obtain rfl:k=n:=by omega
    have hl:=Zas (f:=f) n1 k (Nat.le_refl _);have HL:Hid (∀ q:List Nat,(0::q).Perm (List.range (k+1))->T G (XH f k)+Zb co (XH f k+1) 0<=Zy co 0 q):=fun q hq=>by
     obtain⟨l',h1,h2⟩:=ZdN (by omega) hW.out hq n1;rw[hG.out,Nat.add_sub_cancel] at h2;have h3:=ZcW (f:=f) k l' h1;simp only[hf.out] at h3 ⊢;omega
    have TS:Hid (Trail co k T (T G (XH f k)+Zb co (XH f k+1) 0) G (XH f k) []):=by
     have h:=Trail.start (rows:=co) (T:=T) n1 hl;rw[hG.out,Nat.add_sub_cancel] at h;exact h
    generalize XH f k=last at *;obtain⟨C,hC⟩:∃ C,Hid (T G last+Zb co (last+1) 0=C):=⟨_,rfl⟩;rw[hC.out] at HL TS;have q1:¬((k:Int)<(k:Int)):=by omega
    have Xo:=Hd X.out;have OW0:Hid (OwI wo w6.heap.size none 0 (Ze ([]:List Nat).reverse)):=OwI.nil _ _;clear hf CT BD X;go_wp2_with (fail);go_loopw [8,9,11] (fun v8 v9 v11 wr=>∃ (g l:Nat) (ys:List Nat) (A':Option Addr) (c':Nat),v8=.int .i64 g/\v9=.int .i64 l/\v11=.slice A' ys.length c'/\Hid (Trail co k T C g l ys)/\Hid (OwI wr w6.heap.size A' c' (Ze ys.reverse))/\Hid (Ext w6 wr)) (fun v8 _ _ _=>(intOf v8).toNat)
    case atStart=>exact⟨G,last,[],none,0,rfl,rfl,rfl,TS,OW0,Xo⟩
    case round =>
     clear TS OW0 Xo;obtain⟨wp,rfl⟩:∃ wp:World,wp=wr:=⟨_,rfl⟩;obtain⟨g,l,ys,A',c',rfl,rfl,rfl,TR,OW,X⟩:=hrel
     by_cases hg0:g=0
     ·subst hg0
      obtain⟨PR,hCp⟩:=TR.out.end;have hyl:ys.length=k:=by
       have h:=PR.length_eq;rw[List.length_range,List.length_cons] at h;omega
      have LT:Hid (LeastT co (k+1) (Zy co 0 ys)):=⟨⟨ys,PR,rfl⟩,fun q hq=>by rw[<-hCp];exact HL.out q hq⟩;have hrev:(Ze ys.reverse++[(0:Int)]).length=k+1:=by simp[Ze,hyl]
      have eR:Hid ((Ze ys.reverse++[(0:Int)]).reverse=Ze (0::ys)):=Hd (by simp[Ze]);have hlen1:Hid (ys.length=(Ze ys.reverse).length):=Hd (by simp[Ze]);replace PR:=Hd PR;have RV:=Hd (fun(A9:Option Addr) (c9:Nat) (W:World) (o:OwI W w6.heap.size A9 c9 (Ze ys.reverse++[(0:Int)]))=>by
       have h:=Zbn A9 c9 w6.heap.size _ W o (by rw[hrev];omega);rw[hrev] at h;exact h)
      have TO9:=Hd (fun(P:Option Addr) (c:Nat) (W:World) (x:Ext w W) (hP:RdI W P (Ze (0::ys)))=>TO.out P c ys W x hP PR.out);replace hrev:=Hd hrev;clear hCp hC HL TR TO;go_wp2_with (at_builtin;refine Z7 _ rfl _ _ rfl w6.heap.size A' ys.length c' (Ze ys.reverse) [(0:Int)] (some ⟨wp.heap.size,0,none⟩) 1 rfl rfl hlen1.out (OwI.ext OW.out (by(repeat (first | assumption | exact Ext.rf _ | apply Ext.drew | apply Ext.drewN | apply Ext.alloc)))) (.blk (by(first | exact .new (by simp) | exact .drew (.new (by simp)) | exact .alloc (.new (by simp)) _ | exact .drew (.alloc (.new (by simp)) _) | exact .alloc (.alloc (.new (by simp)) _) _ | exact .drew (.alloc (.alloc (.new (by simp)) _) _) | (repeat (first | assumption | (refine Blk.new ?_;(focus (simp;done))) | apply Blk.drew | apply Blk.drewN | apply Blk.alloc)))) rfl) (by rw[<-hlen1.out];simp;omega) (by have:=X.out.size;simp;omega) ?_;rintro A9 c9 w9 o9 g9 -);have e9:(Ze ys.reverse).length+1=k+1:=by rw[<-hlen1.out,hyl]
      rw[e9];have X9:Ext w6 w9:=Ext.grow (X.out.tr (by(repeat (first | assumption | exact Ext.rf _ | apply Ext.drew | apply Ext.drewN | apply Ext.alloc)))) g9 (fun q hq=>(OW.out.lt q hq).1);refine(RV.out A9 c9 w9 o9).mono ?_;rintro e w10 ⟨rfl,o10,M10⟩;rw[eR.out] at o10;have X10:Ext w w10:=(X6.out.tr X9).mod M10 (fun j hj e=>by have:=(o9.lt j e).1;omega);have b10:=(b6.out.ext X9).mod M10 (fun e=>by have:=(o9.lt _ e).1;omega);have t0:=b10.c0;have t1:=b10.c1;have t2:=b10.c2;have t3:=b10.c3;have t4:=b10.c4;have t5:=b10.c5;have TT:=Hd (TO9.out A9 c9 w10 X10 o10.read);have LE:Hid (k+1<=c9/\c9<=maxLen):=Hd (by
       have h:=o10.le;simp only[Zm,List.length_cons,hyl] at h;exact h)
      replace X10:=Hd X10;replace o10:=Hd o10;clear X9 o9 g9 M10 b10 RV TO9 e9;go_wp2_with (fail);refine TT.out.mono ?_;rintro e w11 ⟨rfl,x11⟩;replace x11:=Hd x11;clear t0 t1 t2 t3 t4 t5 TT;go_wp2_with (fail);go_ret3;exact⟨A9,c9,ys,rfl,RdI.ext o10.out.read x11.out,PR.out,LE.out.1,LE.out.2,LT.out,X10.out.tr x11.out⟩
     ·obtain⟨TS,hless⟩:=TR.out.step (by omega) hW.out hg0
      obtain⟨hln,hbit,-⟩:=TR.out.go hg0;have hgl:=TR.out.lt;have hyl:ys.length<=k+1:=Xw TR.out.nod fun y hy=>by have:=(TR.out.mem y).1 hy;omega
      obtain⟨rr,hrr⟩:∃ rr,Hid (r2 g=rr):=⟨_,rfl⟩;obtain⟨bk,hbk⟩:∃ bk,Hid (Bk g l=bk):=⟨_,rfl⟩;obtain⟨g2,hg2⟩:∃ g2,Hid (Zx g l=g2):=⟨_,rfl⟩;obtain⟨p1,hp1⟩:∃ p1,Hid (l+1=p1):=⟨_,rfl⟩;have KB:Hid (∀ W,Ext w6 W->W.cell? ⟨gp,1,none⟩=some (.slice (some ⟨tb,0,none⟩) (G+1) (G+1))/\W.cell? ⟨tb,g,none⟩=some (.slice (some ⟨rr,0,none⟩) k k)/\W.cell? ⟨rr,l,none⟩=some (.int .i64 bk)):=fun W x=>by
       have h:=CB.out W x g (by omega) hgl l hln;rw[hrr.out,hbk.out] at h;exact⟨(P6.out.ext x).cell 1,h.1,h.2⟩
      have CL:bits .andNot .i64 (g:Int) ((2:Int)^l)=(g2:Int):=by
       have h9:=ZcV g l (by omega) (by omega);rw[Int.natCast_pow,hg2.out] at h9;exact h9
      have SHL:=XG l (by omega);rw[hg2.out,hbk.out] at TS;rw[hg2.out] at hless;have q2:(g:Int)<((G+1:Nat):Int):=by have:=hG.out;omega
      have q3:(l:Int)<(k:Int):=by omega
      have q6:((g:Int)==0)=false:=by rw[beq_eq_false_iff_ne];omega
      have wl:IntKind.i64.wrap ((l:Int)+1)=(p1:Int):=by rw[show (l:Int)+1=(p1:Int) by have:=hp1.out;omega];exact IntWalk.i64_in _ (by have:=hp1.out;omega)
      have hlen1:Hid (ys.length=(Ze ys.reverse).length):=Hd (by simp[Ze]);have hlen2:Hid ((Ze ys.reverse++[(p1:Int)]).length=((l+1)::ys).length/\Ze ys.reverse++[(p1:Int)]=Ze ((l+1)::ys).reverse):=Hd (by
       rw[<-hp1.out];simp[Ze])
      replace TS:=Hd TS;clear TR hbit;go_wp2_with (at_builtin;refine Z7 _ rfl _ _ rfl w6.heap.size A' ys.length c' (Ze ys.reverse) [(p1:Int)] (some ⟨wp.heap.size,0,none⟩) 1 rfl rfl hlen1.out (OwI.ext OW.out (by(repeat (first | assumption | exact Ext.rf _ | apply Ext.drew | apply Ext.drewN | apply Ext.alloc)))) (.blk (by(first | exact .new (by simp) | exact .drew (.new (by simp)) | exact .alloc (.new (by simp)) _ | exact .drew (.alloc (.new (by simp)) _) | exact .alloc (.alloc (.new (by simp)) _) _ | exact .drew (.alloc (.alloc (.new (by simp)) _) _) | (repeat (first | assumption | (refine Blk.new ?_;(focus (simp;done))) | apply Blk.drew | apply Blk.drewN | apply Blk.alloc)))) rfl) (by rw[<-hlen1.out];simp;omega) (by have:=X.out.size;simp;omega) ?_;rintro A9 c9 w9 o9 g9 -;have X9:Ext w6 w9:=Ext.grow (X.out.tr (by(repeat (first | assumption | exact Ext.rf _ | apply Ext.drew | apply Ext.drewN | apply Ext.alloc)))) g9 (fun q hq=>(OW.out.lt q hq).1);obtain⟨s1,s2,s3⟩:=KB.out w9 X9);have hs:Hid (ys.length+1=((l+1)::ys).length):=rfl;have O9:Hid (OwI w9 w6.heap.size A9 c9 (Ze ((l+1)::ys).reverse)):=by
       rw[<-hlen2.out.2];exact o9
      have Y9:=Hd X9;have e9:(Ze ys.reverse).length+1=((l+1)::ys).length:=by rw[<-hlen1.out];rfl
      rw[e9];refine⟨⟨g2,bk,(l+1)::ys,A9,c9,rfl,rfl,rfl,TS.out,O9.out,X9⟩,?_⟩;simp[intOf];omega
end Go.Proofs.YtmojhhlcocjoaaaGreatDoor
namespace Go.Proofs.YtmojhhlcocjoaaaGreatDoor
open Go.Shelf
def sortLay_ren : Go.Shelf.Ren:=⟨fun | 6=>136 | 15=>168 | 14=>167 | 28=>189 | 29=>190 | 20=>181 | 21=>182 | 22=>183 | 23=>184 | 24=>185 | 25=>186 | 26=>187 | 27=>188 | 46=>198 | 47=>199 | 48=>200 | 49=>201 | 50=>202 | 57=>220 | n=>n,fun | 22=>144 | 24=>143 | 25=>194 | 3=>3 | 39=>150 | 0=>0 | 53=>196 | 55=>53 | 4=>4 | 46=>235 | 45=>234 | 50=>65 | 5=>5 | 9=>9 | 66=>248 | 70=>252 | 76=>269 | 77=>270 | n=>n,fun n=>n⟩
theorem ZfB : SlLaysF0.n6 Tryz.prog sortLay_ren where
 mixed:=by kernel_rfl
 f6:=⟨ "slices.SortFunc[[]kurgan/exact.load,kurgan/exact.load]",by decide,Tryz.func136.trans (congrArg some (by kernel_rfl))⟩
 f14:=⟨ "slices.pdqsortCmpFunc[kurgan/exact.load]",by decide,Tryz.func167.trans (congrArg some (by kernel_rfl))⟩
 f15:=Tryz.func168.trans (congrArg some (by kernel_rfl))
 f20:=⟨ "slices.insertionSortCmpFunc[kurgan/exact.load]",by decide,Tryz.func181.trans (congrArg some (by kernel_rfl))⟩
 f21:=⟨ "slices.heapSortCmpFunc[kurgan/exact.load]",by decide,Tryz.func182.trans (congrArg some (by kernel_rfl))⟩
 f22:=⟨ "slices.breakPatternsCmpFunc[kurgan/exact.load]",by decide,Tryz.func183.trans (congrArg some (by kernel_rfl))⟩
 f23:=⟨ "slices.choosePivotCmpFunc[kurgan/exact.load]",by decide,Tryz.func184.trans (congrArg some (by kernel_rfl))⟩
 f24:=⟨ "slices.reverseRangeCmpFunc[kurgan/exact.load]",by decide,Tryz.func185.trans (congrArg some (by kernel_rfl))⟩
 f25:=⟨ "slices.partialInsertionSortCmpFunc[kurgan/exact.load]",by decide,Tryz.func186.trans (congrArg some (by kernel_rfl))⟩
 f26:=⟨ "slices.partitionEqualCmpFunc[kurgan/exact.load]",by decide,Tryz.func187.trans (congrArg some (by kernel_rfl))⟩
 f27:=⟨ "slices.partitionCmpFunc[kurgan/exact.load]",by decide,Tryz.func188.trans (congrArg some (by kernel_rfl))⟩
 f28:=Tryz.func189.trans (congrArg some (by kernel_rfl))
 f29:=Tryz.func190.trans (congrArg some (by kernel_rfl))
 f46:=⟨ "slices.siftDownCmpFunc[kurgan/exact.load]",by decide,Tryz.func198.trans (congrArg some (by kernel_rfl))⟩
 f47:=Tryz.func199.trans (congrArg some (by kernel_rfl))
 f48:=Tryz.func200.trans (congrArg some (by kernel_rfl))
 f49:=⟨ "slices.medianAdjacentCmpFunc[kurgan/exact.load]",by decide,Tryz.func201.trans (congrArg some (by kernel_rfl))⟩
 f50:=⟨ "slices.medianCmpFunc[kurgan/exact.load]",by decide,Tryz.func202.trans (congrArg some (by kernel_rfl))⟩
 f57:=⟨ "slices.order2CmpFunc[kurgan/exact.load]",by decide,Tryz.func220.trans (congrArg some (by kernel_rfl))⟩
 t0:=Tryz.underlying0
 a0:=Tryz.isAgg0
 z0:=Tryz.sizeOf0
 v0:=Tryz.zeroValue0
 t3:=Tryz.underlying3
 a3:=Tryz.isAgg3
 z3:=Tryz.sizeOf3
 v3:=Tryz.zeroValue3
 t4:=Tryz.underlying4
 a4:=Tryz.isAgg4
 z4:=Tryz.sizeOf4
 v4:=Tryz.zeroValue4
 t5:=Tryz.underlying5
 a5:=Tryz.isAgg5
 z5:=Tryz.sizeOf5
 v5:=Tryz.zeroValue5
 t9:=Tryz.underlying9
 a9:=Tryz.isAgg9
 z9:=Tryz.sizeOf9
 v9:=Tryz.zeroValue9
 t22:=Tryz.underlying144
 a22:=Tryz.isAgg144
 z22:=Tryz.sizeOf144
 v22:=Tryz.zeroValue144
 t25:=Tryz.underlying194
 a25:=Tryz.isAgg194
 z25:=Tryz.sizeOf194
 v25:=Tryz.zeroValue194
 t39:=Tryz.underlying150
 a39:=Tryz.isAgg150
 z39:=Tryz.sizeOf150
 v39:=Tryz.zeroValue150
 t45:=Tryz.underlying234
 a45:=Tryz.isAgg234
 z45:=Tryz.sizeOf234
 v45:=Tryz.zeroValue234
 t46:=Tryz.underlying235
 a46:=Tryz.isAgg235
 z46:=Tryz.sizeOf235
 v46:=Tryz.zeroValue235
 t50:=Tryz.underlying65
 a50:=Tryz.isAgg65
 z50:=Tryz.sizeOf65
 v50:=Tryz.zeroValue65
 t53:=Tryz.underlying196
 a53:=Tryz.isAgg196
 z53:=Tryz.sizeOf196
 v53:=Tryz.zeroValue196
 t55:=Tryz.underlying53
 a55:=Tryz.isAgg53
 z55:=Tryz.sizeOf53
 v55:=Tryz.zeroValue53
 t66:=Tryz.underlying248
 a66:=Tryz.isAgg248
 z66:=Tryz.sizeOf248
 v66:=Tryz.zeroValue248
 t70:=Tryz.underlying252
 a70:=Tryz.isAgg252
 z70:=Tryz.sizeOf252
 v70:=Tryz.zeroValue252
 t76:=Tryz.underlying269
 a76:=Tryz.isAgg269
 z76:=Tryz.sizeOf269
 v76:=Tryz.zeroValue269
 t77:=Tryz.underlying270
 a77:=Tryz.isAgg270
 z77:=Tryz.sizeOf270
 v77:=Tryz.zeroValue270
open Go.RowKit Go.ChangeShapes Go.WideShapes Go.ChangeAt Go.Deep Go.Shelf Go.Sort
abbrev ldA (d:Ld) : Value:=.agg #[.int .i64 d.1,.int .i64 d.2.1,.int .u64 (d.2.2:Int),.int .u64 0]
def Jg (d:Ld) : Prop:=0<=d.1/\d.1<=1099511627776/\0<=d.2.1/\d.2.1<=1099511627776
abbrev BLd := { d:Ld // Jg d }
instance:Inhabited BLd:=⟨⟨(0,0,0),by simp[Jg]⟩⟩
def UD (x:BLd) : List Value:=[.int .i64 x.1.1,.int .i64 x.1.2.1,.int .u64 (x.1.2.2:Int),.int .u64 0]
def cfL (x y:BLd) : Int:=if x.1.1=y.1.1 then y.1.2.1-x.1.2.1 else x.1.1-y.1.1
theorem Zat (x y:BLd) : ltOf cfL x y=true↔(x.1.1<y.1.1\/(x.1.1=y.1.1/\y.1.2.1<x.1.2.1)):=by
 unfold ltOf;rw[decide_eq_true_iff];unfold cfL
 by_cases h:x.1.1=y.1.1
 ·rw[if_pos h];omega
 ·rw[if_neg h];omega
theorem Qu (x y:BLd) : ltOf cfL x y=false↔¬(x.1.1<y.1.1\/(x.1.1=y.1.1/\y.1.2.1<x.1.2.1)):=by
 rw[<-Zat];simp
theorem ZfC : SWO (ltOf cfL) where
 irrefl:=fun x=>(Qu x x).2 (by omega)
 trans:=fun x y z h1 h2=>(Zat x z).2 (by
  have h1:=(Zat x y).1 h1;have h2:=(Zat y z).1 h2;omega)
 ntrans:=fun x y z h1 h2=>(Qu x z).2 (by
  have h1:=(Qu x y).1 h1;have h2:=(Qu y z).1 h2;omega)
theorem Zbp (x y:BLd)(W:World) : Calls Tryz.prog 137 #[.agg (UD x).toArray,.agg (UD y).toArray] W fun e w'=>e=.returned (.int .i64 (cfL x y))/\∃ q os',w'=grow (W.drewN q) os':=by
 obtain⟨⟨a,b,s⟩,h1⟩:=x;obtain⟨⟨a',b',s'⟩,h2⟩:=y;unfold Jg at h1 h2;simp only at h1 h2;have w1:IntKind.i64.wrap (a-a')=a-a':=IntWalk.i64_in _ (by omega);have w2:IntKind.i64.wrap (b'-b)=b'-b:=IntWalk.i64_in _ (by omega);unfold cfL UD;simp only
 by_cases e:a=a'
 ·have e1:(a != a')=false:=by simp[e]
  rw[if_pos e];clear e h1 h2;go_enter Tryz.func137,Tryz.ntmps137;go_wp2;go_ret;exact⟨rfl,0,_,by rw[alloc_eq_grow,alloc_eq_grow,grow_grow];rfl⟩
 ·have e1:(a != a')=true:=by simp[e]
  rw[if_neg e];clear e h1 h2;go_enter Tryz.func137,Tryz.ntmps137;go_wp2;go_ret;exact⟨rfl,0,_,by rw[alloc_eq_grow,alloc_eq_grow,grow_grow];rfl⟩
theorem Qk (d:Array BLd) : (flatK UD 4 d).toList=Zz (d.toList.map (·.1)):=by
 refine List.ext_getElem? fun t=>?_
 have hs:(flatK UD 4 d).size=d.size*4:=size_flatK _ _ _;have hl:(Zz (d.toList.map (·.1))).length=d.size*4:=by rw[YC];simp
 obtain⟨q,r,hr,rfl⟩:∃ q r,r<4/\t=q*4+r:=⟨t / 4,t%4,by omega,by omega⟩;have q1:(q*4+r) / 4=q:=by omega
 have q2:(q*4+r)%4=r:=by omega
 by_cases hk:q<d.size
 ·have e1:(d.toList.map (·.1))[q]?=some (d[q]'hk).1:=by simp[hk]
  obtain⟨g0,g1,g2,g3⟩:=Xj e1;have e2:(flatK UD 4 d).toList[q*4+r]?=some ((UD (d[q]'hk))[r]!):=by
   have h3:=get_flatK UD 4 d (q*4+r) (by omega);rw[q1,q2,getElem!_pos d q hk] at h3;rw[getElem!_pos _ (q*4+r) (by rw[hs];omega)] at h3;rw[<-h3];simp[hs]
  rw[e2];have hm:r=0\/r=1\/r=2\/r=3:=by omega
  rcases hm with rfl | rfl | rfl | rfl
  ·rw[Nat.add_zero,g0];rfl
  ·rw[g1];rfl
  ·rw[g2];rfl
  ·rw[g3];rfl
 ·rw[List.getElem?_eq_none (by rw[Array.length_toList,hs];omega),List.getElem?_eq_none (by omega)]
theorem Ze0 : ∀ w,(isAgg (sortLay_ren.t 24)).run Tryz.prog w=.ok true w:=Tryz.isAgg143
theorem ZdP : ∀ w,(Go.sizeOf (sortLay_ren.t 24)).run Tryz.prog w=.ok 4 w:=Tryz.sizeOf143
theorem Zci {w:World}{base g n c:Nat}{l:List Ld}(h:OwV w base 143 4 (some ⟨g,0,none⟩) n c (Zz l))(hn:l.length=n)(hl:∀ d∈l,Jg d)(hsz:n<=1000000000) :
  Calls Tryz.prog 136 #[.slice (some ⟨g,0,none⟩) n c,.func (.func 137) #[] #[]] w fun e w'=>e=.returned (.tuple #[])/\(∃ l2:List Ld,l2.Perm l/\OwV w' base 143 4 (some ⟨g,0,none⟩) n c (Zz l2))/\Mod (fun b=>b=g) w w':=by
 obtain⟨d,hd⟩:∃ d:Array BLd,d=(l.attach.map fun x=>(⟨x.1,hl x.1 x.2⟩:BLd)).toArray:=⟨_,rfl⟩;have hdl:d.toList.map (·.1)=l:=by
  rw[hd];simp only[List.map_map];exact List.attach_map_subtype_val l
 have hds:d.size=n:=by rw[<-hn,<-hdl];simp
 rcases h.cases with⟨e,_⟩ | ⟨g',cur,e,hb,hg,hnc,hcm,hs,ht⟩
 ·cases e
 obtain rfl:g=g':=by simpa using e
 have hcur:∀ j,j<n*4->cur[j]?=(Zz l)[j]?:=fun j hj=>by
  have h1:(cur.toList.take (n*4))[j]?=cur.toList[j]?:=List.getElem?_take_of_lt hj;rw[ht] at h1;rw[h1];simp
 have hH:HoldsK UD 4 w g 0 d:=fun j hj=>by
  have hj':j<n*4:=by rw[size_flatK,hds] at hj;exact hj
  refine⟨?_,by simp[World.frozen?,hg]⟩;rw[Nat.zero_add,cell_of_row w g _ cur _ (0,0) hg,hcur j hj',<-hdl,<-Qk];rw[getElem!_pos _ j hj];simp
 have hblk:g<w.heap.size:=(Array.getElem?_eq_some_iff.1 hg).1;have eg:∀ args w,(callFunc 137 args).run Tryz.prog w=.ok (.enter 137 args) w:=enters_of Tryz.func137 (by kernel_rfl) rfl;have hcmp:CmpLays Tryz.prog 137 #[] UD 4 cfL g 0 d.size w:=fun _ _ _ _ x y=>Zbp x y _
 have hcon:=AnyQ.slices_SortFunc ZfB 4 Ze0 ZdP UD (fun _=>rfl) (fun x v hv=>by simp[UD] at hv;rcases hv with rfl | rfl | rfl | rfl<;>rfl) cfL ZfC 137 #[] g 0 c d w eg hcmp hH hblk (by omega);rw[hds] at hcon
 change Calls Tryz.prog 136 _ _ _ at hcon
 refine hcon.mono ?_;rintro e w' ⟨rfl,d',m,os,hp,-,rfl⟩;have hps:d'.size=n:=by rw[hp.1,hds]
 have hperm:(d'.toList.map (·.1)).Perm l:=by
  have h3:=hp.2.2;rw[<-hds] at h3;rw[Array.extract_size] at h3;rw[show d'.extract 0 d.size=d' by rw[<-hp.1];exact Array.extract_size] at h3;have:=h3.map (·.1)
  rwa [hdl] at this
 have hl2:(d'.toList.map (·.1)).length=n:=by rw[hperm.length_eq,hn]
 refine⟨rfl,⟨_,hperm,?_⟩,?_⟩
 ·refine .mk (cur:=putCells id 0 (flatK UD 4 d') cur) hb ?_ hnc hcm (by simp[putCells,hs]) ?_
  ·unfold sortWorldK putRowK putRow mapBlock grow
   simp only[Array.getElem?_append_left (show g<(w.heap.modify g _).size by simpa using hblk)];rw[show (Sort.ahead w m).heap=w.heap from rfl,Array.getElem?_append_left (by simpa using hblk),Array.getElem?_modify,if_pos rfl,hg]
   rfl
  ·rw[<-Qk]
   refine List.ext_getElem? fun j=>?_
   have hsK:(flatK UD 4 d').size=n*4:=by rw[size_flatK,hps]
   by_cases hj:j<n*4
   ·rw[List.getElem?_take_of_lt hj]
    have hjc:j<cur.size:=by rw[hs];omega
    simp only[putCells,Array.getElem?_toList,Array.getElem?_mapIdx];rw[Array.getElem?_eq_getElem hjc];simp only[Option.map_some,Nat.zero_le,true_and,Nat.zero_add,hsK,hj,if_true,Nat.sub_zero,id];rw[getElem!_pos _ j (by omega)];simp[hsK,hj]
   ·rw[List.getElem?_eq_none (by rw[List.length_take];omega),List.getElem?_eq_none (by rw[Array.length_toList,hsK];omega)]
 ·refine⟨rfl,rfl,rfl,?_,fun k hk hne=>?_⟩
  ·simp[sortWorldK,putRowK,putRow,mapBlock,grow,Sort.ahead]
  ·unfold sortWorldK putRowK putRow mapBlock grow
   rw[Array.getElem?_append_left (by simpa [Sort.ahead] using hk),Array.getElem?_modify,if_neg (fun e=>hne e.symm)]
   rfl
theorem Zau : (Tryz.prog.info? 143).map (fun i=>(i.zero,i.size,i.bytes))=some (some (.agg #[.int .i64 0,.int .i64 0,.int .u64 0,.int .u64 0]),4,32):=by kernel_rfl
theorem ZdQ (d m:Ld)(w:World) : Calls Tryz.prog 138 #[ldA d,ldA m] w fun e w'=>e=.returned (.bool (UY d m))/\Ext w w':=by
 obtain⟨a,b,s⟩:=d;obtain⟨a',b',s'⟩:=m;unfold UY;simp only[ldA]
 cases h1:decide (a'<=a)
 ·have h1':¬a'<=a:=of_decide_eq_false h1
  go_enter Tryz.func138,Tryz.ntmps138;go_wp2;go_ret;exact⟨rfl,by(repeat (first | assumption | exact Ext.rf _ | apply Ext.drew | apply Ext.drewN | apply Ext.alloc))⟩
 ·have h1':a'<=a:=of_decide_eq_true h1
  go_enter Tryz.func138,Tryz.ntmps138;go_wp2;go_ret;exact⟨rfl,by(repeat (first | assumption | exact Ext.rf _ | apply Ext.drew | apply Ext.drewN | apply Ext.alloc))⟩
def Zbq (w:World)(L:List Ld)(e:Ending)(w':World) : Prop:=∃ B c,e=.returned (.slice B L.length c)/\OwV w' w.heap.size 143 4 B L.length c (Zz L)/\Ext w w'
theorem ZdR {A:Option Addr}{c n:Nat}{l:List Ld}{w:World}(hA:RdV w 143 A (Zz l))(hn:l.length=n)(hl:∀ d∈l,Jg d/\d.2.2<18446744073709551616)(hsz:n<=1000000)(k:Nat)(hk:k<64)(wt vl room:Int)(hw:0<=wt/\wt<=2147483647)(hv:0<=vl/\vl<=2147483647)(hr:0<=room/\room<=2147483647) :
  Calls Tryz.prog 87 #[.slice A n c,.int .i64 k,.int .i64 wt,.int .i64 vl,.int .i64 room] w (Zbq w (Z9 l k wt vl room)):=by
 have WI:=Hd (fun(m:Nat) (hm:m<18446744073709551616) (W:World)=>Ur m k hm hk W);obtain⟨i0,hi,hz0,hz1,hz2⟩:=info_parts Zau;replace hi:=Hd hi;replace hz0:=Hd hz0;replace hz1:=Hd hz1;replace hz2:=Hd hz2;have W0:Hid (0=(Z9 (l.take 0) k wt vl room).length):=Hd (by simp[Z9]);have O0:Hid (OwV w w.heap.size 143 4 none 0 0 (Zz (Z9 (l.take 0) k wt vl room))):=Hd (by
  simp only[List.take_zero,Z9,List.filter_nil,List.map_nil,Zz];exact OwV.nil _ _ _ _)
 replace hA:=Hd hA;replace hn:=Hd hn;replace hl:=Hd hl;go_enter Tryz.func87,Tryz.ntmps87;go_wp2_with (fail);go_loopw [11,16] (fun v11 v16 wr=>∃ (j m:Nat) (B:Option Addr) (b2:Nat),v11=.slice B m b2/\v16=.int .i64 j/\j<=n/\m<=j/\Hid (m=(Z9 (l.take j) k wt vl room).length)/\Hid (OwV wr w.heap.size 143 4 B m b2 (Zz (Z9 (l.take j) k wt vl room)))/\Hid (Ext w wr)) (fun _ v16 _=>n-(intOf v16).toNat)
 case atStart=>exact⟨0,0,none,0,rfl,rfl,by omega,by omega,W0,O0,Ext.rf _⟩
 case round =>
  clear W0 O0;obtain⟨wo,rfl⟩:∃ wo:World,wo=wr:=⟨_,rfl⟩;obtain⟨j,m,B,b2,rfl,rfl,hj,hmj,hm,hO,X⟩:=hrel
  by_cases hlt:j<n
  ·have hjl:j<l.length:=by rw[hn.out];exact hlt
   obtain⟨d,hd⟩:∃ d,Hid (l[j]?=some d):=⟨l[j],List.getElem?_eq_getElem hjl⟩;have hne:Zz l≠[]:=by
    intro e;have:=YC l;rw[e] at this;simp at this;omega
   obtain⟨b,off,rfl,zb,hcell⟩:=(hA.out.ext X.out).form hne;obtain⟨g0,g1,g2,g3⟩:=Xj hd.out;have c0:=hcell _ _ g0;have c1:=hcell _ _ g1;have c2:=hcell _ _ g2;have c3:=hcell _ _ g3;rw[<-Nat.add_assoc] at c1 c2 c3;have hok:=hl.out d (List.mem_of_getElem? hd.out);have HT:Z9 (l.take (j+1)) k wt vl room=Z9 (l.take j) k wt vl room++(if d.1+wt<=room then [(d.1+wt,d.2.1+vl,d.2.2 ||| 2^k)] else []):=by
    rw[List.take_add_one,hd.out];exact Zcc _ _ _ _ _ _
   obtain⟨dw,dv,dm⟩:=d;unfold Jg at hok;simp only at hok c0 c1 c2 c3 HT;have w1:IntKind.i64.wrap (dw+wt)=dw+wt:=IntWalk.i64_in _ (by omega);have w2:IntKind.i64.wrap (dv+vl)=dv+vl:=IntWalk.i64_in _ (by omega);have q1:(j:Int)<(n:Int):=by omega
   generalize Z9 (l.take j) k wt vl room=L at *;clear hcell hne g0 g1 g2 g3 hjl
   by_cases hfit:dw+wt<=room
   ·rw[if_pos hfit] at HT
    replace HT:=Hd HT;go_upto_region 6 with(fail);have bx:Blk (wo.alloc (.cells #[.int .i64 dw,.int .i64 dv,.int .u64 dm,.int .u64 0] 143)) wo.heap.size 143 #[.int .i64 dw,.int .i64 dv,.int .u64 dm,.int .u64 0]:=.new rfl;have xx:Ext wo (wo.alloc (.cells #[.int .i64 dw,.int .i64 dv,.int .u64 dm,.int .u64 0] 143)):=(Ext.rf _).alloc _;have X2:=Hd (X.out.tr xx);have hO2:=Hd (hO.out.ext xx);have hBx:Hid (∀ q,bl B=some q->q<wo.heap.size):=fun q hq=>(hO.out.lt q hq).2
    generalize wo.alloc (.cells #[.int .i64 dw,.int .i64 dv,.int .u64 dm,.int .u64 0] 143)=wz at *;generalize wo.heap.size=gx at *;clear c0 c1 c2 c3 xx X hO;have e0:=bx.c0;have e1:=bx.c1;have e2:=bx.c2;have e3:=bx.c3;have zx:=bx.lt;have z0:=X2.out.size;have WD:=WI.out dm hok.2;unfold setV at WD;obtain⟨dm2,hdm2⟩:∃ dm2,Hid (dm ||| 2^k=dm2):=⟨_,rfl⟩;rw[hdm2.out] at WD HT;replace WD:=Hd WD;replace bx:=Hd bx;have hO3:=hO2.out;have hi':=hi.out;go_region_held3 (fun w'=>w'.cell? ⟨gx,0,none⟩=some (.int .i64 dw)/\w'.cell? ⟨gx,1,none⟩=some (.int .i64 dv)/\w'.cell? ⟨gx,2,none⟩=some (.int .u64 dm)/\w'.cell? ⟨gx,3,none⟩=some (.int .u64 0)) (go_keep)
     (first
      | (go_at_call 139;refine(WD.out _).mono ?_;rintro e w3 ⟨rfl,x3⟩;have y3:=Ext.tr (a:=wz) (by(repeat (first | assumption | exact Ext.rf _ | apply Ext.drew | apply Ext.drewN | apply Ext.alloc))) x3;have s0:=Zh y3 zx e0;have s1:=Zh y3 zx e1;have s2:=Zh y3 zx e2;have s3:=Zh y3 zx e3)
      | (refine ZbD _ (e:=143) Tryz.underlying144 hi.out hz0.out hz1.out hz2.out (by simp[Value.cells]) (by omega) (by rfl) _ _ (by rfl) w.heap.size B m b2 (Zz L) _ 1 1 [.int .i64 (dw+wt),.int .i64 (dv+vl),.int .u64 dm2,.int .u64 0] (by rfl) (by rfl) ?_ ?_ ?_ ?_ ?_ ?_ ?_ ?_;(refine hO2.out.ext ?_;(repeat (first | assumption | exact Ext.rf _ | apply Ext.drew | apply Ext.drewN | apply Ext.alloc)));(exact(RdV.blk (by(first | exact .new (by simp) | exact .drew (.new (by simp)) | exact .alloc (.new (by simp)) _ | exact .drew (.alloc (.new (by simp)) _) | exact .alloc (.alloc (.new (by simp)) _) _ | exact .drew (.alloc (.alloc (.new (by simp)) _) _) | (repeat (first | assumption | (refine Blk.new ?_;(focus (simp;done))) | apply Blk.drew | apply Blk.drewN | apply Blk.alloc))))).rdC);(simp);(simp[Value.oneCell']);(simp only[maxLen];omega);omega;(have:=y3.size;simp;omega);rintro A9 c9 w9 o9 g9 _;have X9:Ext w w9:=Ext.grow (X2.out.tr (Ext.tr (by(repeat (first | assumption | exact Ext.rf _ | apply Ext.drew | apply Ext.drewN | apply Ext.alloc))) (by(repeat (first | assumption | exact Ext.rf _ | apply Ext.drew | apply Ext.drewN | apply Ext.alloc))))) g9 (fun q hq=>(hO2.out.lt q hq).1);have b9:Blk w9 gx 143 #[.int .i64 dw,.int .i64 dv,.int .u64 dm,.int .u64 0]:=(bx.out.ext (by(repeat (first | assumption | exact Ext.rf _ | apply Ext.drew | apply Ext.drewN | apply Ext.alloc)))).grown g9 (fun e=>by have:=hBx.out _ e;omega);have s0:w9.cell? ⟨gx,0,none⟩=some (.int .i64 dw):=b9.cell 0;have s1:w9.cell? ⟨gx,1,none⟩=some (.int .i64 dv):=b9.cell 1;have s2:w9.cell? ⟨gx,2,none⟩=some (.int .u64 dm):=b9.cell 2;have s3:w9.cell? ⟨gx,3,none⟩=some (.int .u64 0):=b9.cell 3;replace b9:=Hd b9))
    all_goals
     have HL:Hid (m+1=(Z9 (l.take (j+1)) k wt vl room).length):=Hd (by rw[HT.out,List.length_append,<-hm.out];rfl);have O9:Hid (OwV w9 w.heap.size 143 4 A9 (m+1) c9 (Zz (Z9 (l.take (j+1)) k wt vl room))):=Hd (by rw[HT.out,Y1];exact o9);replace X9:=Hd X9;clear s0 s1 s2 s3 b9 o9 e0 e1 e2 e3;go_wp2_with (fail);go_roundw
     case rel=>exact⟨j+1,m+1,A9,c9,rfl,by go_num,by omega,by omega,HL,O9,X9⟩
     case measure=>simp[intOf];omega
   ·rw[if_neg hfit,List.append_nil] at HT
    have HL:Hid (m=(Z9 (l.take (j+1)) k wt vl room).length):=Hd (by rw[HT];exact hm.out);have O9:Hid (OwV (wo.alloc (.cells #[.int .i64 dw,.int .i64 dv,.int .u64 dm,.int .u64 0] 143)) w.heap.size 143 4 B m b2 (Zz (Z9 (l.take (j+1)) k wt vl room))):=by
     have h:OwV wo w.heap.size 143 4 B m b2 (Zz (Z9 (l.take (j+1)) k wt vl room)):=by rw[HT];exact hO.out
     exact h.ext ((Ext.rf _).alloc _)
    have X9:=Hd (X.out.alloc (.cells #[.int .i64 dw,.int .i64 dv,.int .u64 dm,.int .u64 0] 143));clear hO X HT;go_wp2_with (fail);go_roundw
    case rel=>exact⟨j+1,m,B,b2,rfl,by go_num,by omega,by omega,HL,O9,X9⟩
    case measure=>simp[intOf];omega
  ·obtain rfl:n=j:=by omega
   have e:l.take n=l:=List.take_of_length_le (by rw[hn.out];exact Nat.le_refl _);rw[e] at hm hO;go_wp2_with (fail);go_ret;have h2:=hO.out;unfold Zbq;rw[<-hm.out];exact⟨B,b2,rfl,h2,X.out⟩
def Ze1 (g:Nat)(l:List Ld)(w:World)(e:Ending)(w':World) : Prop:=∃ (L l2:List Ld) (B:Option Addr) (c:Nat),l2.Perm l/\L=YO [] l2/\e=.returned (.slice B L.length c)/\OwV w' w.heap.size 143 4 B L.length c (Zz L)/\Mod (fun b=>b=g) w w'
theorem Ze2 {base g n c:Nat}{l:List Ld}{w:World}(h:OwV w base 143 4 (some ⟨g,0,none⟩) n c (Zz l))(hn:l.length=n)(hl:∀ d∈l,Jg d)(hsz:n<=1000000) :
  Calls Tryz.prog 86 #[.slice (some ⟨g,0,none⟩) n c] w (Ze1 g l w):=by
 have SO:=Hd (Zci h hn hl (by omega));have zg:=(h.lt g rfl).2;obtain⟨i0,hi,hz0,hz1,hz2⟩:=info_parts Zau;replace hi:=Hd hi;replace hz0:=Hd hz0;replace hz1:=Hd hz1;replace hz2:=Hd hz2;replace hn:=Hd hn;clear h hl;go_enter Tryz.func86,Tryz.ntmps86;go_wp2_with (fail);refine SO.out.mono ?_;rintro e w1 ⟨rfl,⟨l2,hp,h2⟩,hM⟩;have hl2:Hid (l2.length=n):=by
  have h9:l2.length=n:=by rw[hp.length_eq,hn.out]
  exact h9
 have z1:=hM.size;obtain⟨G,hG⟩:∃ G,Hid (YO [] l2=G):=⟨_,rfl⟩;have HP:=Hd hp;have HM:=Hd hM;have H2:=Hd h2.read;clear SO hp hM h2;go_wp2_with (fail);have K0:Hid (YO [] (l2.drop 0)=G):=by
  have h9:YO [] (l2.drop 0)=G:=by rw[List.drop_zero];exact hG.out
  exact h9
 have O0:Hid (OwV w1 w1.heap.size 143 4 none 0 0 (Zz [])):=OwV.nil _ _ _ _;go_loopw [3,10] (fun v3 v10 wr=>∃ (j m:Nat) (out:List Ld) (B:Option Addr) (b2:Nat),v3=.slice B m b2/\v10=.int .i64 j/\j<=n/\m<=j/\Hid (m=out.length)/\Hid (YO out (l2.drop j)=G)/\Hid (OwV wr w1.heap.size 143 4 B m b2 (Zz out))/\Hid (Ext w1 wr)) (fun _ v10 _=>n-(intOf v10).toNat)
 case atStart=>exact⟨0,0,[],none,0,rfl,rfl,by omega,by omega,rfl,K0,O0,Ext.rf _⟩
 case round =>
  clear K0 O0;obtain⟨wo,rfl⟩:∃ wo:World,wo=wr:=⟨_,rfl⟩;obtain⟨j,m,out,B,b2,rfl,rfl,hj,hmj,hm,hK,hO,X⟩:=hrel
  by_cases hlt:j<n
  ·have hjl:j<l2.length:=by rw[hl2.out];exact hlt
   obtain⟨d,hd⟩:∃ d,Hid (l2[j]?=some d):=⟨l2[j],List.getElem?_eq_getElem hjl⟩;have hne:Zz l2≠[]:=by
    intro e;have:=YC l2;rw[e] at this;simp at this;omega
   obtain⟨b,off,hA,zb,hcell⟩:=(H2.out.ext X.out).form hne;obtain⟨rfl,rfl⟩:g=b/\0=off:=by simpa using hA
   obtain⟨g0,g1,g2,g3⟩:=Xj hd.out;have c0:=hcell _ _ g0;have c1:=hcell _ _ g1;have c2:=hcell _ _ g2;have c3:=hcell _ _ g3;rw[Nat.zero_add] at c0 c1 c2 c3;have HD:l2.drop j=d::l2.drop (j+1):=by
    obtain⟨_,hv⟩:=List.getElem?_eq_some_iff.1 hd.out;rw[List.drop_eq_getElem_cons hjl,hv]
   have KN:YO (match out.getLast? with
    | none=>[d]
    | some q=>if UY d q=true then out else out++[d]) (l2.drop (j+1))=G:=by
    have:=hK.out;rw[HD] at this;exact this
   obtain⟨dw,dv,dm⟩:=d;simp only at c0 c1 c2 c3;have q1:(j:Int)<(n:Int):=by omega
   clear hcell hne g0 g1 g2 g3 hjl HD hA;go_upto_region 6 with(fail);have bx:Blk (wo.alloc (.cells #[.int .i64 dw,.int .i64 dv,.int .u64 dm,.int .u64 0] 143)) wo.heap.size 143 #[.int .i64 dw,.int .i64 dv,.int .u64 dm,.int .u64 0]:=.new rfl;have xx:Ext wo (wo.alloc (.cells #[.int .i64 dw,.int .i64 dv,.int .u64 dm,.int .u64 0] 143)):=(Ext.rf _).alloc _;have X2:=Hd (X.out.tr xx);have hO2:=Hd (hO.out.ext xx);generalize wo.alloc (.cells #[.int .i64 dw,.int .i64 dv,.int .u64 dm,.int .u64 0] 143)=wz at *;generalize wo.heap.size=gx at *;clear c0 c1 c2 c3 xx X hO hK;have e0:=bx.c0;have e1:=bx.c1;have e2:=bx.c2;have e3:=bx.c3;have zx:=bx.lt;have z0:=X2.out.size;replace bx:=Hd bx;have z1':w.heap.size<=w1.heap.size:=z1
   by_cases hm0:m=0
   ·subst hm0
    have ho:out=[]:=List.eq_nil_of_length_eq_zero hm.out.symm;subst ho;have KN2:Hid (YO ([]++[(dw,dv,dm)]) (l2.drop (j+1))=G):=KN;clear KN;refine wp_region_any (by kernel_rfl) ?_
    change wpAny _ _ _ _ _ _ _ (World.drew _)
    refine Za (i:=0) (op:=Op.move (Operand.tmp 3)) (t:=144) (d:=some 14) (v:=?_) rfl (by decide +kernel) (by decide +kernel) (by decide +kernel) (fun _ _ _ h=>h) ?_ ?_
    case refine_2=>(intro _;unfold Zd;go_simp;try with_reducible rfl)
    try simp only[lay]
    refine Za (i:=1) (op:=Op.call { callee:=Callee.builtin Builtin.len,args:=#[Operand.tmp 14],argTypes:=#[144] }) (t:=3) (d:=some 15) (v:=?_) rfl (by decide +kernel) (by decide +kernel) (by decide +kernel) (fun _ _ _ h=>h) ?_ ?_
    case refine_2=>(intro _;unfold Zd;go_simp;try with_reducible rfl)
    try simp only[lay]
    refine Za (i:=2) (op:=Op.binOp BinOp.eql 3 (Operand.tmp 15) (Operand.const (Value.int IntKind.i64 0)) 3) (t:=4) (d:=some 16) (v:=?_) rfl (by decide +kernel) (by decide +kernel) (by decide +kernel) (fun _ _ _ h=>h) ?_ ?_
    case refine_2=>(intro _;unfold Zd;go_simp;try with_reducible rfl)
    try simp only[lay]
    refine Za (i:=3) (op:=Op.move (Operand.tmp 16)) (t:=4) (d:=some 17) (v:=?_) rfl (by decide +kernel) (by decide +kernel) (by decide +kernel) (fun _ _ _ h=>h) ?_ ?_
    case refine_2=>(intro _;unfold Zd;go_simp;try with_reducible rfl)
    try simp only[lay]
    refine XC (i:=4) (op:=Op.load 143 (Operand.tmp 5)) (t:=143) (d:=some 18) (b:=true) (g:=(3,false)) rfl (by decide +kernel) (by decide +kernel) (by decide +kernel) (fun _ _ _ h=>h) (by kernel_rfl) rfl ?_
    try simp only[lay]
    refine XC (i:=5) (op:=Op.move (Operand.tmp 3)) (t:=144) (d:=some 19) (b:=true) (g:=(3,false)) rfl (by decide +kernel) (by decide +kernel) (by decide +kernel) (fun _ _ _ h=>h) (by kernel_rfl) rfl ?_
    try simp only[lay]
    refine XC (i:=6) (op:=Op.move (Operand.tmp 3)) (t:=144) (d:=some 20) (b:=true) (g:=(3,false)) rfl (by decide +kernel) (by decide +kernel) (by decide +kernel) (fun _ _ _ h=>h) (by kernel_rfl) rfl ?_
    try simp only[lay]
    refine XC (i:=7) (op:=Op.call { callee:=Callee.builtin Builtin.len,args:=#[Operand.tmp 20],argTypes:=#[144] }) (t:=3) (d:=some 21) (b:=true) (g:=(3,false)) rfl (by decide +kernel) (by decide +kernel) (by decide +kernel) (fun _ _ _ h=>h) (by kernel_rfl) rfl ?_
    try simp only[lay]
    refine XC (i:=8) (op:=Op.binOp BinOp.sub 3 (Operand.tmp 21) (Operand.const (Value.int IntKind.i64 1)) 3) (t:=3) (d:=some 22) (b:=true) (g:=(3,false)) rfl (by decide +kernel) (by decide +kernel) (by decide +kernel) (fun _ _ _ h=>h) (by kernel_rfl) rfl ?_
    try simp only[lay]
    refine XC (i:=9) (op:=Op.indexAddr 144 (Operand.tmp 19) (Operand.tmp 22)) (t:=0) (d:=some 23) (b:=true) (g:=(3,false)) rfl (by decide +kernel) (by decide +kernel) (by decide +kernel) (fun _ _ _ h=>h) (by kernel_rfl) rfl ?_
    try simp only[lay]
    refine XC (i:=10) (op:=Op.load 143 (Operand.tmp 23)) (t:=143) (d:=some 24) (b:=true) (g:=(3,false)) rfl (by decide +kernel) (by decide +kernel) (by decide +kernel) (fun _ _ _ h=>h) (by kernel_rfl) rfl ?_
    try simp only[lay]
    refine XC (i:=11) (op:=Op.call { callee:=Callee.value (Operand.func 138),args:=#[Operand.tmp 18,Operand.tmp 24],argTypes:=#[143,143] }) (t:=4) (d:=some 25) (b:=true) (g:=(3,false)) rfl (by decide +kernel) (by decide +kernel) (by decide +kernel) (fun _ _ _ h=>h) (by kernel_rfl) rfl ?_
    try simp only[lay]
    refine XC (i:=12) (op:=Op.unOp UnOp.not 4 (Operand.tmp 25)) (t:=4) (d:=some 26) (b:=true) (g:=(3,false)) rfl (by decide +kernel) (by decide +kernel) (by decide +kernel) (fun _ _ _ h=>h) (by kernel_rfl) rfl ?_
    try simp only[lay]
    refine Za (i:=13) (op:=Op.pick (Operand.tmp 17) (Operand.const (Value.bool true)) (Operand.tmp 26)) (t:=4) (d:=some 27) (v:=?_) rfl (by decide +kernel) (by decide +kernel) (by decide +kernel) (fun _ _ _ h=>h) ?_ ?_
    case refine_2=>(intro _;unfold Zd;go_simp;try with_reducible rfl)
    try simp only[lay]
    refine wpAny_done (by kernel_rfl) ?_ _;go_simp;have yz:Ext wz wz.drew:=(Ext.rf _).drew;have HO3:=Hd (hO2.out.ext yz);have XY:=Hd (X2.out.tr yz);have HBy:=Hd (Nat.le_trans z0 yz.size);go_wp2_with (at_builtin;refine Vt _ (e:=143) Tryz.underlying144 hi.out hz0.out hz1.out hz2.out (by simp[Value.cells]) (by omega) rfl _ _ rfl w1.heap.size B 0 b2 (Zz []) _ 1 1 [.int .i64 dw,.int .i64 dv,.int .u64 dm,.int .u64 0] rfl rfl (HO3.out.ext ((Ext.rf _).alloc _)) (RdV.blk (.new rfl)).rdC (by simp) (by simp[Value.oneCell']) (by simp only[maxLen];omega) (by omega) (by have:=HBy.out;simp;omega) ?_;rintro A9 c9 w9 o9 g9 _;replace o9:=Hd o9;replace g9:=Hd g9);have X9:Hid (Ext w1 w9):=Ext.grow (XY.out.alloc _) g9.out (fun q hq=>(hO2.out.lt q hq).1);have HL:Hid (0+1=(([]:List Ld)++[(dw,dv,dm)]).length):=by
     have h9:0+1=(([]:List Ld)++[(dw,dv,dm)]).length:=by rw[List.length_append,<-hm.out];rfl
     exact h9
    have O9:Hid (OwV w9 w1.heap.size 143 4 A9 (0+1) c9 (Zz (([]:List Ld)++[(dw,dv,dm)]))):=by
     have h9:OwV w9 w1.heap.size 143 4 A9 (0+1) c9 (Zz (([]:List Ld)++[(dw,dv,dm)])):=by rw[Y1];exact o9.out
     exact h9
    clear o9 g9 HO3 XY;go_wp2_with (fail);go_roundw
    case rel=>exact⟨j+1,0+1,_,A9,c9,rfl,by go_num,by omega,by omega,HL,KN2,O9,X9⟩
    case measure=>simp[intOf];omega
   ·obtain⟨p,hp⟩:∃ p,Hid (m=p+1):=⟨m-1,(by omega:m=m-1+1)⟩
    have hpl:p<out.length:=by rw[<-hm.out,hp.out];omega
    obtain⟨md,hmd⟩:∃ md,Hid (out[p]?=some md):=⟨out[p],List.getElem?_eq_getElem hpl⟩;have hlast:out.getLast?=some md:=by
     rw[List.getLast?_eq_getElem?,<-hm.out,hp.out];exact hmd.out
    rw[hlast] at KN;simp only at KN;have hne:Zz out≠[]:=by
     intro e;have:=YC out;rw[e] at this;simp at this;omega
    obtain⟨gb,ob,hA,zb,hcell⟩:=hO2.out.read.form hne;have hob:ob=0:=by
     rcases hO2.out.cases with⟨h1,_⟩ | ⟨g',cur,h1,_⟩
     ·rw[hA] at h1;cases h1
     ·rw[hA] at h1
      have h2:gb=g'/\ob=0:=by simpa using h1
      exact h2.2
    subst hob hA;obtain⟨g0,g1,g2,g3⟩:=Xj hmd.out;have a0:=hcell _ _ g0;have a1:=hcell _ _ g1;have a2:=hcell _ _ g2;have a3:=hcell _ _ g3;rw[Nat.zero_add] at a0 a1 a2 a3;obtain⟨ew,ev,em⟩:=md;simp only at a0 a1 a2 a3;have WO:=fun(W:World)=>ZdQ (dw,dv,dm) (ew,ev,em) W
    simp only[ldA] at WO;obtain⟨wb,hwb⟩:∃ wb,Hid (UY (dw,dv,dm) (ew,ev,em)=wb):=⟨_,rfl⟩;rw[hwb.out] at WO KN;replace WO:=Hd WO;have wp:IntKind.i64.wrap ((m:Int)-1)=(p:Int):=by
     have:=hp.out;rw[show (m:Int)-1=(p:Int) by omega];exact IntWalk.i64_in _ (by omega)
    have qm:((m:Int)==0)=false:=by simp;omega
    have qp:(p:Int)<(m:Int):=by have:=hp.out;omega
    clear hcell hne g0 g1 g2 g3 hlast hpl;go_region_held3 (fun w'=>w'.cell? ⟨gx,0,none⟩=some (.int .i64 dw)/\w'.cell? ⟨gx,1,none⟩=some (.int .i64 dv)/\w'.cell? ⟨gx,2,none⟩=some (.int .u64 dm)/\w'.cell? ⟨gx,3,none⟩=some (.int .u64 0)/\w'.cell? ⟨gb,p*4,none⟩=some (.int .i64 ew)/\w'.cell? ⟨gb,p*4+1,none⟩=some (.int .i64 ev)/\w'.cell? ⟨gb,p*4+2,none⟩=some (.int .u64 em)/\w'.cell? ⟨gb,p*4+3,none⟩=some (.int .u64 0)) (go_keep)
     (first
      | (go_at_call 138;refine(WO.out _).mono ?_;rintro e w3 ⟨rfl,x3⟩;have y3:=Ext.tr (a:=wz) (by(repeat (first | assumption | exact Ext.rf _ | apply Ext.drew | apply Ext.drewN | apply Ext.alloc))) x3;have s0:=Zh y3 zx e0;have s1:=Zh y3 zx e1;have s2:=Zh y3 zx e2;have s3:=Zh y3 zx e3;have s4:=Zh y3 zb a0;have s5:=Zh y3 zb a1;have s6:=Zh y3 zb a2;have s7:=Zh y3 zb a3))
    all_goals
     cases wb with
     | true =>
      have KN2:Hid (YO out (l2.drop (j+1))=G):=KN;have O9:=Hd (hO2.out.ext y3);have X9:=Hd (X2.out.tr y3);clear KN s0 s1 s2 s3 s4 s5 s6 s7 e0 e1 e2 e3 a0 a1 a2 a3;go_wp2_with (fail);go_roundw
      case rel=>exact⟨j+1,m,out,_,b2,rfl,by go_num,by omega,by omega,hm,KN2,O9,X9⟩
      case measure=>simp[intOf];omega
     | false =>
      have KN2:Hid (YO (out++[(dw,dv,dm)]) (l2.drop (j+1))=G):=KN;clear KN s4 s5 s6 s7 e0 e1 e2 e3 a0 a1 a2 a3;have yz:Ext wz w3:=y3;have HO3:=Hd (hO2.out.ext yz);have XY:=Hd (X2.out.tr yz);have HBy:=Hd (Nat.le_trans z0 yz.size);go_wp2_with (at_builtin;refine Vt _ (e:=143) Tryz.underlying144 hi.out hz0.out hz1.out hz2.out (by simp[Value.cells]) (by omega) rfl _ _ rfl w1.heap.size (some ⟨gb,0,none⟩) m b2 (Zz out) _ 1 1 [.int .i64 dw,.int .i64 dv,.int .u64 dm,.int .u64 0] rfl rfl (HO3.out.ext ((Ext.rf _).alloc _)) (RdV.blk (.new rfl)).rdC (by simp) (by simp[Value.oneCell']) (by simp only[maxLen];omega) (by omega) (by have:=HBy.out;simp;omega) ?_;rintro A9 c9 w9 o9 g9 _;replace o9:=Hd o9;replace g9:=Hd g9);have X9:Hid (Ext w1 w9):=Ext.grow (XY.out.alloc _) g9.out (fun q hq=>(hO2.out.lt q hq).1);have HL:Hid (m+1=(out++[(dw,dv,dm)]).length):=by
       have h9:m+1=(out++[(dw,dv,dm)]).length:=by rw[List.length_append,<-hm.out];rfl
       exact h9
      have O9:Hid (OwV w9 w1.heap.size 143 4 A9 (m+1) c9 (Zz (out++[(dw,dv,dm)]))):=by
       have h9:OwV w9 w1.heap.size 143 4 A9 (m+1) c9 (Zz (out++[(dw,dv,dm)])):=by rw[Y1];exact o9.out
       exact h9
      clear o9 g9 HO3 XY;go_wp2_with (fail);go_roundw
      case rel=>exact⟨j+1,m+1,_,A9,c9,rfl,by go_num,by omega,by omega,HL,KN2,O9,X9⟩
      case measure=>simp[intOf];omega
  ·obtain rfl:n=j:=by omega
   have e:l2.drop n=[]:=List.drop_of_length_le (by rw[hl2.out];exact Nat.le_refl _);rw[e] at hK;have hoG:out=G:=hK.out;have hGL:Hid (m=G.length/\OwV wo w1.heap.size 143 4 B m b2 (Zz G)):=by
    rw[<-hoG];exact⟨hm.out,hO.out⟩
   clear hoG hK hm hO e;go_wp2_with (fail);go_ret;have h2:=hGL.out.2;rw[hGL.out.1] at h2;exact⟨G,l2,B,b2,HP.out,hG.out.symm,by rw[hGL.out.1];rfl,h2.more HM.out.size,HM.out.ext X.out⟩
end Go.Proofs.YtmojhhlcocjoaaaGreatDoor
