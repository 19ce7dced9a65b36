/- packed and squeezed by programs (see wip/) -/
import Derived.Test.YtmojhhlcocjoaaaGreatDoorShowLinesP4
set_option maxRecDepth 100000
set_option maxHeartbeats 16000000
set_option linter.unusedVariables false
set_option linter.unusedSimpArgs false
namespace Go.Proofs.YtmojhhlcocjoaaaGreatDoor
open Go.RowKit Go.ChangeShapes Go.WideShapes Go.ChangeAt Go.Deep Go.Shelf
attribute [local go_sem] Oper.semAt_some
def HeldS (w0:World)(S:Nat->Prop)(w:World) : Prop:=w0.heap.size<=w.heap.size/\∀ b,b<w0.heap.size->¬S b->w.heap[b]?=w0.heap[b]?
theorem HeldS.blk {w0 w:World}{S:Nat->Prop}{g:Nat}{t:TypeId}{cs:Array Value}(h:HeldS w0 S w)(hb:Blk w0 g t cs)(hne:¬S g) : Blk w g t cs:=(h.2 g hb.lt hne).trans hb
theorem HeldS.set {w0 w:World}{S:Nat->Prop}(h:HeldS w0 S w){sb:Nat}(hs:S sb)(i:Nat)(u:Value) : HeldS w0 S (w.setCell ⟨sb,i,none⟩ u):=⟨by simp;exact h.1,fun b h1 h2=>(Below.heap_setCell w ⟨sb,i,none⟩ u b (fun e=>h2 (by rw[e];exact hs))).trans (h.2 b h1 h2)⟩
theorem HeldS.ext {w0 w w':World}{S:Nat->Prop}(h:HeldS w0 S w)(x:Ext w w') : HeldS w0 S w':=⟨Nat.le_trans h.1 x.size,fun b h1 h2=>(x.block b (Nat.lt_of_lt_of_le h1 h.1)).trans (h.2 b h1 h2)⟩
theorem Qx {β:Type}{w0:World}{B:Nat}{S:Nat->Prop}(hB:w0.heap.size<=B) : OwnFrom B (fun(_:β) W=>HeldS w0 S W):=fun _ W W' row hs hg hr =>
 ⟨Nat.le_trans hs.1 hg.size,fun b h1 h2=>(hg.block b (Nat.lt_of_lt_of_le h1 hs.1) (fun e=>by have:=(hr b e.symm).1;omega)).trans (hs.2 b h1 h2)⟩
def EndG (w W0 W:World)(a b c:Int)(V:World) : Prop:=KeepsFrom W0.heap.size W V/\SetKp w.heap.size (w.heap.size+1+1+1+1+1) W V/\(Blk V (w.heap.size+1+1) 3 #[.int .i64 a]/\Blk V (w.heap.size+1+1+1) 3 #[.int .i64 b]/\Blk V (w.heap.size+1+1+1+1) 3 #[.int .i64 c])/\HeldS W0 (fun b=>b=w.heap.size+1+1\/b=w.heap.size+1+1+1\/b=w.heap.size+1+1+1+1) V/\Below w.heap.size w V
theorem EndG.ext {w W0 W V V':World}{a b c:Int}(h:EndG w W0 W a b c V)(hz:w.heap.size+1+1+1+1+1<V.heap.size)(x:Ext V V') : EndG w W0 W a b c V':=by
 obtain⟨h1,h2,⟨h3,h4,h5⟩,h6,h7⟩:=h;exact⟨h1.trans (KeepsFrom.of_ext x),h2.tr ⟨x.mono (by omega),x.block _ hz⟩,⟨h3.ext x,h4.ext x,h5.ext x⟩,h6.ext x,h7.trans (x.mono (by omega))⟩
theorem EndG.set2 {w W0 W V:World}{a b c:Int}(h:EndG w W0 W a b c V)(u:Int) : EndG w W0 W u b c (V.setCell ⟨w.heap.size+1+1,0,none⟩ (.int .i64 u)):=by
 obtain⟨h1,h2,⟨h3,h4,h5⟩,h6,h7⟩:=h;exact⟨h1.trans ((KeepsOthers.setCell _ _ _).from _),h2.tr ⟨(Below.refl _ _).setCell (by simp<;>omega) _,Below.heap_setCell V ⟨w.heap.size+1+1,0,none⟩ _ _ (by simp<;>omega)⟩,⟨h3.set 0 _,h4.far (by simp<;>omega) _,h5.far (by simp<;>omega) _⟩,h6.set (.inl rfl) 0 _,h7.setCell (by simp<;>omega) _⟩
theorem EndG.set3 {w W0 W V:World}{a b c:Int}(h:EndG w W0 W a b c V)(u:Int) : EndG w W0 W a u c (V.setCell ⟨w.heap.size+1+1+1,0,none⟩ (.int .i64 u)):=by
 obtain⟨h1,h2,⟨h3,h4,h5⟩,h6,h7⟩:=h;exact⟨h1.trans ((KeepsOthers.setCell _ _ _).from _),h2.tr ⟨(Below.refl _ _).setCell (by simp<;>omega) _,Below.heap_setCell V ⟨w.heap.size+1+1+1,0,none⟩ _ _ (by simp<;>omega)⟩,⟨h3.far (by simp<;>omega) _,h4.set 0 _,h5.far (by simp<;>omega) _⟩,h6.set (.inr (.inl rfl)) 0 _,h7.setCell (by simp<;>omega) _⟩
theorem EndG.set4 {w W0 W V:World}{a b c:Int}(h:EndG w W0 W a b c V)(u:Int) : EndG w W0 W a b u (V.setCell ⟨w.heap.size+1+1+1+1,0,none⟩ (.int .i64 u)):=by
 obtain⟨h1,h2,⟨h3,h4,h5⟩,h6,h7⟩:=h;exact⟨h1.trans ((KeepsOthers.setCell _ _ _).from _),h2.tr ⟨(Below.refl _ _).setCell (by simp<;>omega) _,Below.heap_setCell V ⟨w.heap.size+1+1+1+1,0,none⟩ _ _ (by simp<;>omega)⟩,⟨h3.far (by simp<;>omega) _,h4.far (by simp<;>omega) _,h5.set 0 _⟩,h6.set (.inr (.inr rfl)) 0 _,h7.setCell (by simp<;>omega) _⟩
theorem Zdk {B n:Int}{p:Int×Int}(h1:0<=p.1/\p.1<=B)(h2:0<=p.2/\p.2<=B)(hn:0<=n/\n<=B) : (0<=(YC p n).1/\(YC p n).1<=B)/\0<=(YC p n).2/\(YC p n).2<=B:=by
 unfold YC;split
 ·exact⟨hn,h1⟩
 ·split
  ·exact⟨h1,hn⟩
  ·exact⟨h1,h2⟩
theorem XU {B:Int}{f:Nat->Int} : ∀ (l:List Nat) (p:Int×Int),(0<=p.1/\p.1<=B)->(0<=p.2/\p.2<=B)->(∀ v∈l,0<=f v/\f v<=B)->(0<=(l.foldl (fun p v=>YC p (f v)) p).1/\(l.foldl (fun p v=>YC p (f v)) p).1<=B)/\0<=(l.foldl (fun p v=>YC p (f v)) p).2/\(l.foldl (fun p v=>YC p (f v)) p).2<=B
 | [],_,h1,h2,_=>⟨h1,h2⟩
 | v::l,p,h1,h2,h=>by
  have h3:=Zdk h1 h2 (h v (by simp));exact XU l _ h3.1 h3.2 fun x hx=>h x (by simp[hx])
theorem ZcC {base g:Nat}{rows:List (List Int)}{mi:Bool}(m last:Nat)(cost:Int)(ok:RowsOk rows)(hS:SubN rows.length m)(hla:last<rows.length)(w:World)(hT:Tab w)(H:KernT w base g rows mi) :
  CallsIn Fence.wide 6 Tryz.prog 281 #[.pointer (some ⟨g,0,none⟩),Uz m last cost] w fun e W'=>e=.returned (.int .i64 (Xg rows (Zb m) last))/\Ext w W':=by
 obtain⟨C,cc,us,hB,_,hV,hR⟩:=H;have l1:=ok.n1;have l2:=ok.n2;have lus:Hid (us.length=rows.length):=hR.1;have zg:=hB.lt;have hg:=Vs hT;have h63:∀ x∈Zb m,x<63:=fun x hx=>by have:=hS.2 x hx;omega
 have hmr:Hid (∀ x∈Zb m,x<rows.length):=hS.2;have hm1:=hS.1;have hcost:Hid (∀ a b,a<rows.length->b<rows.length->0<=Za rows a b/\Za rows a b<=2147483647):=fun a b ha hb=>by
  have e1:rows[a]?=some rows[a]:=List.getElem?_eq_getElem ha;have e2:=ok.row _ (List.getElem_mem ha);have e3:(rows[a])[b]?=some (rows[a])[b]:=List.getElem?_eq_getElem (by omega);unfold Za;rw[getD_some e1,getD_some e3];exact ok.num _ (List.getElem_mem ha) _ (List.getElem_mem _)
 replace hB:=Hd hB;replace hV:=Hd hV;replace hR:=Hd hR;obtain⟨ab,ao,vl,rfl,zvl,cvl,evl⟩:=(hV.out.read).at (j:=last) (by rw[lus.out];exact hla);refine callsIn_of_wp_marks Tryz.func281 rfl trivial ?_ rfl;simp only[Tryz.ntmps281,List.size_toArray,List.length_cons,List.length_nil,Nat.reduceAdd,Nat.reduceSub,Array.replicate_succ,Array.replicate_zero,List.push_toArray,List.append_toArray,List.nil_append,List.cons_append]
 gi_wp2
 refine⟨trivial,?_⟩;refine(callsIn_wide.2 (Wh m _)).mono ?_;rintro e w' ⟨rfl,rfl⟩
 gi_wp2
 have bK0:Hid (Blk ((((((w.alloc (.cells #[.pointer (some ⟨g,0,none⟩)] 79)).alloc (.cells #[.int .u64 m,.int .u64 0,.int .i64 last,.int .i64 cost] 308)).alloc (.cells #[.int .i64 0] 3)).alloc (.cells #[.int .i64 (-1)] 3)).alloc (.cells #[.int .i64 (-1)] 3)).alloc (.cells #[.int .u64 m,.int .u64 0] 141)) (w.heap.size) 79 #[.pointer (some ⟨g,0,none⟩)]):=.alloc (.alloc (.alloc (.alloc (.alloc (.new (by simp)) _) _) _) _) _;have bW0:Hid (Blk ((((((w.alloc (.cells #[.pointer (some ⟨g,0,none⟩)] 79)).alloc (.cells #[.int .u64 m,.int .u64 0,.int .i64 last,.int .i64 cost] 308)).alloc (.cells #[.int .i64 0] 3)).alloc (.cells #[.int .i64 (-1)] 3)).alloc (.cells #[.int .i64 (-1)] 3)).alloc (.cells #[.int .u64 m,.int .u64 0] 141)) (w.heap.size+1) 308 #[.int .u64 m,.int .u64 0,.int .i64 last,.int .i64 cost]):=.alloc (.alloc (.alloc (.alloc (.new (by simp)) _) _) _) _;have bS0:Blk ((((((w.alloc (.cells #[.pointer (some ⟨g,0,none⟩)] 79)).alloc (.cells #[.int .u64 m,.int .u64 0,.int .i64 last,.int .i64 cost] 308)).alloc (.cells #[.int .i64 0] 3)).alloc (.cells #[.int .i64 (-1)] 3)).alloc (.cells #[.int .i64 (-1)] 3)).alloc (.cells #[.int .u64 m,.int .u64 0] 141)) (w.heap.size+1+1) 3 #[.int .i64 0]:=.alloc (.alloc (.alloc (.new (by simp)) _) _) _;have bF0:Blk ((((((w.alloc (.cells #[.pointer (some ⟨g,0,none⟩)] 79)).alloc (.cells #[.int .u64 m,.int .u64 0,.int .i64 last,.int .i64 cost] 308)).alloc (.cells #[.int .i64 0] 3)).alloc (.cells #[.int .i64 (-1)] 3)).alloc (.cells #[.int .i64 (-1)] 3)).alloc (.cells #[.int .u64 m,.int .u64 0] 141)) (w.heap.size+1+1+1) 3 #[.int .i64 (-1)]:=.alloc (.alloc (.new (by simp)) _) _;have bT0:Blk ((((((w.alloc (.cells #[.pointer (some ⟨g,0,none⟩)] 79)).alloc (.cells #[.int .u64 m,.int .u64 0,.int .i64 last,.int .i64 cost] 308)).alloc (.cells #[.int .i64 0] 3)).alloc (.cells #[.int .i64 (-1)] 3)).alloc (.cells #[.int .i64 (-1)] 3)).alloc (.cells #[.int .u64 m,.int .u64 0] 141)) (w.heap.size+1+1+1+1) 3 #[.int .i64 (-1)]:=.alloc (.new (by simp)) _;have bB0:Blk ((((((w.alloc (.cells #[.pointer (some ⟨g,0,none⟩)] 79)).alloc (.cells #[.int .u64 m,.int .u64 0,.int .i64 last,.int .i64 cost] 308)).alloc (.cells #[.int .i64 0] 3)).alloc (.cells #[.int .i64 (-1)] 3)).alloc (.cells #[.int .i64 (-1)] 3)).alloc (.cells #[.int .u64 m,.int .u64 0] 141)) (w.heap.size+1+1+1+1+1) 141 #[.int .u64 m,.int .u64 0]:=.new (by simp);have hB0:Ext w ((((((w.alloc (.cells #[.pointer (some ⟨g,0,none⟩)] 79)).alloc (.cells #[.int .u64 m,.int .u64 0,.int .i64 last,.int .i64 cost] 308)).alloc (.cells #[.int .i64 0] 3)).alloc (.cells #[.int .i64 (-1)] 3)).alloc (.cells #[.int .i64 (-1)] 3)).alloc (.cells #[.int .u64 m,.int .u64 0] 141)):=((((((Ext.rf w).alloc _).alloc _).alloc _).alloc _).alloc _).alloc _;have hsz:((((((w.alloc (.cells #[.pointer (some ⟨g,0,none⟩)] 79)).alloc (.cells #[.int .u64 m,.int .u64 0,.int .i64 last,.int .i64 cost] 308)).alloc (.cells #[.int .i64 0] 3)).alloc (.cells #[.int .i64 (-1)] 3)).alloc (.cells #[.int .i64 (-1)] 3)).alloc (.cells #[.int .u64 m,.int .u64 0] 141)).heap.size=w.heap.size+1+1+1+1+1+1:=by simp
 obtain⟨W0,hW0⟩:∃ W0,((((((w.alloc (.cells #[.pointer (some ⟨g,0,none⟩)] 79)).alloc (.cells #[.int .u64 m,.int .u64 0,.int .i64 last,.int .i64 cost] 308)).alloc (.cells #[.int .i64 0] 3)).alloc (.cells #[.int .i64 (-1)] 3)).alloc (.cells #[.int .i64 (-1)] 3)).alloc (.cells #[.int .u64 m,.int .u64 0] 141))=W0:=⟨_,rfl⟩;rw[hW0] at bK0 bW0 bS0 bF0 bT0 bB0 hB0 hsz ⊢;clear hW0;refine wpIn_rangeFunc_ownH rfl (by omega) (gf:=140) (lb:=#[.pointer (some ⟨w.heap.size+1+1+1+1+1,0,none⟩)]) rfl trivial (enters_of Tryz.func140 (by kernel_rfl) rfl)
  (YR 5 m hm1 h63 (w.heap.size+1+1+1+1+1) w.heap.size _ bB0 (hT.ext hB0) hB0.size hg) SetKp.tr (Wi (cs:=#[.int .u64 m,.int .u64 0]) hB0.size bB0) (Below.refl _ _) (fun _=>rfl)
  (fun pre W=>(Blk W (w.heap.size+1+1) 3 #[.int .i64 (Zi ((inL pre).map fun u=>(Zw rows (Zb m) last u).1+(Zw rows (Zb m) last u).2))]/\Blk W (w.heap.size+1+1+1) 3 #[.int .i64 (Zk (fun u=>Za rows last u) (-1) (inL pre))]/\Blk W (w.heap.size+1+1+1+1) 3 #[.int .i64 (Zk (fun u=>Za rows u 0) (-1) (inL pre))])/\HeldS W0 (fun b=>b=w.heap.size+1+1\/b=w.heap.size+1+1+1\/b=w.heap.size+1+1+1+1) W/\Below w.heap.size w W)
  (fun _ _ _=>False)
  (OwnFrom.and (OwnFrom.and (ZP (by omega) _ _) (OwnFrom.and (ZP (by omega) _ _) (ZP (by omega) _ _))) (OwnFrom.and (Qx (Nat.le_refl _)) (ownFrom_below (Nat.le_refl _) (by omega))))
  (fun _ _ _ _ _ hs _ _=>hs)
  ⟨⟨by simpa [inL,Zi] using bS0,by simpa [inL,Zk] using bF0,by simpa [inL,Zk] using bT0⟩,⟨Nat.le_refl _,fun _ _ _=>rfl⟩,hB0⟩
  (fun x a' W=>∃ Bx,W0.heap.size<=Bx/\Boxed W Bx 3 (.int .i64 ((x.1:Nat):Int))/\a'={ tmps:=#[.pointer (some ⟨g,0,none⟩),.agg #[.int .u64 m,.int .u64 0,.int .i64 last,.int .i64 cost],.pointer (some ⟨w.heap.size,0,none⟩),.pointer (some ⟨w.heap.size+1,0,none⟩),.int .i64 0,.pointer (some ⟨w.heap.size+1+1,0,none⟩),.pointer (some ⟨w.heap.size+1+1+1,0,none⟩),.pointer (some ⟨w.heap.size+1+1+1+1,0,none⟩),.pointer (some ⟨Bx,0,none⟩),undef,undef,undef,undef,undef,undef,.pointer (some ⟨w.heap.size+1,0,none⟩),.agg #[.int .u64 m,.int .u64 0],.func (.func 140) #[] #[.pointer (some ⟨w.heap.size+1+1+1+1+1,0,none⟩)],.int .i64 ((x.1:Nat):Int),undef,undef,undef,undef,undef,undef,undef,undef,undef,undef,undef,undef,undef,undef,undef,undef,undef,undef,undef,undef,undef,undef,undef,undef,undef,undef,undef,undef,undef,undef,undef,undef,undef,undef,undef,undef,undef,undef,undef,undef,undef,undef,undef,undef,undef,undef,undef,undef,undef,undef,undef,undef,undef,undef,undef,undef,undef,undef,undef,undef,undef,undef,undef,undef,undef,undef,undef,undef,undef,undef,undef,undef,undef,undef,undef,undef,undef,undef,undef,undef,undef,undef,undef,undef,undef,undef,undef,undef,undef,undef,undef,undef,undef],defers:=[] })
  (fun x a' _ X Y row hs hg hr=>by obtain⟨Bx,h1,h2,h3⟩:=hs;exact⟨Bx,h1,boxed_own Bx 3 (fun(_:Unit)=>Value.int .i64 ((x.1:Nat):Int)) () X Y row h2 hg (fun r e=>(hr r e).2),h3⟩)
  ?assign ?body ?done ?stop
 case assign =>
  rintro l pre x W K ⟨⟨h1,h2,h3⟩,h4,h5⟩ hK
  gi_wp2
  exact hK _ _ ((KeepsOthers.alloc _ _).from _) ⟨(Below.refl _ W).alloc h5.size _,(Below.heap_alloc W _ _ (by have:=h4.1;omega))⟩ ⟨⟨h1.alloc _,h2.alloc _,h3.alloc _⟩,h4.ext ((Ext.rf _).alloc _),h5.alloc h5.size _⟩ ⟨W.heap.size,h4.1,Boxed.new W 3 _,rfl⟩
 case body =>
  rintro l pre x a' W hl ⟨r,hr⟩ ⟨⟨hO,hF,hTo⟩,hH,hBW⟩ ⟨Bx,hBx,bX,rfl⟩ hlt;have hu:=hmr.out x.1 x.2;have hbX:Blk W Bx 3 #[.int .i64 ((x.1:Nat):Int)]:=bX;have zBx:=hbX.lt;obtain⟨u,hux⟩:∃ u,Hid (u=x.1):=⟨_,rfl⟩;have inx:=Xq pre x;rw[<-hux.out] at hu hbX inx;rw[<-hux.out];have erow:rows[u]?=some rows[u]:=List.getElem?_eq_getElem hu;obtain⟨D,d,hud,oD⟩:=hR.out.2 _ _ erow;have lrow:=ok.row _ (List.getElem_mem hu);have ecost:∀ b,Za rows u b=(rows[u]).getD b 0:=fun b=>by unfold Za;rw[getD_some erow]
  generalize rows[u]=row at *;obtain⟨ab',ao',vv,hC,zv,cv,ev⟩:=(hV.out.read.ext hBW).at (j:=u) (by rw[lus.out];exact hu);obtain⟨rfl,rfl⟩:ab=ab'/\ao=ao':=by simpa using hC
  obtain rfl:.slice D row.length d=vv:=by
   have h:=ev.out;rw[hud] at h;exact Option.some.inj h
  obtain⟨cb,co,y1,rfl,zy1,cy1,ey1,_⟩:=(oD.read.ext hBW).at (k:=last) (by omega);obtain⟨cb',co',y2,hD2,zy2,cy2,ey2,_⟩:=(oD.read.ext hBW).at (k:=0) (by omega);obtain⟨rfl,rfl⟩:cb=cb'/\co=co':=by simpa using hD2
  have e1:Za rows u last=y1:=by rw[ecost,getD_some ey1.out]
  have e2:Za rows u 0=y2:=by rw[ecost,getD_some ey2.out]
  have b1:=hcost.out u last hu hla;have b2:=hcost.out u 0 hu (by omega);rw[e1] at b1;rw[e2] at b2;have cG:W.cell? ⟨g,0,none⟩=some (.slice (some ⟨ab,ao,none⟩) rows.length cc):=(hB.out.ext hBW).cell 0;have kW:=Hd (hH.blk bK0.out (by omega));have wW:=Hd (hH.blk bW0.out (by omega));have cK:=kW.out.c0;have cW:=wW.out.c2;have cX:=hbX.c0;have q1:(u:Int)<(rows.length:Int):=by omega
  have q2:(last:Int)<(row.length:Int):=by omega
  have q3:(0:Int)<(row.length:Int):=by omega
  have hmx:Tryz.prog.follows .mixedOrders=true:=by kernel_rfl
  replace cy2:W.cell? ⟨cb,co,none⟩=some (.int .i64 y2):=cy2;obtain⟨mn,hmn⟩:∃ mn,Hid (min y1 y2=mn):=⟨_,rfl⟩;obtain⟨mx,hmx'⟩:∃ mx,Hid (max y1 y2=mx):=⟨_,rfl⟩;have emin:(if y2<y1 then y2 else y1)=mn:=by rw[<-hmn.out];split<;>omega
  have emax:(if y1<y2 then y2 else y1)=mx:=by rw[<-hmx'.out];split<;>omega
  have WO:=Hd (fun(W:World)=>Xc m u hm1 (by omega) W);have emu:=YQ (i:=u) hm1;have hmu1:=UB m u;obtain⟨mu,hmu⟩:∃ mu,Hid (Ye m u=mu):=⟨_,rfl⟩;rw[hmu.out] at WO emu hmu1;replace emu:=Hd emu;unfold ZE at WO;replace hO:=Hd hO;replace hF:=Hd hF;replace hTo:=Hd hTo;replace hH:=Hd hH;replace hBW:=Hd hBW;replace hbX:=Hd hbX;replace bX:=Hd bX;replace oD:=Hd oD;replace e1:=Hd e1;replace e2:=Hd e2;replace ecost:=Hd ecost;replace hr:=Hd hr;clear ev ey1 ey2 erow hD2
  gi_wp2
  refine Zg (by kernel_rfl) (by kernel_rfl) (by kernel_rfl) ?_
  repeat (gi_big_quiet_step (fail))
  refine wpQuietIn_nil ?_;rintro _ ⟨nq,rfl⟩;have X1:Hid (Ext W (W.drewN nq)):=(Ext.rf W).drewN nq;obtain⟨W1,hW1⟩:∃ W1,W.drewN nq=W1:=⟨_,rfl⟩;rw[hW1] at X1 ⊢;clear hW1;have wW1:=wW.out.ext X1.out;have d0:(W1.alloc (.cells #[.int .i64 mn,.int .i64 mx] 313)).cell? ⟨w.heap.size+1,0,none⟩=some (.int .u64 m):=(wW1.alloc _).cell 0;have d1:(W1.alloc (.cells #[.int .i64 mn,.int .i64 mx] 313)).cell? ⟨w.heap.size+1,1,none⟩=some (.int .u64 0):=(wW1.alloc _).cell 1;have dX:(W1.alloc (.cells #[.int .i64 mn,.int .i64 mx] 313)).cell? ⟨Bx,0,none⟩=some (.int .i64 (u:Int)):=((hbX.out.ext X1.out).alloc _).cell 0;clear wW1 cG cK cW cX cy1 cy2
  gi_wp2
  refine⟨trivial,?_⟩;refine(YN (fun _=>trivial) rfl rfl (WO.out _)).mono ?_;rintro e w3 ⟨rfl,x3⟩
  gi_wp2
  refine⟨trivial,?_⟩;refine(YN (fun _=>trivial) rfl rfl (Wh mu _)).mono ?_;rintro e w4 ⟨rfl,rfl⟩
  gi_wp2
  have zW1:W.heap.size<=W1.heap.size:=X1.out.size;have zw3:W1.heap.size+1<=w3.heap.size:=by have:=x3.size;simpa using this
  have xW3:Hid (Ext W (w3.alloc (.cells #[.int .u64 mu,.int .u64 0] 141))):=((X1.out.alloc _).tr x3).alloc _;have bB3:Blk (w3.alloc (.cells #[.int .u64 mu,.int .u64 0] 141)) w3.heap.size 141 #[.int .u64 mu,.int .u64 0]:=.new rfl;have bP3:Blk (w3.alloc (.cells #[.int .u64 mu,.int .u64 0] 141)) W1.heap.size 313 #[.int .i64 mn,.int .i64 mx]:=((Blk.new rfl).ext x3).alloc _;have bX3:Hid (Blk (w3.alloc (.cells #[.int .u64 mu,.int .u64 0] 141)) Bx 3 #[.int .i64 (u:Int)]):=hbX.out.ext xW3.out;have kW3:=Hd (kW.out.ext xW3.out);have hr3:(w3.alloc (.cells #[.int .u64 mu,.int .u64 0] 141)).heap[l]?=some (.loop r):=(xW3.out.block l (Array.getElem?_eq_some_iff.1 hr.out).1).trans hr.out;have hTW:=hT.ext (hBW.out.trans (xW3.out.mono hBW.out.size));have zWw:=hBW.out.size;have hsizes:W0.heap.size<=W.heap.size:=hH.out.1;have h63u:∀ x∈Zb mu,x<63:=fun x hx=>by
   rw[emu.out] at hx;exact h63 x (List.mem_filter.1 hx).1
  have muR:Hid (∀ x∈Zb mu,x<rows.length):=fun x hx=>by
   rw[emu.out] at hx;exact hmr.out x (List.mem_filter.1 hx).1
  refine wpIn_rangeFunc_ownN (l₀:=l) (r₀:=r) rfl hr3 (by omega) (gf:=140) (lb:=#[.pointer (some ⟨w3.heap.size,0,none⟩)]) rfl trivial (enters_of Tryz.func140 (by kernel_rfl) rfl)
   ((YR 3 mu hmu1 h63u w3.heap.size w.heap.size _ bB3 hTW (by simp;omega) hg).inRound l) SetKp.tr (Wi (cs:=#[.int .u64 mu,.int .u64 0]) (by simp;omega) bB3) (Below.refl _ _) (fun _=>rfl)
   (fun pre' W'=>Blk W' W1.heap.size 313 #[.int .i64 ((inL pre').foldl (fun p v=>YC p (Za rows u v)) (mn,mx)).1,.int .i64 ((inL pre').foldl (fun p v=>YC p (Za rows u v)) (mn,mx)).2]/\Held (w3.alloc (.cells #[.int .u64 mu,.int .u64 0] 141)) W1.heap.size W'/\Below w.heap.size W W')
   (fun _ _ _=>False)
   (OwnFrom.and (ZP (by simp<;>omega) _ _) (OwnFrom.and (Xj (Nat.le_refl _)) (ownFrom_below zWw (by simp<;>omega))))
   (fun _ _ _ _ _ hs _ _=>hs)
   ⟨by simpa [inL] using bP3,⟨Nat.le_refl _,fun _ _ _=>rfl⟩,xW3.out.mono zWw⟩
   (fun y a'' _=>a''={ tmps:=#[.pointer (some ⟨g,0,none⟩),.agg #[.int .u64 m,.int .u64 0,.int .i64 last,.int .i64 cost],.pointer (some ⟨w.heap.size,0,none⟩),.pointer (some ⟨w.heap.size+1,0,none⟩),.int .i64 0,.pointer (some ⟨w.heap.size+1+1,0,none⟩),.pointer (some ⟨w.heap.size+1+1+1,0,none⟩),.pointer (some ⟨w.heap.size+1+1+1+1,0,none⟩),.pointer (some ⟨Bx,0,none⟩),.int .i64 y1,.int .i64 y2,.pointer (some ⟨W1.heap.size,0,none⟩),.int .i64 ((y.1:Nat):Int),undef,undef,.pointer (some ⟨w.heap.size+1,0,none⟩),.agg #[.int .u64 m,.int .u64 0],.func (.func 140) #[] #[.pointer (some ⟨w.heap.size+1+1+1+1+1,0,none⟩)],.int .i64 (u:Int),.pointer (some ⟨g,0,none⟩),.pointer (some ⟨g,0,none⟩),.pointer (some ⟨g,0,none⟩),.slice (some ⟨ab,ao,none⟩) rows.length cc,.int .i64 (u:Int),.pointer (some ⟨ab,ao+u,none⟩),.slice (some ⟨cb,co,none⟩) rows.length d,.pointer (some ⟨w.heap.size+1,2,none⟩),.int .i64 last,.pointer (some ⟨cb,co+last,none⟩),.int .i64 y1,.pointer (some ⟨g,0,none⟩),.pointer (some ⟨g,0,none⟩),.pointer (some ⟨g,0,none⟩),.slice (some ⟨ab,ao,none⟩) rows.length cc,.int .i64 (u:Int),.pointer (some ⟨ab,ao+u,none⟩),.slice (some ⟨cb,co,none⟩) rows.length d,.pointer (some ⟨cb,co,none⟩),.int .i64 y2,.int .i64 y1,.int .i64 y2,.int .i64 mn,.int .i64 y1,.int .i64 y2,.int .i64 mx,.agg #[.int .i64 mn,.int .i64 mx],.pointer (some ⟨w.heap.size+1,0,none⟩),.agg #[.int .u64 m,.int .u64 0],.int .i64 (u:Int),.agg #[.int .u64 mu,.int .u64 0],.func (.func 140) #[] #[.pointer (some ⟨w3.heap.size,0,none⟩)],.int .i64 ((y.1:Nat):Int),undef,undef,undef,undef,undef,undef,undef,undef,undef,undef,undef,undef,undef,undef,undef,undef,undef,undef,undef,undef,undef,undef,undef,undef,undef,undef,undef,undef,undef,undef,undef,undef,undef,undef,undef,undef,undef,undef,undef,undef,undef,undef,undef,undef,undef,undef,undef,undef,undef,undef,undef,undef,undef,undef,undef,undef,undef,undef,undef,undef],defers:=[] })
   (fun _ _ _ _ _ _ hs _ _=>hs)
   ?assign2 ?body2 ?done2 ?stop2
  case assign2 =>
   rintro l2 pre' y W' K hi hK
   gi_wp2
   exact hK _ _ (KeepsFrom.refl _ _) ⟨Below.refl _ _,rfl⟩ hi rfl
  case body2 =>
   rintro l2 pre' y a'' W' _ _ ⟨hP,hH2,hBW2⟩ rfl _;have hy:=muR.out y.1 y.2;obtain⟨p,hp⟩:∃ p:Int×Int,Hid (p=(inL pre').foldl (fun p v=>YC p (Za rows u v)) (mn,mx)):=⟨_,rfl⟩;rw[<-hp.out] at hP;have xw':Hid (Below w.heap.size w W'):=hBW.out.trans hBW2;obtain⟨cb',co',z,hD3,zz,cz,ez,_⟩:=(oD.out.read.ext xw'.out).at (k:=y.1) (by omega);obtain⟨rfl,rfl⟩:cb=cb'/\co=co':=by simpa using hD3
   obtain⟨ab',ao',vv,hC3,zv3,cv3,ev3⟩:=(hV.out.read.ext xw'.out).at (j:=u) (by rw[lus.out];exact hu);obtain⟨rfl,rfl⟩:ab=ab'/\ao=ao':=by simpa using hC3
   obtain rfl:.slice (some ⟨cb,co,none⟩) row.length d=vv:=by
    have h:=ev3.out;rw[hud] at h;exact Option.some.inj h
   have eN:Hid ((inL (pre'++[y])).foldl (fun p v=>YC p (Za rows u v)) (mn,mx)=YC p z):=Hd (by
    rw[Xq,List.foldl_append,<-hp.out,List.foldl_cons,List.foldl_nil,ecost.out,getD_some ez.out])
   have cG':W'.cell? ⟨g,0,none⟩=some (.slice (some ⟨ab,ao,none⟩) rows.length cc):=(hB.out.ext xw'.out).cell 0;have cK':W'.cell? ⟨w.heap.size,0,none⟩=some (.pointer (some ⟨g,0,none⟩)):=(hH2.blk kW3.out (by omega)).cell 0;have cX':W'.cell? ⟨Bx,0,none⟩=some (.int .i64 (u:Int)):=(hH2.blk bX3.out (by omega)).cell 0;have cP0:=hP.c0;have cP1:=hP.c1;have PU:=Hd (fun(V:World)=>Zdj p z V);have q4:((y.1:Nat):Int)<(row.length:Int):=by omega
   clear ez ev3 hD3 hC3 hp;obtain⟨p1,p2⟩:=p;obtain⟨r2,hr2⟩:∃ r2,Hid (YC (p1,p2) z=r2):=⟨_,rfl⟩;rw[hr2.out] at PU eN;obtain⟨r1,r2⟩:=r2;simp only at cP0 cP1 hP;replace hP:=Hd hP
   gi_wp2
   refine YV (by kernel_rfl) (by kernel_rfl) (fun _=>trivial) rfl rfl ?_
   change wpAny _ _ _ _ _ _ _ (World.drew _)
   refine Wp (n:=2) [(0,some 52),(1,some 53),(2,some 54),(3,some 55),(4,some 56),(5,some 57),(6,some 58),(7,some 59),(8,some 60),(9,some 61),(10,some 62)] (fun | 0=>.agg #[.int .i64 p1,.int .i64 p2] | 1=>.pointer (some ⟨g,0,none⟩) | 2=>.pointer (some ⟨g,0,none⟩) | 3=>.pointer (some ⟨g,0,none⟩) | 4=>.slice (some ⟨ab,ao,none⟩) rows.length cc | 5=>.int .i64 (u:Int) | 6=>.pointer (some ⟨ab,ao+u,none⟩) | 7=>.slice (some ⟨cb,co,none⟩) row.length d | 8=>.int .i64 ((y.1:Nat):Int) | 9=>.pointer (some ⟨cb,co+y.1,none⟩) | 10=>.int .i64 z | _=>undef) #[true,true,true,true,true,true,true,true,true,true,true,false,false] (by decide +kernel) ?_ ?_
   ·intro pS hpm uS hD K hK
    simp only[List.mem_cons,List.not_mem_nil,or_false] at hpm;rcases hpm with rfl | rfl | rfl | rfl | rfl | rfl | rfl | rfl | rfl | rfl | rfl
    ·exact Zr (T:=313) (x:=Operand.tmp 11) (t:=313) (d:=some 52) rfl (.pointer (some ⟨W1.heap.size,0,none⟩)) (by kernel_rfl) (.agg #[.int .i64 p1,.int .i64 p2]) (by go_simp) hK
    ·exact Zr (T:=79) (x:=Operand.tmp 2) (t:=79) (d:=some 53) rfl (.pointer (some ⟨w.heap.size,0,none⟩)) (by kernel_rfl) (.pointer (some ⟨g,0,none⟩)) (by go_simp) hK
    ·(have e1:uS 1=.pointer (some ⟨g,0,none⟩):=hD 1 (Zf (by kernel_rfl));exact Zz (op:=Op.nilCheck (Operand.tmp 53)) (t:=0) (d:=some 54) rfl (.pointer (some ⟨g,0,none⟩)) (by simp only[Zj,Act.put,List.setIfInBounds_toArray,List.set_cons_zero,List.set_cons_succ];unfold Zd;go_simp;try simp only[e1];try go_simp) hK)
    ·(have e2:uS 2=.pointer (some ⟨g,0,none⟩):=hD 2 (Zf (by kernel_rfl));exact Zz (op:=Op.fieldAddr 123 (Operand.tmp 54) 0) (t:=0) (d:=some 55) rfl (.pointer (some ⟨g,0,none⟩)) (by simp only[Zj,Act.put,List.setIfInBounds_toArray,List.set_cons_zero,List.set_cons_succ];unfold Zd;go_simp;try simp only[e2];try go_simp) hK)
    ·exact Zr (T:=23) (x:=Operand.tmp 55) (t:=23) (d:=some 56) rfl (.pointer (some ⟨g,0,none⟩)) (Eq.trans (b:=uS 3) (by kernel_rfl) (hD 3 (Zf (by kernel_rfl)))) (.slice (some ⟨ab,ao,none⟩) rows.length cc) (by go_simp) hK
    ·exact Zr (T:=3) (x:=Operand.tmp 8) (t:=3) (d:=some 57) rfl (.pointer (some ⟨Bx,0,none⟩)) (by kernel_rfl) (.int .i64 (u:Int)) (by go_simp) hK
    ·exact Yt (T:=23) (x:=Operand.tmp 56) (y:=Operand.tmp 57) (t:=0) (d:=some 58) rfl (.slice (some ⟨ab,ao,none⟩) rows.length cc) (.int .i64 (u:Int)) (Eq.trans (b:=uS 4) (by kernel_rfl) (hD 4 (Zf (by kernel_rfl)))) (Eq.trans (b:=uS 5) (by kernel_rfl) (hD 5 (Zf (by kernel_rfl)))) (.pointer (some ⟨ab,ao+u,none⟩)) (by go_simp) hK
    ·exact Zr (T:=22) (x:=Operand.tmp 58) (t:=22) (d:=some 59) rfl (.pointer (some ⟨ab,ao+u,none⟩)) (Eq.trans (b:=uS 6) (by kernel_rfl) (hD 6 (Zf (by kernel_rfl)))) (.slice (some ⟨cb,co,none⟩) row.length d) (by go_simp) hK
    ·exact Zz (op:=Op.move (Operand.tmp 12)) (t:=3) (d:=some 60) rfl (.int .i64 ((y.1:Nat):Int)) (by simp only[Zj];unfold Zd;go_simp) hK
    ·exact Yt (T:=22) (x:=Operand.tmp 59) (y:=Operand.tmp 60) (t:=0) (d:=some 61) rfl (.slice (some ⟨cb,co,none⟩) row.length d) (.int .i64 ((y.1:Nat):Int)) (Eq.trans (b:=uS 7) (by kernel_rfl) (hD 7 (Zf (by kernel_rfl)))) (Eq.trans (b:=uS 8) (by kernel_rfl) (hD 8 (Zf (by kernel_rfl)))) (.pointer (some ⟨cb,co+y.1,none⟩)) (by go_simp) hK
    ·exact Zr (T:=3) (x:=Operand.tmp 61) (t:=3) (d:=some 62) rfl (.pointer (some ⟨cb,co+y.1,none⟩)) (Eq.trans (b:=uS 9) (by kernel_rfl) (hD 9 (Zf (by kernel_rfl)))) (.int .i64 z) (by go_simp) hK
   simp only[Zj,Act.put,List.setIfInBounds_toArray,List.set_cons_zero,List.set_cons_succ];refine Zm 11 (by decide +kernel) (ZJ (f:=284) (xs:=#[Operand.tmp 52,Operand.tmp 62]) (ts:=#[313,3]) (t:=313) (d:=some 63) rfl #[.agg #[.int .i64 p1,.int .i64 p2],.int .i64 z] (by go_simp) (by kernel_rfl) _ (PU.out _) ?_);rintro e w5 ⟨rfl,x5⟩;refine⟨_,rfl,?_⟩
   try simp only[lay]
   have hP5:Blk w5 W1.heap.size 313 #[.int .i64 p1,.int .i64 p2]:=(hP.out.drew).ext x5;have k0:=hP5.c0;have k1:=hP5.c1;have k2:=hP5.free 0;have k3:=hP5.free 1;refine Zm 12 (by decide +kernel) (YH rfl (.pointer (some ⟨W1.heap.size,0,none⟩)) (.agg #[.int .i64 r1,.int .i64 r2]) (by kernel_rfl) (by kernel_rfl) (by go_simp;rfl) ?_)
   try simp only[lay]
   refine wpAny_done (by kernel_rfl) (Vl ?_) _;have XW5:Ext W' w5:=((Ext.rf W').drew).tr x5;have zW':w3.heap.size+1<=W'.heap.size:=by have:=hH2.1;simpa using this
   refine⟨(KeepsFrom.of_ext XW5).trans (((KeepsOthers.setCell _ _ _).trans (KeepsOthers.setCell _ _ _)).from _),⟨((XW5.mono (by omega)).setCell (by simp<;>omega) _).setCell (by simp<;>omega) _,?_⟩,?_,?_,?_⟩
   ·exact((Below.heap_setCell _ ⟨W1.heap.size,1,none⟩ _ w3.heap.size (by simp<;>omega)).trans (Below.heap_setCell w5 ⟨W1.heap.size,0,none⟩ _ w3.heap.size (by simp<;>omega))).trans (XW5.block w3.heap.size (by omega))
   ·rw[eN.out]
    exact(hP5.set 0 _).set 1 _
   ·refine⟨by have:=XW5.size;simp;omega,fun b h1 h2=>?_⟩
    rw[World.size_alloc] at h1;exact(((Below.heap_setCell _ ⟨W1.heap.size,1,none⟩ _ b h2).trans (Below.heap_setCell w5 ⟨W1.heap.size,0,none⟩ _ b h2)).trans (XW5.block b (by omega))).trans (hH2.2 b (by simp;omega) h2)
   ·exact((hBW2.trans (XW5.mono (by omega))).setCell (by simp<;>omega) _).setCell (by simp<;>omega) _
  case done2 =>
   rintro ys' W' rfl ⟨hP,hH2,hBW2⟩;rw[Yz,emu.out] at hP;have epair:Zw rows (Zb m) last u=((Zb m).filter fun j=>decide (u≠j)).foldl (fun p v=>YC p (Za rows u v)) (mn,mx):=by
    unfold Zw;rw[e1.out,e2.out,hmn.out,hmx'.out]
   rw[<-epair] at hP;have bp:(0<=(Zw rows (Zb m) last u).1/\(Zw rows (Zb m) last u).1<=2147483647)/\0<=(Zw rows (Zb m) last u).2/\(Zw rows (Zb m) last u).2<=2147483647:=by
    rw[epair];refine XU _ _ ?_ ?_ fun v hv=>hcost.out u v hu (hmr.out v (List.mem_filter.1 hv).1)
    ·simp only[<-hmn.out];omega
    ·simp only[<-hmx'.out];omega
   obtain⟨pp,hpp⟩:∃ pp,Hid (Zw rows (Zb m) last u=pp):=⟨_,rfl⟩;rw[hpp.out] at hP bp;obtain⟨p1,p2⟩:=pp;simp only at hP bp;obtain⟨su,hsu⟩:∃ su,Hid (su=Zi ((inL pre).map fun u=>(Zw rows (Zb m) last u).1+(Zw rows (Zb m) last u).2)):=⟨_,rfl⟩;obtain⟨fr,hfr⟩:∃ fr,Hid (fr=Zk (fun u=>Za rows last u) (-1) (inL pre)):=⟨_,rfl⟩;obtain⟨tq,hto⟩:∃ tq,Hid (tq=Zk (fun u=>Za rows u 0) (-1) (inL pre)):=⟨_,rfl⟩;rw[<-hsu.out] at hO;rw[<-hfr.out] at hF;rw[<-hto.out] at hTo;have bsu:0<=su/\su<=4294967294*64:=by
    have h1:∀ l:List Nat,(∀ c∈l,c<rows.length)->0<=Zi (l.map fun u=>(Zw rows (Zb m) last u).1+(Zw rows (Zb m) last u).2)/\Zi (l.map fun u=>(Zw rows (Zb m) last u).1+(Zw rows (Zb m) last u).2)<=4294967294*(l.length:Int):=by
     intro l
     induction l with
     | nil=>intro _;simp[Zi]
     | cons y l ih =>
      intro h;have h2:=ih fun s hs=>h s (by simp[hs])
      have hy:=h y (by simp);have k1:=hcost.out y last hy hla;have k2:=hcost.out y 0 hy (by omega);have h3:=XU (B:=2147483647) (f:=fun v=>Za rows y v) ((Zb m).filter fun j=>decide (y≠j)) (min (Za rows y last) (Za rows y 0),max (Za rows y last) (Za rows y 0)) (by simp only;omega) (by simp only;omega) fun v hv=>hcost.out y v hy (hmr.out v (List.mem_filter.1 hv).1)
      have h4:Zw rows (Zb m) last y=((Zb m).filter fun j=>decide (y≠j)).foldl (fun p v=>YC p (Za rows y v)) (min (Za rows y last) (Za rows y 0),max (Za rows y last) (Za rows y 0)):=rfl;rw[<-h4] at h3;simp only[List.map_cons,Zi,List.length_cons];omega
    have h2:=h1 (inL pre) fun c hc=>by
     obtain⟨c',_,rfl⟩:=List.mem_map.1 hc;exact hmr.out c'.1 c'.2
    have h3:(inL pre).length<=64:=by
     have:=Y6 m;simp[inL];omega
    rw[hsu.out];omega
   have eS:Hid (Zi ((inL (pre++[x])).map fun u=>(Zw rows (Zb m) last u).1+(Zw rows (Zb m) last u).2)=su+(p1+p2)):=Hd (by
    rw[inx,List.map_append,List.map_cons,List.map_nil,YU,<-hsu.out,hpp.out])
   have cost1:=hcost.out last u hla hu;obtain⟨y3,hy3⟩:∃ y3,Hid (Za rows last u=y3):=⟨_,rfl⟩;rw[hy3.out] at cost1;have eFr:Hid (Zk (fun u=>Za rows last u) (-1) (inL (pre++[x]))=if fr<0 then y3 else if y3<fr then y3 else fr):=Hd (by
    rw[inx,YD,<-hfr.out,hy3.out])
   have eTo:Hid (Zk (fun u=>Za rows u 0) (-1) (inL (pre++[x]))=if tq<0 then y2 else if y2<tq then y2 else tq):=Hd (by
    rw[inx,YD,<-hto.out,e2.out])
   have erl:rows[last]?=some rows[last]:=List.getElem?_eq_getElem hla;obtain⟨DL,dl,hul,oDL⟩:=hR.out.2 _ _ erl;have lrl:=ok.row _ (List.getElem_mem hla);have ecl:Za rows last u=(rows[last]).getD u 0:=by unfold Za;rw[getD_some erl]
   generalize rows[last]=rowL at *;have hw1:IntKind.i64.wrap (p1+p2)=p1+p2:=IntWalk.i64_in _ (by omega);have hw2:IntKind.i64.wrap (su+(p1+p2))=su+(p1+p2):=IntWalk.i64_in _ (by omega);have zW':w3.heap.size+1<=W'.heap.size:=by have:=hH2.1;simpa using this
   have G0:EndG w W0 W su fr tq W':=by
    refine⟨⟨by omega,fun k o hk h1 h2=>?_⟩,⟨hBW2,?_⟩,⟨hH2.blk (hO.out.ext xW3.out) (by omega),hH2.blk (hF.out.ext xW3.out) (by omega),hH2.blk (hTo.out.ext xW3.out) (by omega)⟩,⟨by omega,fun b h1 h2=>?_⟩,hBW.out.trans hBW2⟩
    ·have hk1:k<W.heap.size:=(Array.getElem?_eq_some_iff.1 h1).1
     exact((hH2.2 k (by simp;omega) (by omega)).trans (xW3.out.block k hk1)).trans h1
    ·exact(hH2.2 _ (by simp;omega) (by omega)).trans (xW3.out.block _ (by omega))
    ·exact((hH2.2 b (by simp;omega) (by omega)).trans (xW3.out.block b (by omega))).trans (hH.out.2 b h1 h2)
   have G1:=G0.set2 (su+(p1+p2));have cP0:=hP.c0;have cP1:=hP.c1;have cS:=G0.2.2.1.1.c0;have fS:=G0.2.2.1.1.free 0;have kW':=(hH2.blk kW3.out (by omega)).far (p:=⟨w.heap.size+1+1,0,none⟩) (by simp<;>omega) (.int .i64 (su+(p1+p2)));have wW':=(hH2.blk (wW.out.ext xW3.out) (by omega)).far (p:=⟨w.heap.size+1+1,0,none⟩) (by simp<;>omega) (.int .i64 (su+(p1+p2)));have xW':=(hH2.blk bX3.out (by omega)).far (p:=⟨w.heap.size+1+1,0,none⟩) (by simp<;>omega) (.int .i64 (su+(p1+p2)));replace hP:=Hd hP;clear bsu bp hH2 hBW2 G0
   gi_wp2
   replace kW':=Hd kW';replace wW':=Hd wW';replace xW':=Hd xW';have zV1:w.heap.size+1+1+1+1+1<(W'.setCell ⟨w.heap.size+1+1,0,none⟩ (.int .i64 (su+(p1+p2)))).heap.size:=by simp;omega
   replace G1:=Hd G1;clear cP0 cP1 cS fS hr3 hP;generalize W'.setCell ⟨w.heap.size+1+1,0,none⟩ (.int .i64 (su+(p1+p2)))=V1 at *;have cG1:V1.cell? ⟨g,0,none⟩=some (.slice (some ⟨ab,ao,none⟩) rows.length cc):=(hB.out.ext G1.out.2.2.2.2).cell 0;have cK1:=kW'.out.c0;have cW1:=wW'.out.c2;have cX1:=xW'.out.c0;obtain⟨ab',ao',vv,hC5,zv5,cv5,ev5⟩:=(hV.out.read.ext G1.out.2.2.2.2).at (j:=last) (by rw[lus.out];exact hla);obtain⟨rfl,rfl⟩:ab=ab'/\ao=ao':=by simpa using hC5
   obtain rfl:.slice DL rowL.length dl=vv:=by
    have h:=ev5.out;rw[hul] at h;exact Option.some.inj h
   obtain⟨lb',lo',y3x,rfl,zy3x,cy3x,ey3x,_⟩:=(oDL.read.ext G1.out.2.2.2.2).at (k:=u) (by omega);have e35:y3x=y3:=by rw[<-hy3.out,ecl,getD_some ey3x.out]
   obtain rfl:=e35;have q6:(last:Int)<(rows.length:Int):=by omega
   have q7:(u:Int)<(rowL.length:Int):=by omega
   replace ecl:=Hd ecl;clear ey3x ev5 hC5
   by_cases hneg:fr<0
   ·rw[if_pos hneg] at eFr
    gi_wp2
    refine Zg (by kernel_rfl) (by kernel_rfl) (by kernel_rfl) ?_
    repeat (gi_big_quiet_step (fail))
    refine wpQuietIn_nil ?_;rintro _ ⟨nq,rfl⟩;have XV:Hid (Ext V1 (V1.drewN nq)):=(Ext.rf V1).drewN nq;have zV2:w.heap.size+1+1+1+1+1<(V1.drewN nq).heap.size:=by have:=XV.out.size;omega
    have G2:=Hd (G1.out.ext (by omega) XV.out);have kV2:=Hd (kW'.out.ext XV.out);have xV2:=Hd (xW'.out.ext XV.out);obtain⟨V2,hV2⟩:∃ V2,V1.drewN nq=V2:=⟨_,rfl⟩;rw[hV2] at G2 kV2 xV2 zV2 ⊢;clear hV2 XV cG1 cK1 cW1 cX1 cv5 cy3x;have cFr:=G2.out.2.2.1.2.1.c0;have fFr:=G2.out.2.2.1.2.1.free 0
    gi_wp2
    have G3:=G2.out.set3 y3x;have kV3:=Hd (kV2.out.far (p:=⟨w.heap.size+1+1+1,0,none⟩) (by simp<;>omega) (.int .i64 y3x));have xV3:=Hd (xV2.out.far (p:=⟨w.heap.size+1+1+1,0,none⟩) (by simp<;>omega) (.int .i64 y3x));have zV3:w.heap.size+1+1+1+1+1<(V2.setCell ⟨w.heap.size+1+1+1,0,none⟩ (.int .i64 y3x)).heap.size:=by simpa using zV2
    generalize V2.setCell ⟨w.heap.size+1+1+1,0,none⟩ (.int .i64 y3x)=V3 at *;clear cFr fFr;have G3:=Hd G3;have cT:=G3.out.2.2.1.2.2.c0;have fT:=G3.out.2.2.1.2.2.free 0;have cG3:V3.cell? ⟨g,0,none⟩=some (.slice (some ⟨ab,ao,none⟩) rows.length cc):=(hB.out.ext G3.out.2.2.2.2).cell 0;have cK3:=kV3.out.c0;have cX3:=xV3.out.c0;obtain⟨ab',ao',vv,hC4,zv4,cv4,ev4⟩:=(hV.out.read.ext G3.out.2.2.2.2).at (j:=u) (by rw[lus.out];exact hu);obtain⟨rfl,rfl⟩:ab=ab'/\ao=ao':=by simpa using hC4
    obtain rfl:.slice (some ⟨cb,co,none⟩) row.length d=vv:=by
     have h:=ev4.out;rw[hud] at h;exact Option.some.inj h
    obtain⟨cb',co',z4,hD4,zz4,cz4,ez4,_⟩:=(oD.out.read.ext G3.out.2.2.2.2).at (k:=0) (by omega);obtain⟨rfl,rfl⟩:cb=cb'/\co=co':=by simpa using hD4
    obtain rfl:z4=y2:=by
     have h:=ecost.out 0;rw[e2.out,getD_some ez4.out] at h;exact h.symm
    replace cz4:V3.cell? ⟨cb,co,none⟩=some (.int .i64 z4):=cz4;clear ez4 ev4 hC4 hD4
    by_cases hneg2:tq<0
    ·rw[if_pos hneg2] at eTo
     gi_wp2
     refine Zg (by kernel_rfl) (by kernel_rfl) (by kernel_rfl) ?_
     repeat (gi_big_quiet_step (fail))
     refine wpQuietIn_nil ?_;rintro _ ⟨nq,rfl⟩
     gi_wp2
     have E:=(G3.out.ext (by omega) ((Ext.rf V3).drewN nq)).set4 z4;exact⟨E.1,E.2.1,⟨by rw[eS.out];exact E.2.2.1.1,by rw[eFr.out];exact E.2.2.1.2.1,by rw[eTo.out];exact E.2.2.1.2.2⟩,E.2.2.2.1,E.2.2.2.2⟩
    ·rw[if_neg hneg2] at eTo
     by_cases hlt2:z4<tq
     ·rw[if_pos hlt2] at eTo
      gi_wp2
      refine Zg (by kernel_rfl) (by kernel_rfl) (by kernel_rfl) ?_
      repeat (gi_big_quiet_step (fail))
      refine wpQuietIn_nil ?_;rintro _ ⟨nq,rfl⟩
      gi_wp2
      have E:=(G3.out.ext (by omega) ((Ext.rf V3).drewN nq)).set4 z4;exact⟨E.1,E.2.1,⟨by rw[eS.out];exact E.2.2.1.1,by rw[eFr.out];exact E.2.2.1.2.1,by rw[eTo.out];exact E.2.2.1.2.2⟩,E.2.2.2.1,E.2.2.2.2⟩
     ·rw[if_neg hlt2] at eTo
      gi_wp2
      refine Zg (by kernel_rfl) (by kernel_rfl) (by kernel_rfl) ?_
      repeat (gi_big_quiet_step (fail))
      refine wpQuietIn_nil ?_;rintro _ ⟨nq,rfl⟩
      gi_wp2
      have E:=G3.out.ext (by omega) ((Ext.rf V3).drewN nq);exact⟨E.1,E.2.1,⟨by rw[eS.out];exact E.2.2.1.1,by rw[eFr.out];exact E.2.2.1.2.1,by rw[eTo.out];exact E.2.2.1.2.2⟩,E.2.2.2.1,E.2.2.2.2⟩
   ·rw[if_neg hneg] at eFr
    by_cases hlt1:y3x<fr
    ·rw[if_pos hlt1] at eFr
     gi_wp2
     refine Zg (by kernel_rfl) (by kernel_rfl) (by kernel_rfl) ?_
     repeat (gi_big_quiet_step (fail))
     refine wpQuietIn_nil ?_;rintro _ ⟨nq,rfl⟩;have XV:Hid (Ext V1 (V1.drewN nq)):=(Ext.rf V1).drewN nq;have zV2:w.heap.size+1+1+1+1+1<(V1.drewN nq).heap.size:=by have:=XV.out.size;omega
     have G2:=Hd (G1.out.ext (by omega) XV.out);have kV2:=Hd (kW'.out.ext XV.out);have xV2:=Hd (xW'.out.ext XV.out);obtain⟨V2,hV2⟩:∃ V2,V1.drewN nq=V2:=⟨_,rfl⟩;rw[hV2] at G2 kV2 xV2 zV2 ⊢;clear hV2 XV cG1 cK1 cW1 cX1 cv5 cy3x;have cFr:=G2.out.2.2.1.2.1.c0;have fFr:=G2.out.2.2.1.2.1.free 0
     gi_wp2
     have G3:=G2.out.set3 y3x;have kV3:=Hd (kV2.out.far (p:=⟨w.heap.size+1+1+1,0,none⟩) (by simp<;>omega) (.int .i64 y3x));have xV3:=Hd (xV2.out.far (p:=⟨w.heap.size+1+1+1,0,none⟩) (by simp<;>omega) (.int .i64 y3x));have zV3:w.heap.size+1+1+1+1+1<(V2.setCell ⟨w.heap.size+1+1+1,0,none⟩ (.int .i64 y3x)).heap.size:=by simpa using zV2
     generalize V2.setCell ⟨w.heap.size+1+1+1,0,none⟩ (.int .i64 y3x)=V3 at *;clear cFr fFr;have G3:=Hd G3;have cT:=G3.out.2.2.1.2.2.c0;have fT:=G3.out.2.2.1.2.2.free 0;have cG3:V3.cell? ⟨g,0,none⟩=some (.slice (some ⟨ab,ao,none⟩) rows.length cc):=(hB.out.ext G3.out.2.2.2.2).cell 0;have cK3:=kV3.out.c0;have cX3:=xV3.out.c0;obtain⟨ab',ao',vv,hC4,zv4,cv4,ev4⟩:=(hV.out.read.ext G3.out.2.2.2.2).at (j:=u) (by rw[lus.out];exact hu);obtain⟨rfl,rfl⟩:ab=ab'/\ao=ao':=by simpa using hC4
     obtain rfl:.slice (some ⟨cb,co,none⟩) row.length d=vv:=by
      have h:=ev4.out;rw[hud] at h;exact Option.some.inj h
     obtain⟨cb',co',z4,hD4,zz4,cz4,ez4,_⟩:=(oD.out.read.ext G3.out.2.2.2.2).at (k:=0) (by omega);obtain⟨rfl,rfl⟩:cb=cb'/\co=co':=by simpa using hD4
     obtain rfl:z4=y2:=by
      have h:=ecost.out 0;rw[e2.out,getD_some ez4.out] at h;exact h.symm
     replace cz4:V3.cell? ⟨cb,co,none⟩=some (.int .i64 z4):=cz4;clear ez4 ev4 hC4 hD4
     by_cases hneg2:tq<0
     ·rw[if_pos hneg2] at eTo
      gi_wp2
      refine Zg (by kernel_rfl) (by kernel_rfl) (by kernel_rfl) ?_
      repeat (gi_big_quiet_step (fail))
      refine wpQuietIn_nil ?_;rintro _ ⟨nq,rfl⟩
      gi_wp2
      have E:=(G3.out.ext (by omega) ((Ext.rf V3).drewN nq)).set4 z4;exact⟨E.1,E.2.1,⟨by rw[eS.out];exact E.2.2.1.1,by rw[eFr.out];exact E.2.2.1.2.1,by rw[eTo.out];exact E.2.2.1.2.2⟩,E.2.2.2.1,E.2.2.2.2⟩
     ·rw[if_neg hneg2] at eTo
      by_cases hlt2:z4<tq
      ·rw[if_pos hlt2] at eTo
       gi_wp2
       refine Zg (by kernel_rfl) (by kernel_rfl) (by kernel_rfl) ?_
       repeat (gi_big_quiet_step (fail))
       refine wpQuietIn_nil ?_;rintro _ ⟨nq,rfl⟩
       gi_wp2
       have E:=(G3.out.ext (by omega) ((Ext.rf V3).drewN nq)).set4 z4;exact⟨E.1,E.2.1,⟨by rw[eS.out];exact E.2.2.1.1,by rw[eFr.out];exact E.2.2.1.2.1,by rw[eTo.out];exact E.2.2.1.2.2⟩,E.2.2.2.1,E.2.2.2.2⟩
      ·rw[if_neg hlt2] at eTo
       gi_wp2
       refine Zg (by kernel_rfl) (by kernel_rfl) (by kernel_rfl) ?_
       repeat (gi_big_quiet_step (fail))
       refine wpQuietIn_nil ?_;rintro _ ⟨nq,rfl⟩
       gi_wp2
       have E:=G3.out.ext (by omega) ((Ext.rf V3).drewN nq);exact⟨E.1,E.2.1,⟨by rw[eS.out];exact E.2.2.1.1,by rw[eFr.out];exact E.2.2.1.2.1,by rw[eTo.out];exact E.2.2.1.2.2⟩,E.2.2.2.1,E.2.2.2.2⟩
    ·rw[if_neg hlt1] at eFr
     gi_wp2
     refine Zg (by kernel_rfl) (by kernel_rfl) (by kernel_rfl) ?_
     repeat (gi_big_quiet_step (fail))
     refine wpQuietIn_nil ?_;rintro _ ⟨nq,rfl⟩;have XV:Hid (Ext V1 (V1.drewN nq)):=(Ext.rf V1).drewN nq;have zV2:w.heap.size+1+1+1+1+1<(V1.drewN nq).heap.size:=by have:=XV.out.size;omega
     have G2:=Hd (G1.out.ext (by omega) XV.out);have kV2:=Hd (kW'.out.ext XV.out);have xV2:=Hd (xW'.out.ext XV.out);obtain⟨V2,hV2⟩:∃ V2,V1.drewN nq=V2:=⟨_,rfl⟩;rw[hV2] at G2 kV2 xV2 zV2 ⊢;clear hV2 XV cG1 cK1 cW1 cX1 cv5 cy3x;have cFr:=G2.out.2.2.1.2.1.c0;have fFr:=G2.out.2.2.1.2.1.free 0
     gi_wp2
     have G3:=G2.out;have kV3:=kV2;have xV3:=xV2;have zV3:=zV2;obtain⟨V3,hV3⟩:∃ V3,V2=V3:=⟨_,rfl⟩;rw[hV3] at G3 kV3 xV3 zV3 ⊢;clear hV3;clear cFr fFr;have G3:=Hd G3;have cT:=G3.out.2.2.1.2.2.c0;have fT:=G3.out.2.2.1.2.2.free 0;have cG3:V3.cell? ⟨g,0,none⟩=some (.slice (some ⟨ab,ao,none⟩) rows.length cc):=(hB.out.ext G3.out.2.2.2.2).cell 0;have cK3:=kV3.out.c0;have cX3:=xV3.out.c0;obtain⟨ab',ao',vv,hC4,zv4,cv4,ev4⟩:=(hV.out.read.ext G3.out.2.2.2.2).at (j:=u) (by rw[lus.out];exact hu);obtain⟨rfl,rfl⟩:ab=ab'/\ao=ao':=by simpa using hC4
     obtain rfl:.slice (some ⟨cb,co,none⟩) row.length d=vv:=by
      have h:=ev4.out;rw[hud] at h;exact Option.some.inj h
     obtain⟨cb',co',z4,hD4,zz4,cz4,ez4,_⟩:=(oD.out.read.ext G3.out.2.2.2.2).at (k:=0) (by omega);obtain⟨rfl,rfl⟩:cb=cb'/\co=co':=by simpa using hD4
     obtain rfl:z4=y2:=by
      have h:=ecost.out 0;rw[e2.out,getD_some ez4.out] at h;exact h.symm
     replace cz4:V3.cell? ⟨cb,co,none⟩=some (.int .i64 z4):=cz4;clear ez4 ev4 hC4 hD4
     by_cases hneg2:tq<0
     ·rw[if_pos hneg2] at eTo
      gi_wp2
      refine Zg (by kernel_rfl) (by kernel_rfl) (by kernel_rfl) ?_
      repeat (gi_big_quiet_step (fail))
      refine wpQuietIn_nil ?_;rintro _ ⟨nq,rfl⟩
      gi_wp2
      have E:=(G3.out.ext (by omega) ((Ext.rf V3).drewN nq)).set4 z4;exact⟨E.1,E.2.1,⟨by rw[eS.out];exact E.2.2.1.1,by rw[eFr.out];exact E.2.2.1.2.1,by rw[eTo.out];exact E.2.2.1.2.2⟩,E.2.2.2.1,E.2.2.2.2⟩
     ·rw[if_neg hneg2] at eTo
      by_cases hlt2:z4<tq
      ·rw[if_pos hlt2] at eTo
       gi_wp2
       refine Zg (by kernel_rfl) (by kernel_rfl) (by kernel_rfl) ?_
       repeat (gi_big_quiet_step (fail))
       refine wpQuietIn_nil ?_;rintro _ ⟨nq,rfl⟩
       gi_wp2
       have E:=(G3.out.ext (by omega) ((Ext.rf V3).drewN nq)).set4 z4;exact⟨E.1,E.2.1,⟨by rw[eS.out];exact E.2.2.1.1,by rw[eFr.out];exact E.2.2.1.2.1,by rw[eTo.out];exact E.2.2.1.2.2⟩,E.2.2.2.1,E.2.2.2.2⟩
      ·rw[if_neg hlt2] at eTo
       gi_wp2
       refine Zg (by kernel_rfl) (by kernel_rfl) (by kernel_rfl) ?_
       repeat (gi_big_quiet_step (fail))
       refine wpQuietIn_nil ?_;rintro _ ⟨nq,rfl⟩
       gi_wp2
       have E:=G3.out.ext (by omega) ((Ext.rf V3).drewN nq);exact⟨E.1,E.2.1,⟨by rw[eS.out];exact E.2.2.1.1,by rw[eFr.out];exact E.2.2.1.2.1,by rw[eTo.out];exact E.2.2.1.2.2⟩,E.2.2.2.1,E.2.2.2.2⟩
  case stop2 =>
   rintro c pre' W' _ h;exact h.elim
 case done =>
  rintro D ys W hD rfl ⟨⟨hO,hF,hTo⟩,hH,hBW⟩ hK;rw[Yz] at hO hF hTo;obtain⟨su,hsu⟩:∃ su,Hid (su=Zi ((Zb m).map fun u=>(Zw rows (Zb m) last u).1+(Zw rows (Zb m) last u).2)):=⟨_,rfl⟩;obtain⟨fr,hfr⟩:∃ fr,Hid (fr=Zk (fun u=>Za rows last u) (-1) (Zb m)):=⟨_,rfl⟩;obtain⟨tq,hto⟩:∃ tq,Hid (tq=Zk (fun u=>Za rows u 0) (-1) (Zb m)):=⟨_,rfl⟩;rw[<-hsu.out] at hO;rw[<-hfr.out] at hF;rw[<-hto.out] at hTo;have bsu:0<=su/\su<=4294967294*64:=by
   have h1:∀ l:List Nat,(∀ c∈l,c<rows.length)->0<=Zi (l.map fun u=>(Zw rows (Zb m) last u).1+(Zw rows (Zb m) last u).2)/\Zi (l.map fun u=>(Zw rows (Zb m) last u).1+(Zw rows (Zb m) last u).2)<=4294967294*(l.length:Int):=by
    intro l
    induction l with
    | nil=>intro _;simp[Zi]
    | cons y l ih =>
     intro h;have h2:=ih fun s hs=>h s (by simp[hs])
     have hy:=h y (by simp);have k1:=hcost.out y last hy hla;have k2:=hcost.out y 0 hy (by omega);have h3:=XU (B:=2147483647) (f:=fun v=>Za rows y v) ((Zb m).filter fun j=>decide (y≠j)) (min (Za rows y last) (Za rows y 0),max (Za rows y last) (Za rows y 0)) (by simp only;omega) (by simp only;omega) fun v hv=>hcost.out y v hy (hmr.out v (List.mem_filter.1 hv).1)
     have h4:Zw rows (Zb m) last y=((Zb m).filter fun j=>decide (y≠j)).foldl (fun p v=>YC p (Za rows y v)) (min (Za rows y last) (Za rows y 0),max (Za rows y last) (Za rows y 0)):=rfl;rw[<-h4] at h3;simp only[List.map_cons,Zi,List.length_cons];omega
   have h2:=h1 (Zb m) fun c hc=>hmr.out c hc
   have h3:=Y6 m;rw[hsu.out];omega
  have bfr:-2147483647<=fr/\fr<=2147483647:=by
   rw[hfr.out];exact Yc (fun c hc=>by have:=hcost.out last c hla (hmr.out c hc);omega) (by omega) (by omega)
  have btq:-2147483647<=tq/\tq<=2147483647:=by
   rw[hto.out];exact Yc (fun c hc=>by have:=hcost.out c 0 (hmr.out c hc) (by omega);omega) (by omega) (by omega)
  have hw1:IntKind.i64.wrap (su+fr)=su+fr:=IntWalk.i64_in _ (by omega);have hw2:IntKind.i64.wrap (su+fr+tq)=su+fr+tq:=IntWalk.i64_in _ (by omega);have cS:=hO.c0;have cF:=hF.c0;have cT:=hTo.c0
  gi_wp2
  refine⟨by simp,.inl ⟨_,_,rfl,run_takeDeferred hK,?_⟩⟩;refine⟨_,results_tmp rfl _ _ _,?_,hBW.trans (belowK_b (w:=w) (Nat.le_refl _) W D _ _ (by omega) hK rfl rfl)⟩;rw[hsu.out,hfr.out,hto.out]
  rfl
 case stop =>
  rintro D c pre W _ _ h _;exact h.elim
theorem ZbI {base g:Nat}{rows:List (List Int)}{mi:Bool}(m last:Nat)(cost:Int)(ok:RowsOk rows)(hS:SubN rows.length m)(hla:last<rows.length)(w:World)(hT:Tab w)(H:KernT w base g rows mi) :
  Calls Tryz.prog 281 #[.pointer (some ⟨g,0,none⟩),Uz m last cost] w fun e W'=>e=.returned (.int .i64 (Xg rows (Zb m) last))/\Ext w W' :=
 callsIn_wide.1 (ZcC m last cost ok hS hla w hT H)
end Go.Proofs.YtmojhhlcocjoaaaGreatDoor
namespace Go.Proofs.YtmojhhlcocjoaaaGreatDoor
open Go.RowKit Go.ChangeShapes Go.WideShapes Go.ChangeAt Go.Deep
theorem Uf {rows:List (List Int)}(h1:1<=rows.length){p:List Int}{m last:Nat}{cost:Int}{l:List Nat}(h:WalkOk rows p m last cost l) : last<rows.length:=by
 rw[h.last];rcases Ub l 0 with e | e
 ·rw[e];exact h1
 ·exact(h.inn _ e).1
theorem YE {f:Nat->Int}{B:Int} : ∀ (l:List Nat),(∀ x∈l,0<=f x/\f x<=B)->0<=Zi (l.map f)/\Zi (l.map f)<=B*(l.length:Int)
 | [],_=>by simp[Zi]
 | x::l,h=>by
  have h1:=h x (by simp);have h2:=YE l fun y hy=>h y (by simp[hy])
  have h3:B*((l.length:Int)+1)=B*(l.length:Int)+B:=by rw[Int.mul_add,Int.mul_one]
  simp only[List.map_cons,Zi,List.length_cons,Int.natCast_add,Int.natCast_one];omega
theorem UH {rows:List (List Int)}(num:∀ a b,a<rows.length->b<rows.length->0<=Za rows a b/\Za rows a b<=2147483647) : ∀ (l:List Nat) (s:Nat),s<rows.length->(∀ x∈l,x<rows.length)->0<=Qg rows s (Zl l)/\Qg rows s (Zl l)<=2147483647*(l.length:Int)
 | [],_,_,_=>by simp[Qg,Zl]
 | x::l,s,hs,h=>by
  have h1:=num s x hs (h x (by simp));have h2:=UH num l x (h x (by simp)) fun y hy=>h y (by simp[hy])
  have e:Qg rows s (Zl (x::l))=Za rows s x+Qg rows x (Zl l):=by simp[Zl,Qg]
  rw[e];simp only[List.length_cons,Int.natCast_add,Int.natCast_one];omega
section
variable {rows:List (List Int)} {us:List Nat} {last:Nat}
theorem Vm (num:∀ a b,a<rows.length->b<rows.length->0<=Za rows a b/\Za rows a b<=2147483647)(h0:0<rows.length)(hl:last<rows.length)(hu:∀ x∈us,x<rows.length)(hlen:us.length<=24) : 0<=ZH rows us last/\ZH rows us last<=2147483647*100:=by
 have hcol:∀ {s:Nat},∀ d∈ZQ us last s,d<rows.length:=fun {s} d h=>by
  unfold ZQ at h;split at h
  ·exact hu d h
  ·rcases List.mem_cons.1 h with rfl | h
   ·exact h0
   ·exact hu d (List.mem_filter.1 h).1
 have hsrc:∀ s∈last::us,s<rows.length:=fun s h=>by
  rcases List.mem_cons.1 h with rfl | h
  ·exact hl
  ·exact hu s h
 have hoff:∀ s∈last::us,0<=Yf rows us last s/\Yf rows us last s<=2147483647:=fun s hs=>by
  have h1:=Yc (f:=fun dst=>Za rows s dst) (B:=2147483647) (l:=ZQ us last s) (b:=-1) (fun c hc=>by
   have:=num s c (hsrc s hs) (hcol c hc);omega) (by omega) (by omega)
  unfold Yf;omega
 have h1:=YE (f:=fun src=>Yf rows us last src) (last::us) hoff;have h2:=YE (f:=fun dst=>max (XT rows us last dst) 0) (B:=4294967294) (0::us) fun d hd=>by
  have hd':d<rows.length:=by
   rcases List.mem_cons.1 hd with rfl | hd
   ·exact h0
   ·exact hu d hd
  have h3:-4294967294<=XT rows us last d/\XT rows us last d<=4294967294:=by
   unfold XT;refine Yc (fun s hs=>?_) (by omega) (by omega);have h4:=num s d (hsrc s (List.mem_filter.1 hs).1) hd';have h5:=hoff s (List.mem_filter.1 hs).1;omega
  omega
 unfold ZH;simp only[List.length_cons] at h1 h2;omega
theorem Qk (num:∀ a b,a<rows.length->b<rows.length->0<=Za rows a b/\Za rows a b<=2147483647)(h0:0<rows.length)(hl:last<rows.length)(hu:∀ x∈us,x<rows.length)(hlen:us.length<=24)(hne:us≠[]) : 0<=Xg rows us last/\Xg rows us last<=4294967294*30:=by
 have h1:=YE (f:=fun u=>(Zw rows us last u).1+(Zw rows us last u).2) (B:=4294967294) us fun y hy=>by
  have k0:=hu y hy;have k1:=num y last k0 hl;have k2:=num y 0 k0 h0;have h3:=XU (B:=2147483647) (f:=fun v=>Za rows y v) (us.filter fun j=>decide (y≠j)) (min (Za rows y last) (Za rows y 0),max (Za rows y last) (Za rows y 0)) (by simp only;omega) (by simp only;omega) fun v hv=>num y v k0 (hu v (List.mem_filter.1 hv).1)
  have h4:Zw rows us last y=(us.filter fun j=>decide (y≠j)).foldl (fun p v=>YC p (Za rows y v)) (min (Za rows y last) (Za rows y 0),max (Za rows y last) (Za rows y 0)):=rfl;rw[<-h4] at h3;omega
 have h2:=Qf (f:=fun u=>Za rows last u) (B:=2147483647) (l:=us) (fun x hx=>num last x hl (hu x hx)) hne (by omega);have h3:=Qf (f:=fun u=>Za rows u 0) (B:=2147483647) (l:=us) (fun x hx=>num x 0 (hu x hx) h0) hne (by omega);unfold Xg;omega
end
theorem ZbJ {m:Nat}(hm:m<18446744073709551616) : Zb m=[]↔m=0:=by
 constructor
 ·intro h
  by_cases e:m=0
  ·exact e
  ·have:=UT e hm
   rw[h] at this
   cases this
 ·rintro rfl
  exact Vd
theorem ZcD (x:Int)(u:World) : (Op.equalIn 10000 141 (.agg #[.int .u64 x,.int .u64 0]) (.agg #[.int .u64 0,.int .u64 0])).run Tryz.prog u=.ok (x==0) u:=by
 unfold Op.equalIn;simp only[Sem.run_bind,run_underlying Tryz.underlying141,Result.andThen_ok];have e9:List.range' 0 2 1=[0,1]:=rfl;simp only[Std.Legacy.Range.forIn_eq_forIn_range',Std.Legacy.Range.size,Nat.sub_zero,Nat.add_one_sub_one,Nat.div_one,e9,List.forIn_cons,List.forIn_nil]
 by_cases hx:x=0
 ·subst hx
  go_simp
 ·have hx':(x==0)=false:=by simpa using hx
  go_simp
theorem Zaz {base g:Nat}{rows:List (List Int)}{mi:Bool}(P:Option Addr)(pc:Nat)(p:List Int)(w:World)(hT:Tab w)(H:KernT w base g rows mi)(ok:RowsOk rows)(hP:RdI w P p)(lp:p.length<=1000000000) :
  Calls Tryz.prog 276 #[.pointer (some ⟨g,0,none⟩),.slice P p.length pc] w fun e w'=>e=.returned (.tuple #[.int .i64 (Ym rows mi p).1,.int .i64 (Ym rows mi p).2])/\Ext w w':=by
 have FR:=fun(W:World) (x:Ext w W)=>ZbG P pc p W (H.ext x) ok (hP.ext x) lp
 have l1:=ok.n1;have l2:=ok.n2;have H0:=H;obtain⟨C,cc,us,hB,_,hV,hR⟩:=H;have lus:Hid (us.length=rows.length):=hR.1;obtain⟨r,hr⟩:∃ r,Hid (Wu rows p=r):=⟨_,rfl⟩;rw[hr.out] at FR
 cases r with
 | none =>
  have e:Ym rows mi p=(0,1):=by unfold Ym;rw[hr.out]
  rw[e];simp only[Zdi,Uz] at FR;replace FR:=Hd FR;go_enter Tryz.func276,Tryz.ntmps276;go_wp2_with (fail);refine(FR.out _ (Ext.rf w)).mono ?_;rintro e w1 ⟨rfl,x1⟩;have X:=Hd (x1.alloc (.cells #[.int .u64 0,.int .u64 0,.int .i64 0,.int .i64 0] 308));go_wp2_with (fail);go_ret2;exact⟨rfl,by have:=X.out;first | exact x1 | exact this⟩
 | some s =>
  obtain⟨m,last,cost⟩:=s;obtain⟨pl,WO⟩:=Q9 l1 l2 hr.out;have hS:=WO.sub;have hla:=Uf l1 WO;have h0m:0∉Zb m:=fun h=>((WO.rest 0).1 h).1.2 rfl
  have hlen:(Zb m).length<=24:=by have:=WO.len;omega
  have num:∀ a b,a<rows.length->b<rows.length->0<=Za rows a b/\Za rows a b<=2147483647:=fun a b ha hb=>by
   have e1:rows[a]?=some rows[a]:=List.getElem?_eq_getElem ha;have e2:=ok.row _ (List.getElem_mem ha);have e3:(rows[a])[b]?=some (rows[a])[b]:=List.getElem?_eq_getElem (by omega);unfold Za;rw[getD_some e1,getD_some e3];exact ok.num _ (List.getElem_mem ha) _ (List.getElem_mem _)
  have bcost:0<=cost/\cost<=2147483647*24:=by
   have h1:=UH num pl 0 (by omega) fun x hx=>(WO.inn x hx).1
   have h2:=WO.len;rw[WO.cost];omega
  have RD:=Hd (fun(W:World) (x:Ext w W)=>JV m last cost ok hS h0m hla W (hT.ext x) (H0.ext x));have EN:=Hd (fun(W:World) (x:Ext w W)=>ZbI m last cost ok hS hla W (hT.ext x) (H0.ext x));have bred:=Vm num (by omega) hla hS.2 hlen;have e:Ym rows mi p=(cost+(if Zb m=[] then Za rows last 0 else if mi=true then max (ZH rows (Zb m) last) ((Xg rows (Zb m) last+1) / 2) else ZH rows (Zb m) last),0):=by unfold Ym;rw[hr.out]
  obtain⟨tot,ht⟩:∃ tot,Hid (tot=cost+(if Zb m=[] then Za rows last 0 else if mi=true then max (ZH rows (Zb m) last) ((Xg rows (Zb m) last+1) / 2) else ZH rows (Zb m) last)):=⟨_,rfl⟩;rw[e,<-ht.out];clear e;simp only[Zdi,Uz] at FR;replace FR:=Hd FR;replace hB:=Hd hB;replace hV:=Hd hV;replace hR:=Hd hR
  by_cases hm0:m=0
  ·subst hm0
   have erow:rows[last]?=some rows[last]:=List.getElem?_eq_getElem hla;obtain⟨D,d,hu,oD⟩:=hR.out.2 _ _ erow;have lrow:=ok.row _ (List.getElem_mem hla);have ec:Za rows last 0=(rows[last]).getD 0 0:=by unfold Za;rw[getD_some erow]
   have nb:=num last 0 hla (by omega);generalize rows[last]=row at *;have ht2:Hid (tot=cost+row.getD 0 0):=by
    have h:=ht.out;rw[if_pos Vd,ec] at h;exact h
   rw[ec] at nb;clear ht RD EN bred ec erow hr WO;have EQ:=fun u:World=>ZcD 0 u
   go_enter Tryz.func276,Tryz.ntmps276;go_wp2_with (fail);refine(FR.out _ (Ext.rf w)).mono ?_;rintro e w1 ⟨rfl,x1⟩;have X:=Hd (x1.alloc (.cells #[.int .u64 ((0:Nat):Int),.int .u64 0,.int .i64 last,.int .i64 cost] 308));obtain⟨ab,ao,vv,rfl,zv,cv,ev⟩:=(hV.out.read.ext X.out).at (j:=last) (by rw[lus.out];exact hla);obtain rfl:.slice D row.length d=vv:=by
    have h:=ev.out;rw[hu] at h;exact Option.some.inj h
   obtain⟨cb,co,y,rfl,zy,cy,ey,_⟩:=(oD.read.ext X.out).at (k:=0) (by omega);have ey2:=getD_some (d:=0) ey.out;rw[ey2] at nb;have ht3:Hid (tot=cost+y):=by
    have h:=ht2.out;rw[ey2] at h;exact h
   have cG:(w1.alloc (.cells #[.int .u64 ((0:Nat):Int),.int .u64 0,.int .i64 last,.int .i64 cost] 308)).cell? ⟨g,0,none⟩=some (.slice (some ⟨ab,ao,none⟩) rows.length cc):=(hB.out.ext X.out).cell 0;replace cy:(w1.alloc (.cells #[.int .u64 ((0:Nat):Int),.int .u64 0,.int .i64 last,.int .i64 cost] 308)).cell? ⟨cb,co,none⟩=some (.int .i64 y):=cy;have q1:(last:Int)<(rows.length:Int):=by omega
   have q2:(0:Int)<(row.length:Int):=by omega
   have hw:IntKind.i64.wrap (cost+y)=cost+y:=IntWalk.i64_in _ (by omega);clear ev ey ey2 ht2;have bW:Blk (w1.alloc (.cells #[.int .u64 ((0:Nat):Int),.int .u64 0,.int .i64 last,.int .i64 cost] 308)) w1.heap.size 308 #[.int .u64 ((0:Nat):Int),.int .u64 0,.int .i64 last,.int .i64 cost]:=.new rfl;have c2:=bW.cell 2;have c3:=bW.cell 3;simp only[List.getElem?_toArray,List.getElem?_cons_zero,List.getElem?_cons_succ,Int.natCast_zero] at c2 c3 cG cy;have X':=X;simp only[Int.natCast_zero] at X';go_wp2_with (fail)
   try simp only[Int.natCast_zero]
   generalize w1.alloc (.cells #[.int .u64 0,.int .u64 0,.int .i64 last,.int .i64 cost] 308)=w2 at *;go_quiet (fail);go_wp2_with (fail);go_ret2;rw[ht3.out];exact⟨rfl,X'.out.drewN _⟩
  ·have hne:Zb m≠[]:=fun h=>hm0 ((ZbJ hS.1).1 h)
   have bend:=Qk num (by omega) hla hS.2 hlen hne;have EQ:=fun u:World=>ZcD (m:Int) u
   have em:((m:Int)==0)=false:=by simp;omega
   rw[em] at EQ;obtain⟨rv,hrv⟩:∃ rv,Hid (ZH rows (Zb m) last=rv):=⟨_,rfl⟩;obtain⟨ev,hev⟩:∃ ev,Hid (Xg rows (Zb m) last=ev):=⟨_,rfl⟩;rw[hrv.out] at RD bred;rw[hev.out] at EN bend;have ht2:Hid (tot=cost+(if mi=true then max rv ((ev+1) / 2) else rv)):=by
    have h:=ht.out;rw[if_neg hne,hrv.out,hev.out] at h;exact h
   have B1:∀ W:World,Blk (W.alloc (.cells #[.int .u64 m,.int .u64 0,.int .i64 last,.int .i64 cost] 308)) W.heap.size 308 #[.int .u64 m,.int .u64 0,.int .i64 last,.int .i64 cost]:=fun W=>.new rfl
   replace B1:=Hd B1;clear ht hr WO hm0 hne num H0 hT;go_enter Tryz.func276,Tryz.ntmps276;go_wp2_with (fail);refine(FR.out _ (Ext.rf w)).mono ?_;rintro e w1 ⟨rfl,x1⟩;have X:=Hd (x1.alloc (.cells #[.int .u64 m,.int .u64 0,.int .i64 last,.int .i64 cost] 308));clear x1;go_wp2_with (fail);refine(RD.out _ X.out).mono ?_;rintro e w2 ⟨rfl,x2⟩;have X2:=Hd (X.out.tr x2);have bW:=(B1.out w1).ext x2;have c0:=bW.c0;have c1:=bW.c1;have c2:=bW.c2;have c3:=bW.c3;have cM:w2.cell? ⟨g,1,none⟩=some (.bool mi):=(hB.out.ext X2.out).cell 1;clear x2
   cases mi with
   | false =>
    have ht3:Hid (tot=cost+rv):=ht2.out;have hw:IntKind.i64.wrap (cost+rv)=cost+rv:=IntWalk.i64_in _ (by omega);go_wp2_with (fail);go_ret2;rw[ht3.out];exact⟨rfl,X2.out⟩
   | true =>
    have ht3:Hid (tot=cost+max rv ((ev+1) / 2)):=ht2.out;have hw1:IntKind.i64.wrap (ev+1)=ev+1:=IntWalk.i64_in _ (by omega);have hq:(ev+1).tdiv 2=(ev+1) / 2:=Int.tdiv_eq_ediv_of_nonneg (by omega);have hw2:IntKind.i64.wrap ((ev+1) / 2)=(ev+1) / 2:=IntWalk.i64_in _ (by omega);have hmax:(if rv<(ev+1) / 2 then(ev+1) / 2 else rv)=max rv ((ev+1) / 2):=by split<;>omega
    obtain⟨mv,hmv⟩:∃ mv,Hid (max rv ((ev+1) / 2)=mv):=⟨_,rfl⟩;have bmv:0<=mv/\mv<=4294967294*100:=by rw[<-hmv.out];omega
    rw[hmv.out] at ht3 hmax;have hw3:IntKind.i64.wrap (cost+mv)=cost+mv:=IntWalk.i64_in _ (by omega);replace bW:=Hd bW;go_wp2_with (fail);refine(EN.out _ X2.out).mono ?_;rintro e w3 ⟨rfl,x3⟩;have X3:=Hd (X2.out.tr x3);have k2:w3.cell? ⟨w1.heap.size,2,none⟩=some (.int .i64 last):=(bW.out.ext x3).cell 2;have k3:w3.cell? ⟨w1.heap.size,3,none⟩=some (.int .i64 cost):=(bW.out.ext x3).cell 3;clear x3;go_wp2_with (fail);go_ret2;rw[ht3.out];exact⟨rfl,X3.out⟩
end Go.Proofs.YtmojhhlcocjoaaaGreatDoor
namespace Go.Proofs.YtmojhhlcocjoaaaGreatDoor
open Go.RowKit Go.ChangeShapes Go.WideShapes Go.ChangeAt Go.Deep
theorem JW (i:InstP)(us:List Value)(w:World)(H:RInst w us i)(ok:SquareOk i) :
  Calls Tryz.prog 154 #[.agg (List.toArray us)] w fun e w'=>e=.returned (.bool (Xy i.cost))/\Ext w w':=by
 have rok:=Yx ok;have n24:=rok.n2;have hnn:i.n=(i.cost.length:Int):=ok.len.symm;clear ok;obtain⟨kind,nn,cap,xw,xv,co⟩:=i;obtain⟨A,a,B,b,D,d,rfl,-,-,⟨hC,-,-⟩⟩:=H;simp only at *;subst hnn;have B1:Hid (Blk (w.alloc (.cells #[.int .i64 kind,.int .i64 co.length,.int .i64 cap,.slice A xw.length a,.slice B xv.length b,.slice D co.length d] 25)) w.heap.size 25 #[.int .i64 kind,.int .i64 co.length,.int .i64 cap,.slice A xw.length a,.slice B xv.length b,.slice D co.length d]):=.new rfl;replace hC:=Hd hC;replace rok:=Hd rok;obtain⟨mm,hmm⟩:∃ mm,Hid (Xy co=mm):=⟨_,rfl⟩;rw[hmm.out];go_enter Tryz.func154,Tryz.ntmps154;have X1:Hid (Ext w (w.alloc (.cells #[.int .i64 kind,.int .i64 co.length,.int .i64 cap,.slice A xw.length a,.slice B xv.length b,.slice D co.length d] 25))):=(Ext.rf _).alloc _;go_wp2_with (fail);generalize w.alloc (.cells #[.int .i64 kind,.int .i64 co.length,.int .i64 cap,.slice A xw.length a,.slice B xv.length b,.slice D co.length d] 25)=w1 at *;have BB:=B1;go_loopw [3] (fun v wr=>∃ k:Nat,v=.int .i64 k/\k<=co.length/\Hid (∀ x,x<k->∀ y,y<x->Za co x y=Za co y x)/\Hid (Ext w1 wr)) (fun v _=>co.length-(intOf v).toNat)
 case atStart=>exact⟨0,rfl,by omega,fun x hx=>absurd hx (Nat.not_lt_zero _),Ext.rf _⟩
 case round =>
  obtain⟨wo,rfl⟩:∃ wo:World,wo=wr:=⟨_,rfl⟩;obtain⟨k,rfl,hk,HS,Y⟩:=hrel;have cN:wo.cell? ⟨w.heap.size,1,none⟩=some (.int .i64 co.length):=(BB.out.ext Y.out).cell 1
  by_cases hlt:k<co.length
  ·have XW:Hid (Ext w wo):=X1.out.tr Y.out
   obtain⟨cb,cof,D',row,d',rfl,zb,cD,er,_,rD,iD,ld,md⟩:=(hC.out.ext XW.out fun _ _ h=>h.ext XW.out).ints hlt;have lrow:=rok.out.row row (List.mem_of_getElem? er.out);have q1:(k:Int)<(co.length:Int):=by omega
   replace er:=Hd er.out;replace rD:=Hd rD;go_wp2_with (fail);go_loopw [4] (fun v wr=>∃ j:Nat,v=.int .i64 j/\j<=k/\Hid (∀ y,y<j->Za co k y=Za co y k)/\Hid (Ext wo wr)) (fun v _=>k-(intOf v).toNat)
   case atStart=>exact⟨0,rfl,by omega,fun y hy=>absurd hy (Nat.not_lt_zero _),Ext.rf _⟩
   case round =>
    obtain⟨wi,rfl⟩:∃ wi:World,wi=wr:=⟨_,rfl⟩;obtain⟨j,rfl,hj,HJ,Z⟩:=hrel;have XZ:=Hd (Ext.tr (a:=w) (XW.out) Z.out)
    by_cases hlj:j<k
    ·obtain⟨cb',cof',D2,row2,d2,hq,zb2,cD2,er2,_,rD2,iD2,ld2,md2⟩:=(hC.out.ext XZ.out fun _ _ h=>h.ext XZ.out).ints (r:=j) (by omega)
     obtain⟨rfl,rfl⟩:cb=cb'/\cof=cof':=by simpa using hq
     have cDk:=(Z.out.cells.1 _ (cof+k) zb).trans cD;have lrow2:=rok.out.row row2 (List.mem_of_getElem? er2.out);obtain⟨rb,ro,x,rfl,zx,cx,ex,_⟩:=(rD.out.ext Z.out).at (k:=j) (by omega);obtain⟨rb2,ro2,y,rfl,zy,cy,ey,_⟩:=rD2.at (k:=k) (by omega);have d5':wi.cell? ⟨w.heap.size,5,none⟩=some (.slice (some ⟨cb,cof,none⟩) co.length d):=((BB.out.ext Y.out).ext Z.out).cell 5;have exy:Hid (Za co k j=x/\Za co j k=y):=by
      refine⟨?_,?_⟩
      ·unfold Za;rw[getD_some er.out,getD_some ex.out]
      ·unfold Za;rw[getD_some er2.out,getD_some ey.out]
     have q2:(j:Int)<(co.length:Int):=by omega
     have q3:(j:Int)<(row.length:Int):=by omega
     have q4:(k:Int)<(row2.length:Int):=by omega
     replace ex:=Hd ex.out;replace ey:=Hd ey.out;replace er2:=Hd er2.out;replace rD2:=Hd rD2;have q5:(k:Int)<(co.length:Int):=by omega
     clear hq
     by_cases hxy:x=y
     ·subst hxy
      have t0:(x != x)=false:=by simp
      have NX:Hid (∀ yy,yy<j+1->Za co k yy=Za co yy k):=fun yy hy=>by
       by_cases e:yy=j
       ·subst e;rw[exy.out.1,exy.out.2]
       ·exact HJ.out yy (by omega)
      go_wp2_with (fail);go_quiet (fail);go_wp2_with (fail);go_roundw
      case rel=>exact⟨j+1,by go_num,by omega,NX,Z.out.drewN _⟩
      case measure=>simp[intOf];omega
     ·have t0:(x != y)=true:=by simpa using hxy
      have HM:Hid (mm=false):=Hd (by
       rw[<-hmm.out];exact U8 hlt hlj (by rw[exy.out.1,exy.out.2];exact hxy))
      go_wp2_with (fail);go_quiet (fail);go_wp2_with (fail);go_ret;rw[HM.out];exact⟨rfl,XZ.out.drewN _⟩
    ·obtain rfl:j=k:=by omega
     have q2:¬(j:Int)<(j:Int):=by omega
     have HS3:Hid (∀ x,x<j+1->∀ y,y<x->Za co x y=Za co y x):=fun x hx=>by
      by_cases e:x=j
      ·subst e;exact HJ.out
      ·exact HS.out x (by omega)
     have YZ:=Hd (Y.out.tr Z.out);go_wp2_with (fail);go_roundw
     case rel=>exact⟨j+1,by go_num,by omega,HS3,YZ.out⟩
     case measure=>simp[intOf];omega
  ·obtain rfl:k=co.length:=by omega
   have HM:Hid (mm=true):=Hd (by
    rw[<-hmm.out];exact QM HS.out)
   have q2:¬(co.length:Int)<(co.length:Int):=by omega
   have XW:=Hd (X1.out.tr Y.out);go_wp2_with (fail);go_ret;rw[HM.out];exact⟨rfl,XW.out⟩
theorem YO {fn:Func}{t u v x:Tmp}(h:fn.results=#[.tmp t,.tmp u,.tmp v,.tmp x])(tmps:Array Value)(P:Program)(w:World) :
  (results fn tmps).run P w=.ok (.tuple #[tmps.getD t undef,tmps.getD u undef,tmps.getD v undef,tmps.getD x undef]) w:=by
 simp[results,h]
abbrev Zdy : Array Value:=#[.bool true,.bool false,.bool false,.bool false,.bool false,.bool false,.bool false,.bool false,.bool false,.bool false,.bool false,.bool false,.bool false,.bool false,.bool false,.bool false,.bool false,.bool false,.bool false,.bool false,.bool false,.bool false,.bool false,.bool false]
theorem ZaA {n:Nat}(h1:1<=n)(h:n<=24) : Yk n (XH n)=Zdy:=by
 unfold XH;rw[<-V8 (Yb h).1 (by omega),Qc h]
 rfl
def VN (m last:Nat)(cost:Int)(w:World)(e:Ending)(w':World) : Prop:=∃ A c,e=.returned (.tuple #[.slice A (Zb m).length c,.int .i64 last,.int .i64 cost,.bool true])/\OwI w' w.heap.size A c (Zl (Zb m))/\Ext w w'
def ZcE (r:Option (Nat×Nat×Int))(w:World)(e:Ending)(w':World) : Prop:=match r with
 | none=>e=.returned (.tuple #[.slice none 0 0,.int .i64 0,.int .i64 0,.bool false])/\Ext w w'
 | some (m,last,cost)=>VN m last cost w e w'
theorem ZbK (i:InstP)(us:List Value)(P:Option Addr)(pc:Nat)(p:List Int)(w:World)(H:RInst w us i)(n:Nat)(hn:i.n=n)(hcn:i.cost.length=n)(rok:RowsOk i.cost)(h1:1<=n)(h24:n<=24)(hP:RdI w P p)(lp:p.length<=1000000000) :
  Calls Tryz.prog 153 #[.agg (List.toArray us),.slice P p.length pc] w (ZcE (Wu i.cost p) w):=by
 obtain⟨kind,nn,cap,xw,xv,co⟩:=i;obtain⟨A,a,B,b,D,d,rfl,-,-,⟨hC,-,-⟩⟩:=H;simp only at *;subst hn;replace hC:=Hd hC;replace rok:=Hd rok;replace hcn:=Hd hcn;have UF:Hid (SubN n (XH n)):=Uc h24;obtain⟨r,hr⟩:∃ r,Hid (Wu co p=r):=⟨_,rfl⟩;rw[hr.out];unfold Wu at hr;rw[hcn.out] at hr;replace hP:=Hd hP;have B1:Hid (Blk (w.alloc (.cells #[.int .i64 kind,.int .i64 n,.int .i64 cap,.slice A xw.length a,.slice B xv.length b,.slice D co.length d] 25)) w.heap.size 25 #[.int .i64 kind,.int .i64 n,.int .i64 cap,.slice A xw.length a,.slice B xv.length b,.slice D co.length d]):=.new rfl
 by_cases hlen:n-1<p.length
 ·have hr2:Hid (r=none):=by
   have h:=hr.out;rw[if_pos hlen] at h;exact h.symm
  have hlb:(n:Int)-1<(p.length:Int):=by omega
  have hw:IntKind.i64.wrap ((n:Int)-1)=(n:Int)-1:=IntWalk.i64_in _ (by omega);rw[hr2.out];unfold ZcE;clear hr hr2;go_enter Tryz.func153,Tryz.ntmps153;go_wp2_with (fail)
  ((try simp only[Exit.inBlock,Exit.then]);refine bodyPost_ret (YO rfl _ _ _) rfl ?_)
  exact⟨rfl,by(repeat (first | assumption | exact Ext.rf _ | apply Ext.drew | apply Ext.drewN | apply Ext.alloc))⟩
 ·have hr2:Hid (Xw co (XH n) 0 0 p=r):=by
   have h:=hr.out;rw[if_neg hlen] at h;exact h
  have hlb:¬(n:Int)-1<(p.length:Int):=by omega
  have hw:IntKind.i64.wrap ((n:Int)-1)=(n:Int)-1:=IntWalk.i64_in _ (by omega);obtain⟨m0,hm0⟩:∃ m0,Hid (m0=XH n):=⟨XH n,by exact rfl⟩;have FU2:Hid (Yk n m0=Zdy):=by rw[hm0.out];exact ZaA h1 h24
  rw[<-hm0.out] at hr2 UF;have START:Hid (Ext w ((w.alloc (.cells #[.int .i64 kind,.int .i64 n,.int .i64 cap,.slice A xw.length a,.slice B xv.length b,.slice D co.length d] 25)).alloc (.cells #[.bool true,.bool false,.bool false,.bool false,.bool false,.bool false,.bool false,.bool false,.bool false,.bool false,.bool false,.bool false,.bool false,.bool false,.bool false,.bool false,.bool false,.bool false,.bool false,.bool false,.bool false,.bool false,.bool false,.bool false] 228))/\Blk ((w.alloc (.cells #[.int .i64 kind,.int .i64 n,.int .i64 cap,.slice A xw.length a,.slice B xv.length b,.slice D co.length d] 25)).alloc (.cells #[.bool true,.bool false,.bool false,.bool false,.bool false,.bool false,.bool false,.bool false,.bool false,.bool false,.bool false,.bool false,.bool false,.bool false,.bool false,.bool false,.bool false,.bool false,.bool false,.bool false,.bool false,.bool false,.bool false,.bool false] 228)) w.heap.size 25 #[.int .i64 kind,.int .i64 n,.int .i64 cap,.slice A xw.length a,.slice B xv.length b,.slice D co.length d]/\Blk ((w.alloc (.cells #[.int .i64 kind,.int .i64 n,.int .i64 cap,.slice A xw.length a,.slice B xv.length b,.slice D co.length d] 25)).alloc (.cells #[.bool true,.bool false,.bool false,.bool false,.bool false,.bool false,.bool false,.bool false,.bool false,.bool false,.bool false,.bool false,.bool false,.bool false,.bool false,.bool false,.bool false,.bool false,.bool false,.bool false,.bool false,.bool false,.bool false,.bool false] 228)) (w.heap.size+1) 228 (Yk n m0)) :=
   ⟨((Ext.rf _).alloc _).alloc _,B1.out.alloc _,by rw[FU2.out];exact .new (by simp)⟩
  clear hr;go_enter Tryz.func153,Tryz.ntmps153;go_wp2_with (fail);go_loopw [11,10,9] (fun v cv lv wr=>∃ (k m last:Nat) (cost:Int),v=.int .i64 k/\cv=.int .i64 cost/\lv=.int .i64 last/\k<=p.length/\Hid (Xw co m last cost (p.drop k)=r)/\Hid (SubN n m)/\Hid (last<n/\0<=cost/\cost<=2147483647*(k:Int))/\Hid (Ext w wr/\Blk wr w.heap.size 25 #[.int .i64 kind,.int .i64 n,.int .i64 cap,.slice A xw.length a,.slice B xv.length b,.slice D co.length d]/\Blk wr (w.heap.size+1) 228 (Yk n m))) (fun v _ _ _=>p.length-(intOf v).toNat)
  case atStart=>exact⟨0,m0,0,0,rfl,rfl,rfl,by omega,hr2,UF,by exact(show 0<n/\(0:Int)<=0/\(0:Int)<=2147483647*((0:Nat):Int) from⟨by omega,by omega,by omega⟩),START⟩
  case round =>
   obtain⟨wo,rfl⟩:∃ wo:World,wo=wr:=⟨_,rfl⟩;clear START FU2;obtain⟨k,m,last,cost,rfl,rfl,rfl,hk,HF,HU,HL,HH⟩:=hrel;obtain⟨Y,bI,bU⟩:=HH.out;have cN:=bI.c1;replace Y:=Hd Y;replace bI:=Hd bI;replace bU:=Hd bU;clear HH
   by_cases hlt:k<p.length
   ·obtain⟨pb,po,c,rfl,zp,cp,ep,dp⟩:=(hP.out.ext Y.out).at hlt
    have HF2:Hid (r=if 0<=c/\c<64/\m.testBit c.toNat=true then Xw co (Ye m c.toNat) c.toNat (cost+Za co last c.toNat) (p.drop (k+1)) else none):=by
     have h:=HF.out;rw[dp.out,Qi] at h;exact h.symm
    have q1:(k:Int)<(p.length:Int):=by omega
    clear HF dp
    by_cases c0:c<0
    ·have HN:Hid (r=none):=by
      have h:=HF2.out;rw[if_neg (by omega)] at h;exact h
     have t0:decide (c<0)=true:=decide_eq_true c0;go_wp2_with (fail);go_quiet (fail);go_wp2_with (fail)
     ((try simp only[Exit.inBlock,Exit.then]);refine bodyPost_ret (YO rfl _ _ _) rfl ?_)
     rw[HN.out];exact⟨rfl,Y.out.drewN _⟩
    ·have t0:decide (c<0)=false:=decide_eq_false c0
     obtain⟨ci,rfl⟩:∃ ci:Nat,c=(ci:Int):=⟨c.toNat,by omega⟩;rw[Int.toNat_natCast] at HF2;clear c0 t0
     by_cases c1:n<=ci
     ·have HN:Hid (r=none):=by
       have h:=HF2.out;rw[if_neg (by rintro ⟨_,h1,h2⟩;have:=HU.out.2 ci (Z3.2 ⟨by omega,h2⟩);omega)] at h;exact h
      have t1:decide (n<=ci)=true:=decide_eq_true c1;have t2:decide ((n:Int)<=(ci:Int))=true:=decide_eq_true (by omega);go_wp2_with (fail);go_quiet (fail);go_wp2_with (fail)
      ((try simp only[Exit.inBlock,Exit.then]);refine bodyPost_ret (YO rfl _ _ _) rfl ?_)
      rw[HN.out];exact⟨rfl,Y.out.drewN _⟩
     ·have t1:decide (n<=ci)=false:=decide_eq_false c1
      have t2:decide ((n:Int)<=(ci:Int))=false:=decide_eq_false (by omega);have cin:ci<n:=by omega
      have ci24:(ci:Int)<24:=by omega
      have dn:decide (ci<n)=true:=decide_eq_true cin
      cases hb:m.testBit ci with
      | false =>
       have HN:Hid (r=none):=by
        have h:=HF2.out;rw[if_neg (by rintro ⟨_,h1,h2⟩;rw[hb] at h2;cases h2)] at h;exact h
       have cu:wo.cell? ⟨w.heap.size+1,ci,none⟩=some (.bool true):=by rw[bU.out.cell,Yl (by omega),dn,hb];rfl
       clear HF2 hb dn;go_wp2_with (fail);go_quiet (fail);go_wp2_with (fail)
       ((try simp only[Exit.inBlock,Exit.then]);refine bodyPost_ret (YO rfl _ _ _) rfl ?_)
       rw[HN.out];exact⟨rfl,Y.out.drewN _⟩
      | true =>
       have HF3:Hid (Xw co (Ye m ci) ci (cost+Za co last ci) (p.drop (k+1))=r):=by
        have h:=HF2.out;rw[if_pos ⟨by omega,by omega,hb⟩] at h;exact h.symm
       have cu:wo.cell? ⟨w.heap.size+1,ci,none⟩=some (.bool false):=by rw[bU.out.cell,Yl (by omega),dn,hb];rfl
       have fu:=bU.out.free ci;have HU2:=Hd (HU.out.clr ci);have NX:Hid (∀ q,Ext w ((wo.drewN q).setCell ⟨w.heap.size+1,ci,none⟩ (.bool true))/\Blk ((wo.drewN q).setCell ⟨w.heap.size+1,ci,none⟩ (.bool true)) w.heap.size 25 #[.int .i64 kind,.int .i64 n,.int .i64 cap,.slice A xw.length a,.slice B xv.length b,.slice D co.length d]/\Blk ((wo.drewN q).setCell ⟨w.heap.size+1,ci,none⟩ (.bool true)) (w.heap.size+1) 228 (Yk n (Ye m ci))):=by
        intro q;refine⟨(Y.out.drewN q).setNew (by simp) _,(bI.out.drewN q).far (by simp) _,?_⟩;rw[<-V8 HU.out.1 cin];exact(bU.out.drewN q).set ci _
       clear HF2 hb dn;generalize Ye m ci=m2 at *;go_wp2_with (fail);go_quiet (fail);go_wp2_with (fail);obtain⟨NY,NI,NU⟩:=NX.out nq;clear cu fu cN cp zp NX;generalize (wo.drewN nq).setCell ⟨w.heap.size+1,ci,none⟩ (.bool true)=w2 at *;have hlc:last<co.length:=by have:=HL.out.1;have:=hcn.out;omega
       obtain⟨cb,cof,D',row,d',hDq,zb,cD,er,_,rD,_,_,_⟩:=(hC.out.ext NY fun _ _ h=>h.ext NY).ints (r:=last) hlc;subst hDq;have hmem:=List.mem_of_getElem? er.out;have lrow:=rok.out.row row hmem;have nrow:=rok.out.num row hmem;obtain⟨rb,ro,y,rfl,zx,cx,ex,_⟩:=rD.at (k:=ci) (by have:=hcn.out;omega);obtain⟨pb2,po2,c2,hpq,zp2,cp2,ep2,_⟩:=(hP.out.ext NY).at hlt;obtain⟨rfl,rfl⟩:pb=pb2/\po=po2:=by simpa using hpq
       obtain rfl:(ci:Int)=c2:=by
        have h:=ep2.out;rw[ep.out] at h;exact Option.some.inj h
       have ny:=nrow y (List.mem_of_getElem? ex.out);have ecost:Za co last ci=y:=by unfold Za;rw[getD_some er.out,getD_some ex.out]
       rw[ecost] at HF3;have HL2:Hid (ci<n/\0<=cost+y/\cost+y<=2147483647*((k+1:Nat):Int)):=by
        have h:=HL.out;have:ci<n/\0<=cost+y/\cost+y<=2147483647*((k+1:Nat):Int):=⟨cin,by omega,by omega⟩;exact this
       have hw2:IntKind.i64.wrap (cost+y)=cost+y:=IntWalk.i64_in _ (by have:=HL2.out;omega);have cI5:=NI.c5;have q6:(last:Int)<(co.length:Int):=by omega
       have q7:(ci:Int)<(row.length:Int):=by have:=hcn.out;omega
       have NN:Hid (∀ q,Ext w (w2.drewN q)/\Blk (w2.drewN q) w.heap.size 25 #[.int .i64 kind,.int .i64 n,.int .i64 cap,.slice A xw.length a,.slice B xv.length b,.slice (some ⟨cb,cof,none⟩) co.length d]/\Blk (w2.drewN q) (w.heap.size+1) 228 (Yk n m2)):=fun q=>⟨NY.drewN q,NI.drewN q,NU.drewN q⟩
       clear ex er rD hmem lrow nrow ecost hlc NY NI NU ep ep2 hpq;go_quiet (fail);go_wp2_with (fail);go_roundw
       case rel=>exact⟨k+1,m2,ci,cost+y,by go_num,rfl,rfl,by omega,HF3,HU2,HL2,NN.out _⟩
       case measure=>simp[intOf];omega
   ·have HF2:Hid (some (m,last,cost)=r):=by
     have h:=HF.out;rw[show p.drop k=[] from List.drop_of_length_le (by omega)] at h;exact h
    have q1:¬(k:Int)<(p.length:Int):=by omega
    have HM:Hid (Zb m=Z4 m n):=Ur HU.out (by omega);have X9:=Hd (Y.out.alloc (.cells #[] 3));have bI9:=Hd (bI.out.alloc (.cells #[] 3));have bU9:=Hd (bU.out.alloc (.cells #[] 3));have zY:=Y.out.size;have o9:Hid (OwI (wo.alloc (.cells #[] 3)) w.heap.size (some ⟨wo.heap.size,0,none⟩) 0 (Zl (Z4 m 0))):=OwI.new (xs:=[]) rfl zY (by simp[maxLen]);clear HF HU hr2;go_wp2_with (fail);go_loopw [13,12] (fun v o wr=>∃ (k:Nat) (A':Option Addr) (c':Nat),v=.int .i64 k/\o=.slice A' (Z4 m k).length c'/\k<=n/\Hid (OwI wr w.heap.size A' c' (Zl (Z4 m k)))/\Hid (Ext w wr)/\Hid (Blk wr w.heap.size 25 #[.int .i64 kind,.int .i64 n,.int .i64 cap,.slice A xw.length a,.slice B xv.length b,.slice D co.length d])/\Hid (Blk wr (w.heap.size+1) 228 (Yk n m))) (fun v _ _=>n-(intOf v).toNat)
    case atStart=>exact⟨0,_,_,rfl,rfl,by omega,o9,X9,bI9,bU9⟩
    case round =>
     obtain⟨wi,rfl⟩:∃ wi:World,wi=wr:=⟨_,rfl⟩;obtain⟨j,A',c',rfl,rfl,hj,oJ,YJ,bIJ,bUJ⟩:=hrel;clear X9 bI9 bU9 o9;have cN2:=bIJ.out.c1;have US:=Hd (QN m j);have UL:=JK m j
     by_cases hjn:j<n
     ·have j24:(j:Int)<24:=by omega
      have dn:decide (j<n)=true:=decide_eq_true hjn;have q3:(j:Int)<(n:Int):=by omega
      cases hb:m.testBit j with
      | false =>
       have cu:wi.cell? ⟨w.heap.size+1,j,none⟩=some (.bool true):=by rw[bUJ.out.cell,Yl (by omega),dn,hb];rfl
       have HE:Hid (Z4 m (j+1)=Z4 m j):=by
        have h:=US.out;rw[hb,if_neg (by simp),List.append_nil] at h;exact h
       clear US hb dn;go_wp2_with (fail);go_roundw
       case rel=>exact⟨j+1,A',c',by go_num,by rw[HE.out],by omega,by rw[HE.out];exact oJ,YJ,bIJ,bUJ⟩
       case measure=>simp[intOf];omega
      | true =>
       have cu:wi.cell? ⟨w.heap.size+1,j,none⟩=some (.bool false):=by rw[bUJ.out.cell,Yl (by omega),dn,hb];rfl
       have HE:Hid (Z4 m (j+1)=Z4 m j++[j]):=by
        have h:=US.out;rw[hb,if_pos rfl] at h;exact h
       have HE2:Hid (Zl (Z4 m (j+1))=Zl (Z4 m j)++[(j:Int)]):=Hd (by rw[HE.out];simp[Zl]);have HL:Hid ((Z4 m (j+1)).length=(Z4 m j).length+1):=Hd (by rw[HE.out];simp);have zJ:=YJ.out.size;have e0:(Z4 m j).length=(Zl (Z4 m j)).length:=(Zq _).symm;have l0:(Zl (Z4 m j)).length<=24:=by rw[Zq];omega
       rw[e0];clear US hb dn UL e0 HE;replace l0:=Hd l0;go_wp2_with (at_builtin;refine Ya _ rfl _ _ rfl w.heap.size A' (Zl (Z4 m j)).length c' (Zl (Z4 m j)) [(j:Int)] (some ⟨wi.heap.size,0,none⟩) 1 rfl rfl rfl ?_ ?_ ?_ ?_ ?_;(exact oJ.out.ext ((Ext.rf _).alloc _));(exact .blk (.new (by simp)) rfl);(have:=l0.out;simp;omega);(first | exact Nat.le_refl _ | omega | (focus (simp;try omega)));rintro A5 c5 w5 o5 g5 _;have X5:=Hd (Ext.grow (YJ.out.alloc _) g5 (fun k hk=>(oJ.out.lt k hk).1));have bI5:Hid (Blk w5 w.heap.size 25 #[.int .i64 kind,.int .i64 n,.int .i64 cap,.slice A xw.length a,.slice B xv.length b,.slice D co.length d]):=(bIJ.out.alloc _).mod (Mod.grown (S:=fun k=>bl A'=some k) g5 (fun _ h=>h)) (fun h=>absurd rfl (oJ.out.ne bIJ.out (by decide) _ h));have bU5:Hid (Blk w5 (w.heap.size+1) 228 (Yk n m)):=(bUJ.out.alloc _).mod (Mod.grown (S:=fun k=>bl A'=some k) g5 (fun _ h=>h)) (fun h=>absurd rfl (oJ.out.ne bUJ.out (by decide) _ h));rw[<-HE2.out] at o5;replace o5:=Hd o5;clear g5);go_roundw
       case rel=>exact⟨j+1,A5,c5,by go_num,by rw[HL.out,Zq],by omega,o5,X5,bI5,bU5⟩
       case measure=>simp[intOf];omega
     ·obtain rfl:j=n:=by omega
      have q3:¬(j:Int)<(j:Int):=by omega
      have FIN:Hid (VN m last cost w (.returned (.tuple #[.slice A' (Z4 m j).length c',.int .i64 last,.int .i64 cost,.bool true])) wi):=⟨A',c',by rw[HM.out],by rw[HM.out];exact oJ.out,YJ.out⟩;clear US UL;go_wp2_with (fail)
      ((try simp only[Exit.inBlock,Exit.then]);refine bodyPost_ret (YO rfl _ _ _) rfl ?_)
      rw[<-HF2.out];exact FIN.out
theorem JX {rows:List (List Int)}{us:List Nat}{last:Nat}(num:∀ a b,a<rows.length->b<rows.length->0<=Za rows a b/\Za rows a b<=2147483647)(h0:0<rows.length)(hl:last<rows.length)(hu:∀ x∈us,x<rows.length){y:Nat}(k0:y<rows.length) : (0<=(Zw rows us last y).1/\(Zw rows us last y).1<=2147483647)/\0<=(Zw rows us last y).2/\(Zw rows us last y).2<=2147483647:=by
 have k1:=num y last k0 hl;have k2:=num y 0 k0 h0;exact XU (B:=2147483647) (f:=fun v=>Za rows y v) (us.filter fun j=>decide (y≠j)) (min (Za rows y last) (Za rows y 0),max (Za rows y last) (Za rows y 0)) (by simp only;omega) (by simp only;omega) fun v hv=>num y v k0 (hu v (List.mem_filter.1 hv).1)
theorem JY (i:InstP)(us:List Value)(P:Option Addr)(pc:Nat)(l:List Nat)(last:Nat)(w:World)(H:RInst w us i)(rok:RowsOk i.cost)(hP:RdI w P (Zl l))(hl:∀ x∈l,x<i.cost.length)(hnd:l.Nodup)(hlen:l.length<=24)(hla:last<i.cost.length) :
  Calls Tryz.prog 155 #[.agg (List.toArray us),.slice P l.length pc,.int .i64 last] w fun e w'=>e=.returned (.int .i64 (Xg i.cost l last))/\Ext w w':=by
 have h0:=rok.n1;obtain⟨kind,nn,cap,xw,xv,co⟩:=i;obtain⟨A,a,B,b,D,d,rfl,-,-,⟨hC,-,-⟩⟩:=H;simp only at *;obtain⟨cb,cof,_,_,_,rfl,_,_⟩:=Vw rok hC (r:=0) (c:=0) (by omega) (by omega);have num:=WH rok;have CA:=Hd (fun(W:World) (x:Ext w W) (r c:Nat) (hr:r<co.length) (hc:c<co.length)=>Q1 rok (hC.ext x fun _ _ h=>h.ext x) hr hc);have B1:Hid (Blk (w.alloc (.cells #[.int .i64 kind,.int .i64 nn,.int .i64 cap,.slice A xw.length a,.slice B xv.length b,.slice (some ⟨cb,cof,none⟩) co.length d] 25)) w.heap.size 25 #[.int .i64 kind,.int .i64 nn,.int .i64 cap,.slice A xw.length a,.slice B xv.length b,.slice (some ⟨cb,cof,none⟩) co.length d]):=.new rfl;have X0:Hid (Ext w (w.alloc (.cells #[.int .i64 kind,.int .i64 nn,.int .i64 cap,.slice A xw.length a,.slice B xv.length b,.slice (some ⟨cb,cof,none⟩) co.length d] 25))):=(Ext.rf _).alloc _;have bsum:Hid (∀ k,0<=Zi ((l.take k).map fun u=>(Zw co l last u).1+(Zw co l last u).2)/\Zi ((l.take k).map fun u=>(Zw co l last u).1+(Zw co l last u).2)<=4294967294*24):=fun k=>by
  have h1:=YE (f:=fun u=>(Zw co l last u).1+(Zw co l last u).2) (B:=4294967294) (l.take k) fun y hy=>by
   have:=JX num (by omega) hla hl (hl y (List.mem_of_mem_take hy));omega
  have h2:(l.take k).length<=24:=by rw[List.length_take];omega
  omega
 have bfr:Hid (∀ k (f:Nat->Int),(∀ x,x<co.length->0<=f x/\f x<=2147483647)->-2147483647<=Zk f (-1) (l.take k)/\Zk f (-1) (l.take k)<=2147483647):=fun k f hf =>
  Yc (fun c hc=>by have:=hf c (hl c (List.mem_of_mem_take hc));omega) (by omega) (by omega)
 replace hC:=Hd hC;replace hP:=Hd hP;replace hl:=Hd hl;replace hnd:=Hd hnd;replace num:=Hd num;replace rok:=Hd rok;go_enter Tryz.func155,Tryz.ntmps155;go_wp2_with (fail);generalize w.alloc (.cells #[.int .i64 kind,.int .i64 nn,.int .i64 cap,.slice A xw.length a,.slice B xv.length b,.slice (some ⟨cb,cof,none⟩) co.length d] 25)=w1 at *;go_loopw [7,8,9,10] (fun s fr tq v wr=>∃ k:Nat,v=.int .i64 k/\s=.int .i64 (Zi ((l.take k).map fun u=>(Zw co l last u).1+(Zw co l last u).2))/\fr=.int .i64 (Zk (fun u=>Za co last u) (-1) (l.take k))/\tq=.int .i64 (Zk (fun u=>Za co u 0) (-1) (l.take k))/\k<=l.length/\Hid (Ext w1 wr)) (fun _ _ _ v _=>l.length-(intOf v).toNat)
 case atStart=>exact⟨0,rfl,rfl,rfl,rfl,by omega,Ext.rf _⟩
 case round =>
  obtain⟨wo,rfl⟩:∃ wo:World,wo=wr:=⟨_,rfl⟩;obtain⟨k,rfl,rfl,rfl,rfl,hk,Y⟩:=hrel
  by_cases hlt:k<l.length
  ·obtain⟨u,hux⟩:∃ u,Hid (u=l[k]):=⟨l[k],rfl⟩
   have hu:u<co.length:=by rw[hux.out];exact hl.out _ (List.getElem_mem hlt)
   have euk:l[k]?=some u:=by rw[hux.out];exact List.getElem?_eq_getElem hlt
   have etk:l.take (k+1)=l.take k++[u]:=by rw[List.take_add_one,euk];rfl
   obtain⟨pb,po,xu,rfl,zp,cp,ep,_⟩:=(hP.out.ext (X0.out.tr Y.out)).at (k:=k) (by rw[Zq];exact hlt);have exu:xu=(u:Int):=by
    have h:=ep.out;rw[Yr euk] at h;exact(Option.some.inj h).symm
   subst exu;have zp1:pb<wo.heap.size:=zp;have cp1:=cp;obtain⟨rb1,ro1,d1,c11,c12⟩:=CA.out _ (X0.out.tr Y.out) u last hu hla;obtain⟨rb2,ro2,d2,c21,c22⟩:=CA.out _ (X0.out.tr Y.out) u 0 hu h0;obtain⟨⟨rfl,rfl⟩,rfl⟩:(rb1=rb2/\ro1=ro2)/\d1=d2:=by
    have h:=c11.symm.trans c21
    simpa using h
   have b1:=num.out u last hu hla;have b2:=num.out u 0 hu h0;have b3:=num.out last u hla hu;obtain⟨y1,ey1⟩:∃ y1,Hid (Za co u last=y1):=⟨_,rfl⟩;obtain⟨y2,ey2⟩:∃ y2,Hid (Za co u 0=y2):=⟨_,rfl⟩;obtain⟨y3,ey3⟩:∃ y3,Hid (Za co last u=y3):=⟨_,rfl⟩;rw[ey1.out] at b1 c12;rw[ey2.out] at b2 c22;rw[ey3.out] at b3;replace c22:wo.cell? ⟨rb1,ro1,none⟩=some (.int .i64 y2):=c22;obtain⟨pp,hpp⟩:∃ pp,Hid (Zw co l last u=pp):=⟨_,rfl⟩;have bpp:=JX num.out (by omega) hla hl.out hu (us:=l);rw[hpp.out] at bpp;have bs:=bsum.out k;have eS:Hid (Zi ((l.take (k+1)).map fun u=>(Zw co l last u).1+(Zw co l last u).2)=Zi ((l.take k).map fun u=>(Zw co l last u).1+(Zw co l last u).2)+pp.1+pp.2):=Hd (by
    rw[etk,List.map_append,List.map_cons,List.map_nil,YU,hpp.out];omega)
   have eF:Hid (Zk (fun u=>Za co last u) (-1) (l.take (k+1))=if Zk (fun u=>Za co last u) (-1) (l.take k)<0 then y3 else if y3<Zk (fun u=>Za co last u) (-1) (l.take k) then y3 else Zk (fun u=>Za co last u) (-1) (l.take k)):=Hd (by
    rw[etk,YD,ey3.out])
   have eT:Hid (Zk (fun u=>Za co u 0) (-1) (l.take (k+1))=if Zk (fun u=>Za co u 0) (-1) (l.take k)<0 then y2 else if y2<Zk (fun u=>Za co u 0) (-1) (l.take k) then y2 else Zk (fun u=>Za co u 0) (-1) (l.take k)):=Hd (by
    rw[etk,YD,ey2.out])
   have START0:(l.filter fun x=>decide (u≠x)).foldl (fun p v=>YC p (Za co u v)) (min y1 y2,max y1 y2)=pp:=by rw[<-hpp.out,<-ey1.out,<-ey2.out];rfl
   generalize Zi ((l.take k).map fun u=>(Zw co l last u).1+(Zw co l last u).2)=su at *;generalize Zk (fun u=>Za co last u) (-1) (l.take k)=fr at *;generalize Zk (fun u=>Za co u 0) (-1) (l.take k)=tq at *;have d5:wo.cell? ⟨w.heap.size,5,none⟩=some (.slice (some ⟨cb,cof,none⟩) co.length d):=(B1.out.ext Y.out).cell 5;have q1:(k:Int)<(l.length:Int):=by omega
   have q6:(last:Int)<(co.length:Int):=by omega
   have q7:(u:Int)<(co.length:Int):=by omega
   have q8:(0:Int)<(co.length:Int):=by omega
   clear ep euk etk
   by_cases hsw:y2<y1
   ·have START:Hid (((l.drop 0).filter fun x=>decide (u≠x)).foldl (fun p v=>YC p (Za co u v)) (y2,y1)=pp):=by
     have e1:min y1 y2=y2:=by omega
     have e2:max y1 y2=y1:=by omega
     have h:=START0;rw[e1,e2] at h;exact h
    clear START0;go_wp2_with (fail);go_quiet (fail)
    rename_i nq
    have Z0:Hid (Ext wo (wo.drewN nq)):=(Ext.rf wo).drewN nq;go_wp2_with (fail);generalize wo.drewN nq=w4 at *;go_loopw [11,12,13] (fun a1 a2 v wr=>∃ (b:Nat) (p:Int×Int),v=.int .i64 b/\a1=.int .i64 p.1/\a2=.int .i64 p.2/\b<=l.length/\Hid (((l.drop b).filter fun x=>decide (u≠x)).foldl (fun p v=>YC p (Za co u v)) p=pp)/\Hid (Ext wo wr)) (fun _ _ v _=>l.length-(intOf v).toNat)
    case atStart=>exact⟨0,(y2,y1),rfl,rfl,rfl,by omega,START,Z0.out⟩
    case round =>
     obtain⟨w5,rfl⟩:∃ w5:World,w5=wr:=⟨_,rfl⟩;obtain⟨b,⟨o1,o2⟩,rfl,rfl,rfl,hb,HF,Z⟩:=hrel;simp only
     by_cases hlb:b<l.length
     ·have eb:l[b]?=some l[b]:=List.getElem?_eq_getElem hlb
      have hv:=hl.out _ (List.getElem_mem hlb);have edb:l.drop b=l[b]::l.drop (b+1):=List.drop_eq_getElem_cons hlb;have hne:b≠k->u≠l[b]:=fun h1 h2=>h1 ((List.getElem_inj hnd.out).1 (by rw[<-h2,hux.out]))
      have heq:b=k->u=l[b]:=fun h1=>by subst h1;exact hux.out
      obtain⟨pb2,po2,xv,hPq,zp2,cp2,ep2,_⟩:=(hP.out.ext (X0.out.tr (Y.out.tr Z.out))).at (k:=b) (by rw[Zq];exact hlb);obtain⟨rfl,rfl⟩:pb=pb2/\po=po2:=by simpa using hPq
      have exv:xv=((l[b]:Nat):Int):=by
       have h:=ep2.out;rw[Yr eb] at h;exact(Option.some.inj h).symm
      subst exv;have HF2:=HF.out;rw[edb,List.filter_cons] at HF2;generalize l[b]=v at *;clear HF eb edb ep2 hPq;have d5:w5.cell? ⟨w.heap.size,5,none⟩=some (.slice (some ⟨cb,cof,none⟩) co.length d):=(B1.out.ext (Y.out.tr Z.out)).cell 5;have q2:(b:Int)<(l.length:Int):=by omega
      have p5:w5.cell? ⟨pb,po+k,none⟩=some (.int .i64 (u:Int)):=Ze Z.out zp1 cp1
      by_cases hbk:b=k
      ·have tb:((b:Int)==(k:Int))=true:=by rw[hbk];simp
       have HF3:Hid (((l.drop (b+1)).filter fun x=>decide (u≠x)).foldl (fun p v=>YC p (Za co u v)) (o1,o2)=pp):=by
        rw[if_neg (by simp[heq hbk])] at HF2;exact HF2
       clear HF2 hne heq;replace hbk:=Hd hbk;go_wp2_with (fail);go_roundw
       case rel=>exact⟨b+1,(o1,o2),by go_num,rfl,rfl,by omega,HF3,Z.out⟩
       case measure=>simp[intOf];omega
      ·have tb:((b:Int)==(k:Int))=false:=by simp;omega
       obtain⟨rb5,ro5,d5',c51,c52⟩:=CA.out _ (X0.out.tr (Y.out.tr Z.out)) u v hu hv;have nv:=num.out u v hu hv;rw[if_pos (by simp[hne hbk]),List.foldl_cons] at HF2;obtain⟨cv,hcv⟩:∃ cv,Hid (Za co u v=cv):=⟨_,rfl⟩;rw[hcv.out] at HF2 c52 nv;have q3:(u:Int)<(co.length:Int):=by omega
       have q4:(v:Int)<(co.length:Int):=by omega
       clear hne heq;replace hbk:=Hd hbk;unfold YC at HF2;simp only at HF2
       by_cases h1:cv<o1
       ·rw[if_pos h1] at HF2
        have HF3:=Hd HF2;clear HF2;go_wp2_with (fail);go_quiet (fail);go_wp2_with (fail);go_roundw
        case rel=>exact⟨b+1,(cv,o1),by go_num,rfl,rfl,by omega,HF3,Z.out.drewN _⟩
        case measure=>simp[intOf];omega
       ·rw[if_neg h1] at HF2
        by_cases h2:cv<o2
        ·rw[if_pos h2] at HF2
         have HF3:=Hd HF2;clear HF2;go_wp2_with (fail);go_quiet (fail);go_wp2_with (fail);go_roundw
         case rel=>exact⟨b+1,(o1,cv),by go_num,rfl,rfl,by omega,HF3,Z.out.drewN _⟩
         case measure=>simp[intOf];omega
        ·rw[if_neg h2] at HF2
         have HF3:=Hd HF2;clear HF2;go_wp2_with (fail);go_quiet (fail);go_wp2_with (fail);go_roundw
         case rel=>exact⟨b+1,(o1,o2),by go_num,rfl,rfl,by omega,HF3,Z.out.drewN _⟩
         case measure=>simp[intOf];omega
     ·obtain rfl:b=l.length:=by omega
      have q2:¬((l.length:Int)<(l.length:Int)):=by omega
      have HF2:=HF.out;rw[List.drop_length] at HF2;obtain rfl:(o1,o2)=pp:=HF2;simp only at bpp eS;have hw1:IntKind.i64.wrap (su+o1)=su+o1:=IntWalk.i64_in _ (by omega);have hw2:IntKind.i64.wrap (su+o1+o2)=su+o1+o2:=IntWalk.i64_in _ (by omega);clear HF START;obtain⟨rb3,ro3,d3,c31,c32⟩:=CA.out _ (X0.out.tr (Y.out.tr Z.out)) last u hla hu;rw[ey3.out] at c32;have d53:w5.cell? ⟨w.heap.size,5,none⟩=some (.slice (some ⟨cb,cof,none⟩) co.length d):=(B1.out.ext (Y.out.tr Z.out)).cell 5;have p3:w5.cell? ⟨pb,po+k,none⟩=some (.int .i64 (u:Int)):=Ze Z.out zp1 cp1
      by_cases hn1:fr<0
      ·rw[if_pos hn1] at eF
       go_wp2_with (fail);go_quiet (fail)
       rename_i nq
       have Z2:Hid (Ext wo (w5.drewN nq)):=Z.out.drewN nq;go_wp2_with (fail);generalize w5.drewN nq=w7 at *;obtain⟨rb4,ro4,d4,c41,c42⟩:=CA.out _ (X0.out.tr (Y.out.tr Z2.out)) u 0 hu h0;rw[ey2.out] at c42;replace c42:w7.cell? ⟨rb4,ro4,none⟩=some (.int .i64 y2):=c42;have d54:w7.cell? ⟨w.heap.size,5,none⟩=some (.slice (some ⟨cb,cof,none⟩) co.length d):=(B1.out.ext (Y.out.tr Z2.out)).cell 5;have p4:w7.cell? ⟨pb,po+k,none⟩=some (.int .i64 (u:Int)):=Ze Z2.out zp1 cp1
       by_cases hn2:tq<0
       ·rw[if_pos hn2] at eT
        go_wp2_with (fail);go_quiet (fail);go_wp2_with (fail);go_roundw
        case rel=>exact⟨k+1,by go_num,by rw[eS.out],by rw[eF.out],by rw[eT.out],by omega,Y.out.tr (Z2.out.drewN _)⟩
        case measure=>simp[intOf];omega
       ·rw[if_neg hn2] at eT
        by_cases hl2:y2<tq
        ·rw[if_pos hl2] at eT
         go_wp2_with (fail);go_quiet (fail);go_wp2_with (fail);go_roundw
         case rel=>exact⟨k+1,by go_num,by rw[eS.out],by rw[eF.out],by rw[eT.out],by omega,Y.out.tr (Z2.out.drewN _)⟩
         case measure=>simp[intOf];omega
        ·rw[if_neg hl2] at eT
         go_wp2_with (fail);go_quiet (fail);go_wp2_with (fail);go_roundw
         case rel=>exact⟨k+1,by go_num,by rw[eS.out],by rw[eF.out],by rw[eT.out],by omega,Y.out.tr (Z2.out.drewN _)⟩
         case measure=>simp[intOf];omega
      ·rw[if_neg hn1] at eF
       by_cases hl1:y3<fr
       ·rw[if_pos hl1] at eF
        go_wp2_with (fail);go_quiet (fail)
        rename_i nq
        have Z2:Hid (Ext wo (w5.drewN nq)):=Z.out.drewN nq;go_wp2_with (fail);generalize w5.drewN nq=w7 at *;obtain⟨rb4,ro4,d4,c41,c42⟩:=CA.out _ (X0.out.tr (Y.out.tr Z2.out)) u 0 hu h0;rw[ey2.out] at c42;replace c42:w7.cell? ⟨rb4,ro4,none⟩=some (.int .i64 y2):=c42;have d54:w7.cell? ⟨w.heap.size,5,none⟩=some (.slice (some ⟨cb,cof,none⟩) co.length d):=(B1.out.ext (Y.out.tr Z2.out)).cell 5;have p4:w7.cell? ⟨pb,po+k,none⟩=some (.int .i64 (u:Int)):=Ze Z2.out zp1 cp1
        by_cases hn2:tq<0
        ·rw[if_pos hn2] at eT
         go_wp2_with (fail);go_quiet (fail);go_wp2_with (fail);go_roundw
         case rel=>exact⟨k+1,by go_num,by rw[eS.out],by rw[eF.out],by rw[eT.out],by omega,Y.out.tr (Z2.out.drewN _)⟩
         case measure=>simp[intOf];omega
        ·rw[if_neg hn2] at eT
         by_cases hl2:y2<tq
         ·rw[if_pos hl2] at eT
          go_wp2_with (fail);go_quiet (fail);go_wp2_with (fail);go_roundw
          case rel=>exact⟨k+1,by go_num,by rw[eS.out],by rw[eF.out],by rw[eT.out],by omega,Y.out.tr (Z2.out.drewN _)⟩
          case measure=>simp[intOf];omega
         ·rw[if_neg hl2] at eT
          go_wp2_with (fail);go_quiet (fail);go_wp2_with (fail);go_roundw
          case rel=>exact⟨k+1,by go_num,by rw[eS.out],by rw[eF.out],by rw[eT.out],by omega,Y.out.tr (Z2.out.drewN _)⟩
          case measure=>simp[intOf];omega
       ·rw[if_neg hl1] at eF
        go_wp2_with (fail);go_quiet (fail)
        rename_i nq
        have Z2:Hid (Ext wo (w5.drewN nq)):=Z.out.drewN nq;go_wp2_with (fail);generalize w5.drewN nq=w7 at *;obtain⟨rb4,ro4,d4,c41,c42⟩:=CA.out _ (X0.out.tr (Y.out.tr Z2.out)) u 0 hu h0;rw[ey2.out] at c42;replace c42:w7.cell? ⟨rb4,ro4,none⟩=some (.int .i64 y2):=c42;have d54:w7.cell? ⟨w.heap.size,5,none⟩=some (.slice (some ⟨cb,cof,none⟩) co.length d):=(B1.out.ext (Y.out.tr Z2.out)).cell 5;have p4:w7.cell? ⟨pb,po+k,none⟩=some (.int .i64 (u:Int)):=Ze Z2.out zp1 cp1
        by_cases hn2:tq<0
        ·rw[if_pos hn2] at eT
         go_wp2_with (fail);go_quiet (fail);go_wp2_with (fail);go_roundw
         case rel=>exact⟨k+1,by go_num,by rw[eS.out],by rw[eF.out],by rw[eT.out],by omega,Y.out.tr (Z2.out.drewN _)⟩
         case measure=>simp[intOf];omega
        ·rw[if_neg hn2] at eT
         by_cases hl2:y2<tq
         ·rw[if_pos hl2] at eT
          go_wp2_with (fail);go_quiet (fail);go_wp2_with (fail);go_roundw
          case rel=>exact⟨k+1,by go_num,by rw[eS.out],by rw[eF.out],by rw[eT.out],by omega,Y.out.tr (Z2.out.drewN _)⟩
          case measure=>simp[intOf];omega
         ·rw[if_neg hl2] at eT
          go_wp2_with (fail);go_quiet (fail);go_wp2_with (fail);go_roundw
          case rel=>exact⟨k+1,by go_num,by rw[eS.out],by rw[eF.out],by rw[eT.out],by omega,Y.out.tr (Z2.out.drewN _)⟩
          case measure=>simp[intOf];omega
   ·have START:Hid (((l.drop 0).filter fun x=>decide (u≠x)).foldl (fun p v=>YC p (Za co u v)) (y1,y2)=pp):=by
     have e1:min y1 y2=y1:=by omega
     have e2:max y1 y2=y2:=by omega
     have h:=START0;rw[e1,e2] at h;exact h
    clear START0;go_wp2_with (fail);go_quiet (fail)
    rename_i nq
    have Z0:Hid (Ext wo (wo.drewN nq)):=(Ext.rf wo).drewN nq;go_wp2_with (fail);generalize wo.drewN nq=w4 at *;go_loopw [11,12,13] (fun a1 a2 v wr=>∃ (b:Nat) (p:Int×Int),v=.int .i64 b/\a1=.int .i64 p.1/\a2=.int .i64 p.2/\b<=l.length/\Hid (((l.drop b).filter fun x=>decide (u≠x)).foldl (fun p v=>YC p (Za co u v)) p=pp)/\Hid (Ext wo wr)) (fun _ _ v _=>l.length-(intOf v).toNat)
    case atStart=>exact⟨0,(y1,y2),rfl,rfl,rfl,by omega,START,Z0.out⟩
    case round =>
     obtain⟨w5,rfl⟩:∃ w5:World,w5=wr:=⟨_,rfl⟩;obtain⟨b,⟨o1,o2⟩,rfl,rfl,rfl,hb,HF,Z⟩:=hrel;simp only
     by_cases hlb:b<l.length
     ·have eb:l[b]?=some l[b]:=List.getElem?_eq_getElem hlb
      have hv:=hl.out _ (List.getElem_mem hlb);have edb:l.drop b=l[b]::l.drop (b+1):=List.drop_eq_getElem_cons hlb;have hne:b≠k->u≠l[b]:=fun h1 h2=>h1 ((List.getElem_inj hnd.out).1 (by rw[<-h2,hux.out]))
      have heq:b=k->u=l[b]:=fun h1=>by subst h1;exact hux.out
      obtain⟨pb2,po2,xv,hPq,zp2,cp2,ep2,_⟩:=(hP.out.ext (X0.out.tr (Y.out.tr Z.out))).at (k:=b) (by rw[Zq];exact hlb);obtain⟨rfl,rfl⟩:pb=pb2/\po=po2:=by simpa using hPq
      have exv:xv=((l[b]:Nat):Int):=by
       have h:=ep2.out;rw[Yr eb] at h;exact(Option.some.inj h).symm
      subst exv;have HF2:=HF.out;rw[edb,List.filter_cons] at HF2;generalize l[b]=v at *;clear HF eb edb ep2 hPq;have d5:w5.cell? ⟨w.heap.size,5,none⟩=some (.slice (some ⟨cb,cof,none⟩) co.length d):=(B1.out.ext (Y.out.tr Z.out)).cell 5;have q2:(b:Int)<(l.length:Int):=by omega
      have p5:w5.cell? ⟨pb,po+k,none⟩=some (.int .i64 (u:Int)):=Ze Z.out zp1 cp1
      by_cases hbk:b=k
      ·have tb:((b:Int)==(k:Int))=true:=by rw[hbk];simp
       have HF3:Hid (((l.drop (b+1)).filter fun x=>decide (u≠x)).foldl (fun p v=>YC p (Za co u v)) (o1,o2)=pp):=by
        rw[if_neg (by simp[heq hbk])] at HF2;exact HF2
       clear HF2 hne heq;replace hbk:=Hd hbk;go_wp2_with (fail);go_roundw
       case rel=>exact⟨b+1,(o1,o2),by go_num,rfl,rfl,by omega,HF3,Z.out⟩
       case measure=>simp[intOf];omega
      ·have tb:((b:Int)==(k:Int))=false:=by simp;omega
       obtain⟨rb5,ro5,d5',c51,c52⟩:=CA.out _ (X0.out.tr (Y.out.tr Z.out)) u v hu hv;have nv:=num.out u v hu hv;rw[if_pos (by simp[hne hbk]),List.foldl_cons] at HF2;obtain⟨cv,hcv⟩:∃ cv,Hid (Za co u v=cv):=⟨_,rfl⟩;rw[hcv.out] at HF2 c52 nv;have q3:(u:Int)<(co.length:Int):=by omega
       have q4:(v:Int)<(co.length:Int):=by omega
       clear hne heq;replace hbk:=Hd hbk;unfold YC at HF2;simp only at HF2
       by_cases h1:cv<o1
       ·rw[if_pos h1] at HF2
        have HF3:=Hd HF2;clear HF2;go_wp2_with (fail);go_quiet (fail);go_wp2_with (fail);go_roundw
        case rel=>exact⟨b+1,(cv,o1),by go_num,rfl,rfl,by omega,HF3,Z.out.drewN _⟩
        case measure=>simp[intOf];omega
       ·rw[if_neg h1] at HF2
        by_cases h2:cv<o2
        ·rw[if_pos h2] at HF2
         have HF3:=Hd HF2;clear HF2;go_wp2_with (fail);go_quiet (fail);go_wp2_with (fail);go_roundw
         case rel=>exact⟨b+1,(o1,cv),by go_num,rfl,rfl,by omega,HF3,Z.out.drewN _⟩
         case measure=>simp[intOf];omega
        ·rw[if_neg h2] at HF2
         have HF3:=Hd HF2;clear HF2;go_wp2_with (fail);go_quiet (fail);go_wp2_with (fail);go_roundw
         case rel=>exact⟨b+1,(o1,o2),by go_num,rfl,rfl,by omega,HF3,Z.out.drewN _⟩
         case measure=>simp[intOf];omega
     ·obtain rfl:b=l.length:=by omega
      have q2:¬((l.length:Int)<(l.length:Int)):=by omega
      have HF2:=HF.out;rw[List.drop_length] at HF2;obtain rfl:(o1,o2)=pp:=HF2;simp only at bpp eS;have hw1:IntKind.i64.wrap (su+o1)=su+o1:=IntWalk.i64_in _ (by omega);have hw2:IntKind.i64.wrap (su+o1+o2)=su+o1+o2:=IntWalk.i64_in _ (by omega);clear HF START;obtain⟨rb3,ro3,d3,c31,c32⟩:=CA.out _ (X0.out.tr (Y.out.tr Z.out)) last u hla hu;rw[ey3.out] at c32;have d53:w5.cell? ⟨w.heap.size,5,none⟩=some (.slice (some ⟨cb,cof,none⟩) co.length d):=(B1.out.ext (Y.out.tr Z.out)).cell 5;have p3:w5.cell? ⟨pb,po+k,none⟩=some (.int .i64 (u:Int)):=Ze Z.out zp1 cp1
      by_cases hn1:fr<0
      ·rw[if_pos hn1] at eF
       go_wp2_with (fail);go_quiet (fail)
       rename_i nq
       have Z2:Hid (Ext wo (w5.drewN nq)):=Z.out.drewN nq;go_wp2_with (fail);generalize w5.drewN nq=w7 at *;obtain⟨rb4,ro4,d4,c41,c42⟩:=CA.out _ (X0.out.tr (Y.out.tr Z2.out)) u 0 hu h0;rw[ey2.out] at c42;replace c42:w7.cell? ⟨rb4,ro4,none⟩=some (.int .i64 y2):=c42;have d54:w7.cell? ⟨w.heap.size,5,none⟩=some (.slice (some ⟨cb,cof,none⟩) co.length d):=(B1.out.ext (Y.out.tr Z2.out)).cell 5;have p4:w7.cell? ⟨pb,po+k,none⟩=some (.int .i64 (u:Int)):=Ze Z2.out zp1 cp1
       by_cases hn2:tq<0
       ·rw[if_pos hn2] at eT
        go_wp2_with (fail);go_quiet (fail);go_wp2_with (fail);go_roundw
        case rel=>exact⟨k+1,by go_num,by rw[eS.out],by rw[eF.out],by rw[eT.out],by omega,Y.out.tr (Z2.out.drewN _)⟩
        case measure=>simp[intOf];omega
       ·rw[if_neg hn2] at eT
        by_cases hl2:y2<tq
        ·rw[if_pos hl2] at eT
         go_wp2_with (fail);go_quiet (fail);go_wp2_with (fail);go_roundw
         case rel=>exact⟨k+1,by go_num,by rw[eS.out],by rw[eF.out],by rw[eT.out],by omega,Y.out.tr (Z2.out.drewN _)⟩
         case measure=>simp[intOf];omega
        ·rw[if_neg hl2] at eT
         go_wp2_with (fail);go_quiet (fail);go_wp2_with (fail);go_roundw
         case rel=>exact⟨k+1,by go_num,by rw[eS.out],by rw[eF.out],by rw[eT.out],by omega,Y.out.tr (Z2.out.drewN _)⟩
         case measure=>simp[intOf];omega
      ·rw[if_neg hn1] at eF
       by_cases hl1:y3<fr
       ·rw[if_pos hl1] at eF
        go_wp2_with (fail);go_quiet (fail)
        rename_i nq
        have Z2:Hid (Ext wo (w5.drewN nq)):=Z.out.drewN nq;go_wp2_with (fail);generalize w5.drewN nq=w7 at *;obtain⟨rb4,ro4,d4,c41,c42⟩:=CA.out _ (X0.out.tr (Y.out.tr Z2.out)) u 0 hu h0;rw[ey2.out] at c42;replace c42:w7.cell? ⟨rb4,ro4,none⟩=some (.int .i64 y2):=c42;have d54:w7.cell? ⟨w.heap.size,5,none⟩=some (.slice (some ⟨cb,cof,none⟩) co.length d):=(B1.out.ext (Y.out.tr Z2.out)).cell 5;have p4:w7.cell? ⟨pb,po+k,none⟩=some (.int .i64 (u:Int)):=Ze Z2.out zp1 cp1
        by_cases hn2:tq<0
        ·rw[if_pos hn2] at eT
         go_wp2_with (fail);go_quiet (fail);go_wp2_with (fail);go_roundw
         case rel=>exact⟨k+1,by go_num,by rw[eS.out],by rw[eF.out],by rw[eT.out],by omega,Y.out.tr (Z2.out.drewN _)⟩
         case measure=>simp[intOf];omega
        ·rw[if_neg hn2] at eT
         by_cases hl2:y2<tq
         ·rw[if_pos hl2] at eT
          go_wp2_with (fail);go_quiet (fail);go_wp2_with (fail);go_roundw
          case rel=>exact⟨k+1,by go_num,by rw[eS.out],by rw[eF.out],by rw[eT.out],by omega,Y.out.tr (Z2.out.drewN _)⟩
          case measure=>simp[intOf];omega
         ·rw[if_neg hl2] at eT
          go_wp2_with (fail);go_quiet (fail);go_wp2_with (fail);go_roundw
          case rel=>exact⟨k+1,by go_num,by rw[eS.out],by rw[eF.out],by rw[eT.out],by omega,Y.out.tr (Z2.out.drewN _)⟩
          case measure=>simp[intOf];omega
       ·rw[if_neg hl1] at eF
        go_wp2_with (fail);go_quiet (fail)
        rename_i nq
        have Z2:Hid (Ext wo (w5.drewN nq)):=Z.out.drewN nq;go_wp2_with (fail);generalize w5.drewN nq=w7 at *;obtain⟨rb4,ro4,d4,c41,c42⟩:=CA.out _ (X0.out.tr (Y.out.tr Z2.out)) u 0 hu h0;rw[ey2.out] at c42;replace c42:w7.cell? ⟨rb4,ro4,none⟩=some (.int .i64 y2):=c42;have d54:w7.cell? ⟨w.heap.size,5,none⟩=some (.slice (some ⟨cb,cof,none⟩) co.length d):=(B1.out.ext (Y.out.tr Z2.out)).cell 5;have p4:w7.cell? ⟨pb,po+k,none⟩=some (.int .i64 (u:Int)):=Ze Z2.out zp1 cp1
        by_cases hn2:tq<0
        ·rw[if_pos hn2] at eT
         go_wp2_with (fail);go_quiet (fail);go_wp2_with (fail);go_roundw
         case rel=>exact⟨k+1,by go_num,by rw[eS.out],by rw[eF.out],by rw[eT.out],by omega,Y.out.tr (Z2.out.drewN _)⟩
         case measure=>simp[intOf];omega
        ·rw[if_neg hn2] at eT
         by_cases hl2:y2<tq
         ·rw[if_pos hl2] at eT
          go_wp2_with (fail);go_quiet (fail);go_wp2_with (fail);go_roundw
          case rel=>exact⟨k+1,by go_num,by rw[eS.out],by rw[eF.out],by rw[eT.out],by omega,Y.out.tr (Z2.out.drewN _)⟩
          case measure=>simp[intOf];omega
         ·rw[if_neg hl2] at eT
          go_wp2_with (fail);go_quiet (fail);go_wp2_with (fail);go_roundw
          case rel=>exact⟨k+1,by go_num,by rw[eS.out],by rw[eF.out],by rw[eT.out],by omega,Y.out.tr (Z2.out.drewN _)⟩
          case measure=>simp[intOf];omega
  ·obtain rfl:k=l.length:=by omega
   have q2:¬((l.length:Int)<(l.length:Int)):=by omega
   have bs:=bsum.out l.length;have bf1:=bfr.out l.length (fun u=>Za co last u) fun x hx=>num.out last x hla hx
   have bf2:=bfr.out l.length (fun u=>Za co u 0) fun x hx=>num.out x 0 hx (by omega)
   rw[List.take_length] at *;have hw1:IntKind.i64.wrap (Zi (l.map fun u=>(Zw co l last u).1+(Zw co l last u).2)+Zk (fun u=>Za co last u) (-1) l)=Zi (l.map fun u=>(Zw co l last u).1+(Zw co l last u).2)+Zk (fun u=>Za co last u) (-1) l:=IntWalk.i64_in _ (by omega);have hw2:IntKind.i64.wrap (Zi (l.map fun u=>(Zw co l last u).1+(Zw co l last u).2)+Zk (fun u=>Za co last u) (-1) l+Zk (fun u=>Za co u 0) (-1) l)=Xg co l last:=IntWalk.i64_in _ (by omega);go_wp2_with (fail);go_ret;exact⟨rfl,X0.out.tr Y.out⟩
theorem Zdl {rows:List (List Int)}{l:List Nat}{last s src:Nat}(hn:(last::l).Nodup)(h0:0∉l)(hs:(last::l)[s]?=some src){b v:Nat}(hb:l[b]?=some v) : WU rows l last src v=if b+1=s then -1 else Za rows src v:=by
 have hv:v∈l:=List.mem_of_getElem? hb;have hb':(last::l)[b+1]?=some v:=by simpa using hb
 have key:v=src↔b+1=s:=by
  obtain⟨h1,h2⟩:=List.getElem?_eq_some_iff.1 hs;obtain⟨h3,h4⟩:=List.getElem?_eq_some_iff.1 hb'
  constructor
  ·intro e
   refine(List.getElem_inj (h₀:=h3) (h₁:=h1) hn).1 ?_;rw[h2,h4,e]
  ·intro e
   subst e;rw[<-h4,<-h2]
 unfold WU
 by_cases e:b+1=s
 ·rw[if_pos e,if_neg]
  have hvs:=key.2 e;unfold ZQ;split
  ·rename_i h
   rw[hvs,h] at hv;exact absurd hv (List.nodup_cons.1 hn).1
  ·intro hm
   rcases List.mem_cons.1 hm with h | h
   ·rw[h] at hv;exact h0 hv
   ·have:=(List.mem_filter.1 h).2
    simp at this;exact this hvs.symm
 ·rw[if_neg e,if_pos]
  have hvs:¬v=src:=fun h=>e (key.1 h)
  unfold ZQ;split
  ·exact hv
  ·exact List.mem_cons_of_mem _ (List.mem_filter.2 ⟨hv,by simpa using fun h=>hvs h.symm⟩)
theorem ZcF {rows:List (List Int)}{l:List Nat}{last s src:Nat}(hn:(last::l).Nodup)(h0:0∉l)(hs:(last::l)[s]?=some src) : WU rows l last src 0=if s=0 then -1 else Za rows src 0:=by
 have key:src=last↔s=0:=by
  obtain⟨h1,h2⟩:=List.getElem?_eq_some_iff.1 hs
  constructor
  ·intro e
   have h3:(last::l)[0]'(by simp)=last:=rfl;refine(List.getElem_inj (h₀:=h1) (h₁:=by simp) hn).1 ?_;rw[h2,e,h3]
  ·intro e
   subst e
   simpa using h2.symm
 unfold WU ZQ
 by_cases e:s=0
 ·rw[if_pos e,if_pos (key.2 e),if_neg h0]
 ·rw[if_neg e,if_neg (fun h=>e (key.1 h)),if_pos (by simp)]
theorem Jb (i:InstP)(us:List Value)(P:Option Addr)(pc:Nat)(p:List Int)(w:World)(H:RInst w us i)(ok:SquareOk i)(hP:RdI w P p)(lp:p.length<=1000000000) :
  Calls Tryz.prog 99 #[.agg (List.toArray us),.slice P p.length pc] w fun e w'=>e=.returned (.tuple #[.int .i64 (Ym i.cost (Xy i.cost) p).1,.int .i64 (Ym i.cost (Xy i.cost) p).2])/\Ext w w':=by
 have rok:=Yx ok;have l1:=rok.n1;have l2:=rok.n2;have hnn:i.n=(i.cost.length:Int):=ok.len.symm;have FR:=fun(W:World) (x:Ext w W)=>ZbK i us P pc p W (H.ext x) i.cost.length hnn rfl rok l1 l2 (hP.ext x) lp
 have MI:=fun(W:World) (x:Ext w W)=>JW i us W (H.ext x) ok
 have EN:=fun(W:World) (x:Ext w W) (A:Option Addr) (c:Nat) (l:List Nat) (last:Nat) (h:RdI W A (Zl l)) (h1:∀ x∈l,x<i.cost.length) (h2:l.Nodup) (h3:l.length<=24) (h4:last<i.cost.length)=>JY i us A c l last W (H.ext x) rok h h1 h2 h3 h4
 clear ok hP;obtain⟨kind,nn,cap,xw,xv,co⟩:=i;obtain⟨A,a,B,b,D,d,rfl,-,-,⟨hC,-,-⟩⟩:=H;simp only at *;subst hnn;obtain⟨cb,cof,_,_,_,rfl,_,_⟩:=Vw rok hC (r:=0) (c:=0) (by omega) (by omega);have num:=WH rok;have CA:=Hd (fun(W:World) (x:Ext w W) (r c:Nat) (hr:r<co.length) (hc:c<co.length)=>Q1 rok (hC.ext x fun _ _ h=>h.ext x) hr hc);obtain⟨r,hr⟩:∃ r,Hid (Wu co p=r):=⟨_,rfl⟩;rw[hr.out] at FR;have B1:Hid (Blk (w.alloc (.cells #[.int .i64 kind,.int .i64 co.length,.int .i64 cap,.slice A xw.length a,.slice B xv.length b,.slice (some ⟨cb,cof,none⟩) co.length d] 25)) w.heap.size 25 #[.int .i64 kind,.int .i64 co.length,.int .i64 cap,.slice A xw.length a,.slice B xv.length b,.slice (some ⟨cb,cof,none⟩) co.length d]):=.new rfl;replace hC:=Hd hC
 cases r with
 | none =>
  have e:Ym co (Xy co) p=(0,1):=by unfold Ym;rw[hr.out]
  rw[e];unfold ZcE at FR;replace FR:=Hd FR;clear MI EN;go_enter Tryz.func99,Tryz.ntmps99;go_wp2_with (fail);refine(FR.out _ (by(repeat (first | assumption | exact Ext.rf _ | apply Ext.drew | apply Ext.drewN | apply Ext.alloc)))).mono ?_;rintro e w1 ⟨rfl,x1⟩;have X1:=Hd (Ext.tr (a:=w) (by(repeat (first | assumption | exact Ext.rf _ | apply Ext.drew | apply Ext.drewN | apply Ext.alloc))) x1);clear x1;go_wp2_with (fail);go_ret2;exact⟨rfl,X1.out⟩
 | some s =>
  obtain⟨m,last,cost⟩:=s;obtain⟨pl,WO⟩:=Q9 l1 l2 hr.out;have hS:=WO.sub;have hla:=Uf l1 WO;have h0m:0∉Zb m:=fun h=>((WO.rest 0).1 h).1.2 rfl
  have hlen:(Zb m).length<=23:=by have:=WO.len;omega
  have hnl:last∉Zb m:=fun h=>by
   have h1:=(WO.rest last).1 h;rw[WO.last] at h1;rcases Ub pl 0 with e | e
   ·rw[e] at h1;exact h1.1.2 rfl
   ·exact h1.2 e
  have hnod:(last::Zb m).Nodup:=List.nodup_cons.2 ⟨hnl,(Z8 m).imp fun h=>by omega⟩;have bcost:0<=cost/\cost<=2147483647*24:=by
   have h1:=UH num pl 0 (by omega) fun x hx=>(WO.inn x hx).1
   have h2:=WO.len;rw[WO.cost];omega
  replace FR:=fun(W:World) (x:Ext w W)=>(show Calls _ _ _ W (VN m last cost W) from FR W x)
  unfold VN at FR;have e:Ym co (Xy co) p=(cost+(if Zb m=[] then Za co last 0 else if Xy co=true then max (ZH co (Zb m) last) ((Xg co (Zb m) last+1) / 2) else ZH co (Zb m) last),0):=by unfold Ym;rw[hr.out]
  obtain⟨tot,ht⟩:∃ tot,Hid (tot=cost+(if Zb m=[] then Za co last 0 else if Xy co=true then max (ZH co (Zb m) last) ((Xg co (Zb m) last+1) / 2) else ZH co (Zb m) last)):=⟨_,rfl⟩;rw[e,<-ht.out];clear e;have hin:Hid (∀ x∈Zb m,x<co.length):=hS.2;obtain⟨l,hll⟩:∃ l,Hid (Zb m=l):=⟨_,rfl⟩;rw[hll.out] at FR ht hin h0m hlen hnl hnod;replace FR:=Hd FR;replace MI:=Hd MI;replace EN:=Hd EN;replace num:=Hd num;replace h0m:=Hd h0m;replace hnod:=Hd hnod;replace hnl:=Hd hnl;clear hr WO hS;go_enter Tryz.func99,Tryz.ntmps99;go_wp2_with (fail);refine(FR.out _ (by(repeat (first | assumption | exact Ext.rf _ | apply Ext.drew | apply Ext.drewN | apply Ext.alloc)))).mono ?_;rintro e w1 ⟨LA,lc,rfl,oL,x1⟩;have X1:=Hd (Ext.tr (a:=w) (by(repeat (first | assumption | exact Ext.rf _ | apply Ext.drew | apply Ext.drewN | apply Ext.alloc))) x1);have b1:=Hd (B1.out.ext x1);have oL1:Hid (OwI w1 w.heap.size LA lc (Zl l)):=OwI.more oL (by simp);clear x1 oL
  by_cases hne:l.length=0
  ·have hl0:l=[]:=List.eq_nil_of_length_eq_zero hne
   have ht2:Hid (tot=cost+Za co last 0):=by
    have h:=ht.out;rw[if_pos hl0] at h;exact h
   have n2:=num.out last 0 hla (by omega);obtain⟨rb1,ro1,d1,c11,c12⟩:=CA.out _ X1.out last 0 hla (by omega);generalize Za co last 0=y at *;replace c12:w1.cell? ⟨rb1,ro1,none⟩=some (.int .i64 y):=c12;have d5:=b1.out.c5;have hw:IntKind.i64.wrap (cost+y)=cost+y:=IntWalk.i64_in _ (by omega);have q1:(last:Int)<(co.length:Int):=by omega
   have q2:(0:Int)<(co.length:Int):=by omega
   have elen:((l.length:Int)==0)=true:=by rw[hne];rfl
   clear hl0 ht;replace hne:=Hd hne;go_wp2_with (fail);go_ret2;rw[ht2.out];exact⟨rfl,X1.out⟩
  ·have elen:((l.length:Int)==0)=false:=by rw[beq_eq_false_iff_ne];omega
   have hlnil:l≠[]:=fun h=>hne (by rw[h];rfl)
   have ht2:Hid (tot=cost+(if Xy co=true then max (ZH co l last) ((Xg co l last+1) / 2) else ZH co l last)):=by
    have h:=ht.out;rw[if_neg hlnil] at h;exact h
   have bred:=Hd (Vm num.out (by omega) hla hin.out (by omega:l.length<=24));have bend:=Hd (Qk num.out (by omega) hla hin.out (by omega:l.length<=24) hlnil);obtain⟨i0,hi,hz0,hz1,hz2⟩:=info_parts Vu;replace hi:=Hd hi;replace hz0:=Hd hz0;replace hz1:=Hd hz1;replace hz2:=Hd hz2;replace hlnil:=Hd hlnil;have lml:Hid ((VH co l last).length=l.length+1):=Zdf;obtain⟨ms,hms⟩:∃ ms,Hid (VH co l last=ms):=⟨_,rfl⟩;rw[hms.out] at lml;have START:Hid (OwV w1 w.heap.size 22 1 none 0 0 []/\RowsO w1 w.heap.size [] (ms.take 0)/\Ext w w1/\Blk w1 w.heap.size 25 #[.int .i64 kind,.int .i64 co.length,.int .i64 cap,.slice A xw.length a,.slice B xv.length b,.slice (some ⟨cb,cof,none⟩) co.length d]/\OwI w1 w.heap.size LA lc (Zl l)):=⟨OwV.nil _ _ _ _,by simpa using RowsO.nil w1 w.heap.size,X1.out,b1.out,oL1.out⟩;clear ht;go_wp2_with (fail);go_loopw [10,11] (fun v10 v11 wr=>∃ (s:Nat) (aa:Int) (MA:Option Addr) (mc:Nat) (mus:List Value),v11=.int .i64 aa/\Hid (aa=(s:Int)-1)/\v10=.slice MA s mc/\s<=l.length+1/\Hid (OwV wr w.heap.size 22 1 MA s mc mus/\RowsO wr w.heap.size mus (ms.take s)/\Ext w wr/\Blk wr w.heap.size 25 #[.int .i64 kind,.int .i64 co.length,.int .i64 cap,.slice A xw.length a,.slice B xv.length b,.slice (some ⟨cb,cof,none⟩) co.length d]/\OwI wr w.heap.size LA lc (Zl l))) (fun _ v11 _=>(l.length-intOf v11).toNat)
   case atStart=>exact⟨0,-1,none,0,[],rfl,by exact(show (-1:Int)=((0:Nat):Int)-1 from by omega),rfl,by omega,START⟩
   case round =>
    obtain⟨wo,rfl⟩:∃ wo:World,wo=wr:=⟨_,rfl⟩;clear START;obtain⟨s,aa,MA,mc,mus,rfl,haa,rfl,hk,HH⟩:=hrel;obtain⟨oV,oR,Y,bI,oL⟩:=HH.out
    by_cases hlt:s<l.length+1
    ·have hsl:s<(last::l).length:=by simpa using hlt
     obtain⟨src,hsrc⟩:∃ src,Hid ((last::l)[s]?=some src):=⟨_,List.getElem?_eq_getElem hsl⟩;have hsm:src=last\/src∈l:=by
      have:=List.mem_of_getElem? hsrc.out
      simpa using this
     have hsn:src<co.length:=by
      rcases hsm with rfl | h
      ·exact hla
      ·exact hin.out _ h
     obtain⟨row,hrow⟩:∃ row:List Int,Hid (List.map (fun dst:Nat=>WU co l last src dst) (l++[0]:List Nat)=row):=⟨List.map (fun dst:Nat=>WU co l last src dst) (l++[0]:List Nat),rfl⟩;have etk:Hid (ms.take (s+1)=ms.take s++[row]):=Hd (by
      have e1:ms[s]?=some row:=by
       rw[<-hms.out,<-hrow.out];unfold VH;rw[List.getElem?_map,hsrc.out]
       rfl
      rw[List.take_add_one,e1]
      rfl)
     have lrow:row.length=l.length+1:=by rw[<-hrow.out];simp
     have erow:Hid (∀ b v,l[b]?=some v->row[b]?=some (if b+1=s then -1 else Za co src v)):=fun b v hb=>by
      have hbl:b<l.length:=(List.getElem?_eq_some_iff.1 hb).1;rw[<-hrow.out,List.getElem?_map,List.getElem?_append_left hbl,hb,<-Zdl hnod.out h0m.out hsrc.out hb]
      rfl
     have ehome:Hid (row[l.length]?=some (if s=0 then -1 else Za co src 0)):=Hd (by
      rw[<-hrow.out,List.getElem?_map,List.getElem?_append_right (Nat.le_refl _),<-ZcF hnod.out h0m.out hsrc.out];simp)
     obtain⟨lb,lo,rfl⟩:∃ lb lo,LA=some ⟨lb,lo,none⟩:=by
      obtain⟨b',o',x',h1,_⟩:=oL.read.at (k:=0) (by rw[Zq];omega);exact⟨b',o',h1⟩
     have OM:=oV.lt;replace oV:=Hd oV;replace oR:=Hd oR;replace Y:=Hd Y;replace bI:=Hd bI;replace oL:=Hd oL;have zwo:w.heap.size<=wo.heap.size:=Y.out.size;clear HH hsm hsl
     cases s with
     | zero =>
      obtain rfl:aa=-1:=by have:=haa.out;omega
      obtain rfl:src=last:=by have h:=hsrc.out;simp at h;exact h.symm
      clear haa;have q1:(-1:Int)<(l.length:Int):=by omega
      have START2:Hid (OwI wo wo.heap.size none 0 (row.take 0)/\Ext wo wo):=⟨OwI.nil _ _,Ext.rf _⟩;have hrg:Hid (OwI (wo.alloc (.cells #[] 3)) wo.heap.size (some ⟨wo.heap.size,0,none⟩) 0 (row.take 0)/\Ext wo (wo.alloc (.cells #[] 3))):=⟨OwI.empty (.new rfl) (Nat.le_refl _),(Ext.rf _).alloc _⟩;go_wp2_with (fail);go_loopw [13,14] (fun v13 v14 wr=>∃ (b:Nat) (RA:Option Addr) (rc:Nat),v14=.int .i64 b/\v13=.slice RA b rc/\b<=l.length/\Hid (OwI wr wo.heap.size RA rc (row.take b)/\Ext wo wr)) (fun _ v14 _=>l.length-(intOf v14).toNat)
      case atStart=>exact⟨0,some ⟨wo.heap.size,0,none⟩,0,rfl,rfl,by omega,hrg⟩
      case round =>
       obtain⟨wi,rfl⟩:∃ wi:World,wi=wr:=⟨_,rfl⟩;clear START2 hrg;obtain⟨b',RA,rc,rfl,rfl,hb,HR⟩:=hrel;obtain⟨oN,Z⟩:=HR.out;replace oN:=Hd oN;replace Z:=Hd Z;have zwi:=Z.out.size;have d5:wi.cell? ⟨w.heap.size,5,none⟩=some (.slice (some ⟨cb,cof,none⟩) co.length d):=(bI.out.ext Z.out).cell 5;have ltk:(row.take b').length=b':=by rw[List.length_take,lrow];omega
       clear HR
       by_cases hlb:b'<l.length
       ·have eb:l[b']?=some l[b']:=List.getElem?_eq_getElem hlb
        have hvn:=hin.out _ (List.getElem_mem hlb);have er:=erow.out b' _ eb;obtain⟨lb2,lo2,xv2,hq2,zl2,cl2,el2,_⟩:=(oL.out.ext Z.out).read.at (k:=b') (by rw[Zq];exact hlb);obtain⟨rfl,rfl⟩:lb=lb2/\lo=lo2:=by simpa using hq2
        have exv:xv2=((l[b']:Nat):Int):=by
         have h:=el2.out;rw[Yr eb] at h;exact(Option.some.inj h).symm
        subst exv;generalize l[b']=v at *;have etb:Hid (row.take (b'+1)=row.take b'++[if b'+1=0 then -1 else Za co src v]):=Hd (by rw[List.take_add_one,er];rfl);have q2:(b':Int)<(l.length:Int):=by omega
        clear er eb el2 hq2;have hif:(if b'+1=0 then(-1:Int) else Za co src v)=Za co src v:=if_neg (by omega);rw[hif] at etb;have te:((b':Int)==-1)=false:=by rw[beq_eq_false_iff_ne];omega
        obtain⟨rb5,ro5,d5',c51,c52⟩:=CA.out _ (Y.out.tr Z.out) src v hsn hvn;obtain⟨cv,hcv⟩:∃ cv,Hid (Za co src v=cv):=⟨_,rfl⟩;rw[hcv.out] at c52 etb;have q3:(src:Int)<(co.length:Int):=by omega
        have q4:(v:Int)<(co.length:Int):=by omega
        go_upto_region 19 with(fail);refine wp_region_any (by kernel_rfl) ?_
        change wpAny _ _ _ _ _ _ _ (World.drew _)
        refine Zc (i:=0) (op:=Op.move (Operand.tmp 13)) (t:=22) (d:=some 65) (v:=?_) rfl (by decide +kernel) (by decide +kernel) (by decide +kernel) (fun _ _ _ h=>h) ?_ ?_
        case refine_2=>(intro _;unfold Zd;go_simp;try with_reducible rfl)
        try simp only[lay]
        refine Zc (i:=1) (op:=Op.fieldAddr 25 (Operand.tmp 2) 5) (t:=0) (d:=some 66) (v:=?_) rfl (by decide +kernel) (by decide +kernel) (by decide +kernel) (fun _ _ _ h=>h) ?_ ?_
        case refine_2=>(intro _;unfold Zd;go_simp;try with_reducible rfl)
        try simp only[lay]
        refine Zc (i:=3) (op:=Op.move (Operand.tmp 12)) (t:=3) (d:=some 68) (v:=?_) rfl (by decide +kernel) (by decide +kernel) (by decide +kernel) (fun _ _ _ h=>h) ?_ ?_
        case refine_2=>(intro _;unfold Zd;go_simp;try with_reducible rfl)
        try simp only[lay]
        refine Zc (i:=6) (op:=Op.move (Operand.tmp 6)) (t:=22) (d:=some 71) (v:=?_) rfl (by decide +kernel) (by decide +kernel) (by decide +kernel) (fun _ _ _ h=>h) ?_ ?_
        case refine_2=>(intro _;unfold Zd;go_simp;try with_reducible rfl)
        try simp only[lay]
        refine Zc (i:=7) (op:=Op.move (Operand.tmp 14)) (t:=3) (d:=some 72) (v:=?_) rfl (by decide +kernel) (by decide +kernel) (by decide +kernel) (fun _ _ _ h=>h) ?_ ?_
        case refine_2=>(intro _;unfold Zd;go_simp;try with_reducible rfl)
        try simp only[lay]
        refine Wp (n:=3) [(2,some 67),(4,some 69),(5,some 70),(8,some 73),(9,some 74),(10,some 75),(11,some 76)] (fun | 2=>.slice (some ⟨cb,cof,none⟩) co.length d | 4=>.pointer (some ⟨cb,cof+src,none⟩) | 5=>.slice (some ⟨rb5,ro5,none⟩) co.length d5' | 8=>.pointer (some ⟨lb,lo+b',none⟩) | 9=>.int .i64 (v:Int) | 10=>.pointer (some ⟨rb5,ro5+v,none⟩) | 11=>.int .i64 cv | _=>undef) #[true,true,true,true,true,true,true,true,true,true,true,true,false,false,false] (by decide +kernel) ?_ ?_
        ·intro pS hpm uS hD K hK
         simp only[List.mem_cons,List.not_mem_nil,or_false] at hpm;rcases hpm with rfl | rfl | rfl | rfl | rfl | rfl | rfl
         ·exact Zr (T:=23) (x:=Operand.tmp 66) (t:=23) (d:=some 67) rfl (.pointer (some ⟨w.heap.size,5,none⟩)) (by kernel_rfl) (.slice (some ⟨cb,cof,none⟩) co.length d) (by go_simp) hK
         ·exact Yt (T:=23) (x:=Operand.tmp 67) (y:=Operand.tmp 68) (t:=0) (d:=some 69) rfl (.slice (some ⟨cb,cof,none⟩) co.length d) (.int .i64 (src:Int)) (Eq.trans (b:=uS 2) (by kernel_rfl) (hD 2 (Zf (by kernel_rfl)))) (by kernel_rfl) (.pointer (some ⟨cb,cof+src,none⟩)) (by go_simp) hK
         ·exact Zr (T:=22) (x:=Operand.tmp 69) (t:=22) (d:=some 70) rfl (.pointer (some ⟨cb,cof+src,none⟩)) (Eq.trans (b:=uS 4) (by kernel_rfl) (hD 4 (Zf (by kernel_rfl)))) (.slice (some ⟨rb5,ro5,none⟩) co.length d5') (by go_simp) hK
         ·exact Yt (T:=22) (x:=Operand.tmp 71) (y:=Operand.tmp 72) (t:=0) (d:=some 73) rfl (.slice (some ⟨lb,lo,none⟩) l.length lc) (.int .i64 (b':Int)) (by kernel_rfl) (by kernel_rfl) (.pointer (some ⟨lb,lo+b',none⟩)) (by go_simp) hK
         ·exact Zr (T:=3) (x:=Operand.tmp 73) (t:=3) (d:=some 74) rfl (.pointer (some ⟨lb,lo+b',none⟩)) (Eq.trans (b:=uS 8) (by kernel_rfl) (hD 8 (Zf (by kernel_rfl)))) (.int .i64 (v:Int)) (by go_simp) hK
         ·exact Yt (T:=22) (x:=Operand.tmp 70) (y:=Operand.tmp 74) (t:=0) (d:=some 75) rfl (.slice (some ⟨rb5,ro5,none⟩) co.length d5') (.int .i64 (v:Int)) (Eq.trans (b:=uS 5) (by kernel_rfl) (hD 5 (Zf (by kernel_rfl)))) (Eq.trans (b:=uS 9) (by kernel_rfl) (hD 9 (Zf (by kernel_rfl)))) (.pointer (some ⟨rb5,ro5+v,none⟩)) (by go_simp) hK
         ·exact Zr (T:=3) (x:=Operand.tmp 75) (t:=3) (d:=some 76) rfl (.pointer (some ⟨rb5,ro5+v,none⟩)) (Eq.trans (b:=uS 10) (by kernel_rfl) (hD 10 (Zf (by kernel_rfl)))) (.int .i64 cv) (by go_simp) hK
        simp only[Zj,Act.put,List.setIfInBounds_toArray,List.set_cons_zero,List.set_cons_succ];refine Zm 12 (by decide +kernel) (VZ rfl (.int .i64 cv) (by kernel_rfl) _ (Ud _ _) ?_)
        try simp only[lay]
        have oN2:OwI (wi.drew.alloc (.cells #[.int .i64 cv] 3)) wo.heap.size RA rc (row.take b'):=oN.out.ext (((Ext.rf _).drew).alloc _);obtain⟨A5,c5,w5,hrun,o5,g5,-⟩:=Xk (wi.drew.alloc (.cells #[.int .i64 cv] 3)) wo.heap.size 22 RA b' rc (row.take b') [cv] (some ⟨wi.drew.heap.size,0,none⟩) 1 ltk.symm oN2 (.blk (.new rfl) rfl) (by simp;omega) (by simp;omega);have X5:=Ext.grow ((Z.out.drew).alloc (.cells #[.int .i64 cv] 3)) g5 (fun k hk=>(oN2.lt k hk).1);have lapp:(row.take b'++[cv]).length=b'+1:=by rw[List.length_append,ltk];rfl
        rw[lapp] at hrun;refine Zm 13 (by decide +kernel) (V0 rfl (.slice RA b' rc) (.slice (some ⟨wi.drew.heap.size,0,none⟩) 1 1) (by kernel_rfl) (by kernel_rfl) _ hrun ?_)
        try simp only[lay]
        refine Zc (i:=14) (op:=Op.assign (Operand.tmp 78)) (t:=22) (d:=some 13) (v:=?_) rfl (by decide +kernel) (by decide +kernel) (by decide +kernel) (fun _ _ _ h=>h) ?_ ?_
        case refine_2=>(intro _;unfold Zd;go_simp;try with_reducible rfl)
        try simp only[lay]
        refine wpAny_done (by kernel_rfl) ?_ _;clear hrun lapp;go_simp;go_wp2_with (fail);go_roundw
        case rel =>
         refine⟨b'+1,A5,c5,by go_num,?_,by omega,?_⟩
         ·first | rfl | (rw[List.length_append,ltk];rfl) | (simp;omega)
         ·exact(show OwI w5 wo.heap.size A5 c5 (row.take (b'+1))/\Ext wo w5 from⟨by rw[etb.out];exact o5,X5⟩)
        case measure=>simp[intOf]<;>omega
       ·obtain rfl:b'=l.length:=by omega
        have q2:¬((l.length:Int)<(l.length:Int)):=by omega
        have er:=ehome.out;have etb:Hid (row=row.take l.length++[-1]):=Hd (by
         have h1:row.take (l.length+1)=row:=List.take_of_length_le (by rw[lrow];exact Nat.le_refl _);rw[<-h1,List.take_add_one,er];simp[lrow])
        clear er;have oN2:Hid (OwI (wi.alloc (.cells #[.int .i64 (-1)] 3)) wo.heap.size RA rc (row.take l.length)):=oN.out.ext ((Ext.rf _).alloc _);go_wp2_with (first | (at_builtin;go_loud (refine Ya _ rfl _ _ rfl wo.heap.size RA l.length rc (row.take l.length) [-1] (some ⟨wi.heap.size,0,none⟩) 1 rfl rfl ltk.symm ?_ ?_ ?_ ?_ ?_;(exact oN2.out);(exact .blk (.new rfl) rfl);(simp;omega);(simp;omega);rintro A5 c5 w5 o5 g5 _;have X5:=Ext.grow (Z.out.alloc _) g5 (fun k hk=>(oN2.out.lt k hk).1);rw[<-etb.out] at o5 ⊢;rw[lrow])) | (at_builtin;refine Yq _ (e:=22) Tryz.underlying23 hi.out hz0.out hz1.out hz2.out (by simp[Value.cells]) (by omega) rfl _ _ rfl w.heap.size MA 0 mc mus (some ⟨w5.heap.size,0,none⟩) 1 1 [.slice A5 (l.length+1) c5] rfl rfl ((oV.out.ext X5).ext ((Ext.rf _).alloc _)) (RdV.blk (.new (by simp))).rdC (by simp) (by simp[Value.oneCell']) (by simp only[maxLen];omega) (by omega) (by have:=X5.size;simp;omega) ?_;rintro M6' m6 w6 o6 g6 _));have oV5:=(oV.out.ext X5).ext ((Ext.rf w5).alloc (.cells #[.slice A5 (l.length+1) c5] 22));have M6:=oV5.grownT g6;have X6:Ext wo (w5.alloc (.cells #[.slice A5 (l.length+1) c5] 22)):=X5.tr ((Ext.rf _).alloc _);have NEW:Hid (OwV w6 w.heap.size 22 1 M6' (0+1) m6 (mus++[.slice A5 (l.length+1) c5])/\RowsO w6 w.heap.size (mus++[.slice A5 (l.length+1) c5]) (ms.take (0+1))/\Ext w w6/\Blk w6 w.heap.size 25 #[.int .i64 kind,.int .i64 co.length,.int .i64 cap,.slice A xw.length a,.slice B xv.length b,.slice (some ⟨cb,cof,none⟩) co.length d]/\OwI w6 w.heap.size (some ⟨lb,lo,none⟩) lc (Zl l)):=by
         refine⟨o6,?_,(Y.out.tr X6).modT M6 (Nat.le_refl _),(bI.out.ext X6).modT M6 (by decide),(oL.out.ext X6).modT M6 (by decide)⟩;rw[etk.out];have h:=((oR.out.ext X6).modT M6 (by decide)).snoc (((o5.more zwo).ext ((Ext.rf _).alloc _)).modT M6 (by decide));rw[lrow] at h;exact h
        go_roundw
        case rel=>exact⟨0+1,0,M6',m6,mus++[.slice A5 (l.length+1) c5],by go_num,by exact(show (0:Int)=((0+1:Nat):Int)-1 from by omega),rfl,by omega,NEW⟩
        case measure=>simp[intOf]<;>omega
     | succ k =>
      obtain rfl:aa=(k:Int):=by have:=haa.out;omega
      have hkl:k<l.length:=by omega
      have ek:l[k]?=some src:=by have h:=hsrc.out;simpa using h
      obtain⟨lb',lo',xs,hq,zs,cs0,es,_⟩:=oL.out.read.at (k:=k) (by rw[Zq];exact hkl);obtain⟨rfl,rfl⟩:lb=lb'/\lo=lo':=by simpa using hq
      have exs:xs=(src:Int):=by
       have h:=es.out;rw[Yr ek] at h;exact(Option.some.inj h).symm
      subst exs;clear haa es hq;replace ek:=Hd ek;have q1:(k:Int)<(l.length:Int):=by omega
      have q1':¬((k:Int)<0):=by omega
      have START2:Hid (OwI wo wo.heap.size none 0 (row.take 0)/\Ext wo wo):=⟨OwI.nil _ _,Ext.rf _⟩;have hrg:Hid (OwI (wo.alloc (.cells #[] 3)) wo.heap.size (some ⟨wo.heap.size,0,none⟩) 0 (row.take 0)/\Ext wo (wo.alloc (.cells #[] 3))):=⟨OwI.empty (.new rfl) (Nat.le_refl _),(Ext.rf _).alloc _⟩;go_wp2_with (fail);go_loopw [13,14] (fun v13 v14 wr=>∃ (b:Nat) (RA:Option Addr) (rc:Nat),v14=.int .i64 b/\v13=.slice RA b rc/\b<=l.length/\Hid (OwI wr wo.heap.size RA rc (row.take b)/\Ext wo wr)) (fun _ v14 _=>l.length-(intOf v14).toNat)
      case atStart=>exact⟨0,some ⟨wo.heap.size,0,none⟩,0,rfl,rfl,by omega,hrg⟩
      case round =>
       obtain⟨wi,rfl⟩:∃ wi:World,wi=wr:=⟨_,rfl⟩;clear START2 hrg;obtain⟨b',RA,rc,rfl,rfl,hb,HR⟩:=hrel;obtain⟨oN,Z⟩:=HR.out;replace oN:=Hd oN;replace Z:=Hd Z;have zwi:=Z.out.size;have d5:wi.cell? ⟨w.heap.size,5,none⟩=some (.slice (some ⟨cb,cof,none⟩) co.length d):=(bI.out.ext Z.out).cell 5;have ltk:(row.take b').length=b':=by rw[List.length_take,lrow];omega
       clear HR
       by_cases hlb:b'<l.length
       ·have eb:l[b']?=some l[b']:=List.getElem?_eq_getElem hlb
        have hvn:=hin.out _ (List.getElem_mem hlb);have er:=erow.out b' _ eb;obtain⟨lb2,lo2,xv2,hq2,zl2,cl2,el2,_⟩:=(oL.out.ext Z.out).read.at (k:=b') (by rw[Zq];exact hlb);obtain⟨rfl,rfl⟩:lb=lb2/\lo=lo2:=by simpa using hq2
        have exv:xv2=((l[b']:Nat):Int):=by
         have h:=el2.out;rw[Yr eb] at h;exact(Option.some.inj h).symm
        subst exv;generalize l[b']=v at *;have etb:Hid (row.take (b'+1)=row.take b'++[if b'+1=k+1 then -1 else Za co src v]):=Hd (by rw[List.take_add_one,er];rfl);have q2:(b':Int)<(l.length:Int):=by omega
        clear er eb el2 hq2
        by_cases hbk:b'=k
        ·have hif:(if b'+1=k+1 then(-1:Int) else Za co src v)=-1:=if_pos (by omega)
         rw[hif] at etb;have te:((b':Int)==(k:Int))=true:=by rw[beq_iff_eq];omega
         have oN2:OwI (wi.alloc (.cells #[.int .i64 (-1)] 3)) wo.heap.size RA rc (row.take b'):=oN.out.ext ((Ext.rf _).alloc _);go_wp2_with (at_builtin;go_loud (refine Ya _ rfl _ _ rfl wo.heap.size RA b' rc (row.take b') [-1] (some ⟨wi.heap.size,0,none⟩) 1 rfl rfl ltk.symm ?_ ?_ ?_ ?_ ?_;(exact oN2);(exact .blk (.new rfl) rfl);(simp;omega);(simp;omega);rintro A5 c5 w5 o5 g5 _;have X5:=Ext.grow (Z.out.alloc _) g5 (fun k hk=>(oN2.lt k hk).1)));go_roundw
         case rel =>
          refine⟨b'+1,A5,c5,by go_num,?_,by omega,?_⟩
          ·first | rfl | (rw[List.length_append,ltk];rfl) | (simp;omega)
          ·exact(show OwI w5 wo.heap.size A5 c5 (row.take (b'+1))/\Ext wo w5 from⟨by rw[etb.out];exact o5,X5⟩)
         case measure=>simp[intOf]<;>omega
        ·have hif:(if b'+1=k+1 then(-1:Int) else Za co src v)=Za co src v:=if_neg (by omega)
         rw[hif] at etb;have te:((b':Int)==(k:Int))=false:=by rw[beq_eq_false_iff_ne];omega
         obtain⟨rb5,ro5,d5',c51,c52⟩:=CA.out _ (Y.out.tr Z.out) src v hsn hvn;obtain⟨cv,hcv⟩:∃ cv,Hid (Za co src v=cv):=⟨_,rfl⟩;rw[hcv.out] at c52 etb;have q3:(src:Int)<(co.length:Int):=by omega
         have q4:(v:Int)<(co.length:Int):=by omega
         go_upto_region 19 with(fail);refine wp_region_any (by kernel_rfl) ?_
         change wpAny _ _ _ _ _ _ _ (World.drew _)
         refine Zc (i:=0) (op:=Op.move (Operand.tmp 13)) (t:=22) (d:=some 65) (v:=?_) rfl (by decide +kernel) (by decide +kernel) (by decide +kernel) (fun _ _ _ h=>h) ?_ ?_
         case refine_2=>(intro _;unfold Zd;go_simp;try with_reducible rfl)
         try simp only[lay]
         refine Zc (i:=1) (op:=Op.fieldAddr 25 (Operand.tmp 2) 5) (t:=0) (d:=some 66) (v:=?_) rfl (by decide +kernel) (by decide +kernel) (by decide +kernel) (fun _ _ _ h=>h) ?_ ?_
         case refine_2=>(intro _;unfold Zd;go_simp;try with_reducible rfl)
         try simp only[lay]
         refine Zc (i:=3) (op:=Op.move (Operand.tmp 12)) (t:=3) (d:=some 68) (v:=?_) rfl (by decide +kernel) (by decide +kernel) (by decide +kernel) (fun _ _ _ h=>h) ?_ ?_
         case refine_2=>(intro _;unfold Zd;go_simp;try with_reducible rfl)
         try simp only[lay]
         refine Zc (i:=6) (op:=Op.move (Operand.tmp 6)) (t:=22) (d:=some 71) (v:=?_) rfl (by decide +kernel) (by decide +kernel) (by decide +kernel) (fun _ _ _ h=>h) ?_ ?_
         case refine_2=>(intro _;unfold Zd;go_simp;try with_reducible rfl)
         try simp only[lay]
         refine Zc (i:=7) (op:=Op.move (Operand.tmp 14)) (t:=3) (d:=some 72) (v:=?_) rfl (by decide +kernel) (by decide +kernel) (by decide +kernel) (fun _ _ _ h=>h) ?_ ?_
         case refine_2=>(intro _;unfold Zd;go_simp;try with_reducible rfl)
         try simp only[lay]
         refine Wp (n:=3) [(2,some 67),(4,some 69),(5,some 70),(8,some 73),(9,some 74),(10,some 75),(11,some 76)] (fun | 2=>.slice (some ⟨cb,cof,none⟩) co.length d | 4=>.pointer (some ⟨cb,cof+src,none⟩) | 5=>.slice (some ⟨rb5,ro5,none⟩) co.length d5' | 8=>.pointer (some ⟨lb,lo+b',none⟩) | 9=>.int .i64 (v:Int) | 10=>.pointer (some ⟨rb5,ro5+v,none⟩) | 11=>.int .i64 cv | _=>undef) #[true,true,true,true,true,true,true,true,true,true,true,true,false,false,false] (by decide +kernel) ?_ ?_
         ·intro pS hpm uS hD K hK
          simp only[List.mem_cons,List.not_mem_nil,or_false] at hpm;rcases hpm with rfl | rfl | rfl | rfl | rfl | rfl | rfl
          ·exact Zr (T:=23) (x:=Operand.tmp 66) (t:=23) (d:=some 67) rfl (.pointer (some ⟨w.heap.size,5,none⟩)) (by kernel_rfl) (.slice (some ⟨cb,cof,none⟩) co.length d) (by go_simp) hK
          ·exact Yt (T:=23) (x:=Operand.tmp 67) (y:=Operand.tmp 68) (t:=0) (d:=some 69) rfl (.slice (some ⟨cb,cof,none⟩) co.length d) (.int .i64 (src:Int)) (Eq.trans (b:=uS 2) (by kernel_rfl) (hD 2 (Zf (by kernel_rfl)))) (by kernel_rfl) (.pointer (some ⟨cb,cof+src,none⟩)) (by go_simp) hK
          ·exact Zr (T:=22) (x:=Operand.tmp 69) (t:=22) (d:=some 70) rfl (.pointer (some ⟨cb,cof+src,none⟩)) (Eq.trans (b:=uS 4) (by kernel_rfl) (hD 4 (Zf (by kernel_rfl)))) (.slice (some ⟨rb5,ro5,none⟩) co.length d5') (by go_simp) hK
          ·exact Yt (T:=22) (x:=Operand.tmp 71) (y:=Operand.tmp 72) (t:=0) (d:=some 73) rfl (.slice (some ⟨lb,lo,none⟩) l.length lc) (.int .i64 (b':Int)) (by kernel_rfl) (by kernel_rfl) (.pointer (some ⟨lb,lo+b',none⟩)) (by go_simp) hK
          ·exact Zr (T:=3) (x:=Operand.tmp 73) (t:=3) (d:=some 74) rfl (.pointer (some ⟨lb,lo+b',none⟩)) (Eq.trans (b:=uS 8) (by kernel_rfl) (hD 8 (Zf (by kernel_rfl)))) (.int .i64 (v:Int)) (by go_simp) hK
          ·exact Yt (T:=22) (x:=Operand.tmp 70) (y:=Operand.tmp 74) (t:=0) (d:=some 75) rfl (.slice (some ⟨rb5,ro5,none⟩) co.length d5') (.int .i64 (v:Int)) (Eq.trans (b:=uS 5) (by kernel_rfl) (hD 5 (Zf (by kernel_rfl)))) (Eq.trans (b:=uS 9) (by kernel_rfl) (hD 9 (Zf (by kernel_rfl)))) (.pointer (some ⟨rb5,ro5+v,none⟩)) (by go_simp) hK
          ·exact Zr (T:=3) (x:=Operand.tmp 75) (t:=3) (d:=some 76) rfl (.pointer (some ⟨rb5,ro5+v,none⟩)) (Eq.trans (b:=uS 10) (by kernel_rfl) (hD 10 (Zf (by kernel_rfl)))) (.int .i64 cv) (by go_simp) hK
         simp only[Zj,Act.put,List.setIfInBounds_toArray,List.set_cons_zero,List.set_cons_succ];refine Zm 12 (by decide +kernel) (VZ rfl (.int .i64 cv) (by kernel_rfl) _ (Ud _ _) ?_)
         try simp only[lay]
         have oN2:OwI (wi.drew.alloc (.cells #[.int .i64 cv] 3)) wo.heap.size RA rc (row.take b'):=oN.out.ext (((Ext.rf _).drew).alloc _);obtain⟨A5,c5,w5,hrun,o5,g5,-⟩:=Xk (wi.drew.alloc (.cells #[.int .i64 cv] 3)) wo.heap.size 22 RA b' rc (row.take b') [cv] (some ⟨wi.drew.heap.size,0,none⟩) 1 ltk.symm oN2 (.blk (.new rfl) rfl) (by simp;omega) (by simp;omega);have X5:=Ext.grow ((Z.out.drew).alloc (.cells #[.int .i64 cv] 3)) g5 (fun k hk=>(oN2.lt k hk).1);have lapp:(row.take b'++[cv]).length=b'+1:=by rw[List.length_append,ltk];rfl
         rw[lapp] at hrun;refine Zm 13 (by decide +kernel) (V0 rfl (.slice RA b' rc) (.slice (some ⟨wi.drew.heap.size,0,none⟩) 1 1) (by kernel_rfl) (by kernel_rfl) _ hrun ?_)
         try simp only[lay]
         refine Zc (i:=14) (op:=Op.assign (Operand.tmp 78)) (t:=22) (d:=some 13) (v:=?_) rfl (by decide +kernel) (by decide +kernel) (by decide +kernel) (fun _ _ _ h=>h) ?_ ?_
         case refine_2=>(intro _;unfold Zd;go_simp;try with_reducible rfl)
         try simp only[lay]
         refine wpAny_done (by kernel_rfl) ?_ _;clear hrun lapp;go_simp;go_wp2_with (fail);go_roundw
         case rel =>
          refine⟨b'+1,A5,c5,by go_num,?_,by omega,?_⟩
          ·first | rfl | (rw[List.length_append,ltk];rfl) | (simp;omega)
          ·exact(show OwI w5 wo.heap.size A5 c5 (row.take (b'+1))/\Ext wo w5 from⟨by rw[etb.out];exact o5,X5⟩)
         case measure=>simp[intOf]<;>omega
       ·obtain rfl:b'=l.length:=by omega
        have q2:¬((l.length:Int)<(l.length:Int)):=by omega
        have er:=ehome.out;have etb:Hid (row=row.take l.length++[Za co src 0]):=Hd (by
         have h1:row.take (l.length+1)=row:=List.take_of_length_le (by rw[lrow];exact Nat.le_refl _);rw[<-h1,List.take_add_one,er];simp[lrow])
        clear er;obtain⟨rb6,ro6,d6,c61,c62⟩:=CA.out _ (Y.out.tr Z.out) src 0 hsn (by omega);obtain⟨cv0,hcv0⟩:∃ cv0,Hid (Za co src 0=cv0):=⟨_,rfl⟩;rw[hcv0.out] at c62 etb;replace c62:wi.cell? ⟨rb6,ro6,none⟩=some (.int .i64 cv0):=c62;have q3:(src:Int)<(co.length:Int):=by omega
        have q4:(0:Int)<(co.length:Int):=by omega
        have oN2:Hid (OwI (wi.alloc (.cells #[.int .i64 (cv0)] 3)) wo.heap.size RA rc (row.take l.length)):=oN.out.ext ((Ext.rf _).alloc _);go_wp2_with (first | (at_builtin;go_loud (refine Ya _ rfl _ _ rfl wo.heap.size RA l.length rc (row.take l.length) [cv0] (some ⟨wi.heap.size,0,none⟩) 1 rfl rfl ltk.symm ?_ ?_ ?_ ?_ ?_;(exact oN2.out);(exact .blk (.new rfl) rfl);(simp;omega);(simp;omega);rintro A5 c5 w5 o5 g5 _;have X5:=Ext.grow (Z.out.alloc _) g5 (fun k hk=>(oN2.out.lt k hk).1);rw[<-etb.out] at o5 ⊢;rw[lrow])) | (at_builtin;refine Yq _ (e:=22) Tryz.underlying23 hi.out hz0.out hz1.out hz2.out (by simp[Value.cells]) (by omega) rfl _ _ rfl w.heap.size MA (k+1) mc mus (some ⟨w5.heap.size,0,none⟩) 1 1 [.slice A5 (l.length+1) c5] rfl rfl ((oV.out.ext X5).ext ((Ext.rf _).alloc _)) (RdV.blk (.new (by simp))).rdC (by simp) (by simp[Value.oneCell']) (by simp only[maxLen];omega) (by omega) (by have:=X5.size;simp;omega) ?_;rintro M6' m6 w6 o6 g6 _));have oV5:=(oV.out.ext X5).ext ((Ext.rf w5).alloc (.cells #[.slice A5 (l.length+1) c5] 22));have M6:=oV5.grownT g6;have X6:Ext wo (w5.alloc (.cells #[.slice A5 (l.length+1) c5] 22)):=X5.tr ((Ext.rf _).alloc _);have NEW:Hid (OwV w6 w.heap.size 22 1 M6' ((k+1)+1) m6 (mus++[.slice A5 (l.length+1) c5])/\RowsO w6 w.heap.size (mus++[.slice A5 (l.length+1) c5]) (ms.take ((k+1)+1))/\Ext w w6/\Blk w6 w.heap.size 25 #[.int .i64 kind,.int .i64 co.length,.int .i64 cap,.slice A xw.length a,.slice B xv.length b,.slice (some ⟨cb,cof,none⟩) co.length d]/\OwI w6 w.heap.size (some ⟨lb,lo,none⟩) lc (Zl l)):=by
         refine⟨o6,?_,(Y.out.tr X6).modT M6 (Nat.le_refl _),(bI.out.ext X6).modT M6 (by decide),(oL.out.ext X6).modT M6 (by decide)⟩;rw[etk.out];have h:=((oR.out.ext X6).modT M6 (by decide)).snoc (((o5.more zwo).ext ((Ext.rf _).alloc _)).modT M6 (by decide));rw[lrow] at h;exact h
        go_roundw
        case rel=>exact⟨k+1+1,((k:Int)+1),M6',m6,mus++[.slice A5 (l.length+1) c5],by go_num,by exact(show ((k:Int)+1)=((k+1+1:Nat):Int)-1 from by omega),rfl,by omega,NEW⟩
        case measure=>simp[intOf]<;>omega
    ·obtain rfl:s=l.length+1:=by omega
     obtain rfl:aa=(l.length:Int):=by have:=haa.out;omega
     have q0:¬((l.length:Int)<(l.length:Int)):=by omega
     have etk:ms.take (l.length+1)=ms:=List.take_of_length_le (by rw[lml.out];exact Nat.le_refl _);rw[etk] at oR;have numL:∀ a b,(a=last\/a∈l)->(b=0\/b∈l)->0<=Za co a b/\Za co a b<=2147483647:=fun a b ha hb=>num.out a b (by
      rcases ha with rfl | h
      ·exact hla
      ·exact hin.out _ h) (by
      rcases hb with rfl | h
      ·omega
      ·exact hin.out _ h)
     have mn:=Zdh (rows:=co) (us:=l) (last:=last) (B:=2147483647) (by omega) numL;have mr:=Zdg (rows:=co) (us:=l) (last:=last);rw[hms.out] at mn mr;have RG:=Ja ms (l.length+1) MA mc wo (Zcx oV oR fun r hr x hx=>by have:=mn r hr x hx;omega) mr (by omega) (by omega) (by rw[lml.out];omega) (by rw[lml.out];omega) fun r hr x hx=>(mn r hr x hx).2
     have eg:=JS (rows:=co) (us:=l) (last:=last) (fun a b ha hb=>(numL a b ha hb).1) hnl.out h0m.out;rw[hms.out] at eg;rw[eg,lml.out] at RG;have bI':=Hd bI;have Y':=Hd Y;have oL':=Hd oL;replace RG:=Hd RG;have c0:∀ j:Nat,wo.cell? ⟨w.heap.size,j,none⟩=#[Value.int .i64 kind,.int .i64 co.length,.int .i64 cap,.slice A xw.length a,.slice B xv.length b,.slice (some ⟨cb,cof,none⟩) co.length d][j]?:=fun j=>bI.cell j
     clear HH oV oR bI oL mn mr eg etk numL haa;go_wp2_with (fail);refine RG.out.mono ?_;rintro e w2 ⟨rfl,x2⟩;have Y2:=Hd (Y'.out.tr x2);have bI2:=bI'.out.ext x2;have c0:=bI2.c0;have c1:=bI2.c1;have c2:=bI2.c2;have c3:=bI2.c3;have c4:=bI2.c4;have c5:=bI2.c5;replace bI2:=Hd bI2;have oL2:=Hd (oL'.out.ext x2);clear x2;go_wp2_with (fail);refine(MI.out _ Y2.out).mono ?_;rintro e w3 ⟨rfl,x3⟩;have Y3:=Hd (Y2.out.tr x3);have bI3:=bI2.out.ext x3;clear c0 c1 c2 c3 c4 c5;have br:=bred.out;have be:=bend.out;obtain⟨mi,hmi⟩:∃ mi,Hid (Xy co=mi):=⟨_,rfl⟩;rw[hmi.out] at ht2 ⊢;obtain⟨rv,hrv⟩:∃ rv,Hid (ZH co l last=rv):=⟨_,rfl⟩;rw[hrv.out] at ht2 br ⊢
     cases mi with
     | false =>
      have ht3:Hid (tot=cost+rv):=ht2.out;have hw:IntKind.i64.wrap (cost+rv)=cost+rv:=IntWalk.i64_in _ (by omega);go_wp2_with (fail);go_ret2;rw[ht3.out];exact⟨rfl,Y3.out⟩
     | true =>
      have ht3:Hid (tot=cost+max rv ((Xg co l last+1) / 2)):=ht2.out;have ENN:=EN.out w3 Y3.out LA lc l last (oL2.out.ext x3).read hin.out (List.nodup_cons.1 hnod.out).2 (by omega) hla;obtain⟨ev,hev⟩:∃ ev,Hid (Xg co l last=ev):=⟨_,rfl⟩;rw[hev.out] at ENN be ht3;have c0:=bI3.c0;have c1:=bI3.c1;have c2:=bI3.c2;have c3:=bI3.c3;have c4:=bI3.c4;have c5:=bI3.c5;have hq:ev.tdiv 2=ev / 2:=Int.tdiv_eq_ediv_of_nonneg (by omega);have hr:ev.tmod 2=ev%2:=Int.tmod_eq_emod_of_nonneg (by omega);have hw1:IntKind.i64.wrap (ev / 2)=ev / 2:=IntWalk.i64_in _ (by omega);have hw2:IntKind.i64.wrap (ev%2)=ev%2:=IntWalk.i64_in _ (by omega);have hes:ev / 2+ev%2=(ev+1) / 2:=by omega
      have hw3:IntKind.i64.wrap ((ev+1) / 2)=(ev+1) / 2:=IntWalk.i64_in _ (by omega);have hmax:(if rv<(ev+1) / 2 then(ev+1) / 2 else rv)=max rv ((ev+1) / 2):=by split<;>omega
      obtain⟨mv,hmv⟩:∃ mv,Hid (max rv ((ev+1) / 2)=mv):=⟨_,rfl⟩;have bmv:0<=mv/\mv<=4294967294*100:=by rw[<-hmv.out];omega
      rw[hmv.out] at ht3 hmax;have hw4:IntKind.i64.wrap (cost+mv)=cost+mv:=IntWalk.i64_in _ (by omega);replace ENN:=Hd ENN;replace bI3:=Hd bI3;go_wp2_with (fail);refine ENN.out.mono ?_;rintro e w4 ⟨rfl,x4⟩;have Y4:=Hd (Y3.out.tr x4);clear x4 c0 c1 c2 c3 c4 c5;go_wp2_with (fail);go_ret2;rw[ht3.out];exact⟨rfl,Y4.out⟩
theorem YW {i:InstP}(h:Zn i=0) : i.kind=1\/i.kind=2\/i.kind=3:=by
 unfold Zn at h
 by_cases hs:YK i.kind i.n=0
 ·exact Ve hs
 ·rw[if_neg hs] at h
  exact absurd h hs
def ZC (i:InstP)(x:List Int) : Int×Int :=
 if Zn i≠0 then(0,Zn i)
 else if i.kind=1 then(if (x.length:Int)=i.n/\∀ v∈x,v=0\/v=1 then XB i.cap i.weight i.value x else(0,1))
 else if XF x i.cost.length=true/\(i.kind=3->x[0]?=some 0) then(if i.kind=2 then Z1 i.cost x else WP i.cost 0 (x.tail.map Int.toNat),0) else(0,1)
theorem JZ (k n cap:Int)(A B C:Option Addr)(a b c:Nat)(xs ys:List Int)(l:List (List Int))(w:World)(hk:k≠1)(hC:RdE 1 RInts w C l)(lc:l.length<=c)(mc:c<=maxLen)(lx:xs.length<=maxLen)(ly:ys.length<=maxLen)(lxy:xs.length+ys.length<=maxLen) :
  Calls Tryz.prog 70 #[.agg #[.int .i64 k,.int .i64 n,.int .i64 cap,.slice A xs.length a,.slice B ys.length b,.slice C l.length c]] w fun e w'=>e=.returned (.bool ((((l.length:Int)==n)&&(cap==0)&&decide (xs.length+ys.length=0)) && !(l.any fun r=>(r.length:Int) != n)))/\Ext w w':=by
 have B1:Hid (Blk (w.alloc (.cells #[.int .i64 k,.int .i64 n,.int .i64 cap,.slice A xs.length a,.slice B ys.length b,.slice C l.length c] 25)) w.heap.size 25 #[.int .i64 k,.int .i64 n,.int .i64 cap,.slice A xs.length a,.slice B ys.length b,.slice C l.length c]):=.new rfl;have hk':(k==1)=false:=by simpa using hk
 have lm:l.length<=maxLen:=by omega
 replace hC:=Hd hC;replace mc:=Hd mc;replace lm:=Hd lm;clear hk
 cases h1:((l.length:Int)==n)
 ·have h1':((l.length:Int) != n)=true:=by simp only[bne,h1];rfl
  go_enter Tryz.func70,Tryz.ntmps70;go_wp2;go_ret;exact⟨rfl,by(repeat (first | assumption | exact Ext.rf _ | apply Ext.drew | apply Ext.drewN | apply Ext.alloc))⟩
 ·have h1':((l.length:Int) != n)=false:=by simp only[bne,h1];rfl
  cases h2:(cap==0)
  ·have h2':(cap != 0)=true:=by simp only[bne,h2];rfl
   go_enter Tryz.func70,Tryz.ntmps70;go_wp2;go_ret;exact⟨rfl,by(repeat (first | assumption | exact Ext.rf _ | apply Ext.drew | apply Ext.drewN | apply Ext.alloc))⟩
  ·have h2':(cap != 0)=false:=by simp only[bne,h2];rfl
   by_cases hs:xs.length+ys.length=0
   ·have hs1:decide (xs.length+ys.length=0)=true:=by simpa using hs
    rw[hs1];have l0:xs.length=0:=by omega
    have l1:ys.length=0:=by omega
    rw[l0,l1] at B1 ⊢;clear hs hs1 l0 l1 lx ly lxy;go_enter Tryz.func70,Tryz.ntmps70;go_wp2_with (fail);refine(Jy _ _ (fun m=>(m:Int) != n) Up C c l _ (hC.out.ext ((Ext.rf _).alloc _) fun _ _ h=>h.ext ((Ext.rf _).alloc _)) lm.out ?_).mono ?_
    ·intro W D r d _ hx
     exact Jz D r.length d w.heap.size n _ W (B1.out.ext hx) rfl
    rintro e w' ⟨rfl,x'⟩;go_wp2;go_ret;exact⟨by simp,Ext.tr (a:=w) (by(repeat (first | assumption | exact Ext.rf _ | apply Ext.drew | apply Ext.drewN | apply Ext.alloc))) x'⟩
   ·have hs1:decide (xs.length+ys.length=0)=false:=by simpa using hs
    rw[hs1];have hs2:(0:Int)<(xs.length:Int)+(ys.length:Int):=by omega
    have hs3:IntKind.i64.wrap ((xs.length:Int)+(ys.length:Int))=(xs.length:Int)+(ys.length:Int):=IntWalk.i64_in _ (by simp only[maxLen] at lxy;omega);clear hs hs1;go_enter Tryz.func70,Tryz.ntmps70;go_wp2;go_ret;exact⟨rfl,by(repeat (first | assumption | exact Ext.rf _ | apply Ext.drew | apply Ext.drewN | apply Ext.alloc))⟩
theorem ZbL (i:InstP)(vs:List Value)(w:World)(H:RInst w vs i)(lw:i.weight.length<=maxLen)(lv:i.value.length<=maxLen)(lwv:i.weight.length+i.value.length<=maxLen) :
  Calls Tryz.prog 34 #[.agg (List.toArray vs)] w fun e w'=>e=.returned (.int .i64 (Zn i))/\Ext w w':=by
 obtain⟨k,n,cap,xs,ys,l⟩:=i;obtain⟨A,a,B,b,C,c,rfl,⟨rA,iA,lA,mA⟩,⟨rB,iB,lB,mB⟩,⟨rC,lC,mC⟩⟩:=H;simp only at *;have B1:Hid (Blk (w.alloc (.cells #[.int .i64 k,.int .i64 n,.int .i64 cap,.slice A xs.length a,.slice B ys.length b,.slice C l.length c] 25)) w.heap.size 25 #[.int .i64 k,.int .i64 n,.int .i64 cap,.slice A xs.length a,.slice B ys.length b,.slice C l.length c]):=.new rfl;replace rA:=Hd rA;replace rB:=Hd rB;replace rC:=Hd rC;replace iA:=Hd iA;replace iB:=Hd iB;replace mA:=Hd mA;replace mB:=Hd mB;replace mC:=Hd mC;have X1:Ext w (w.alloc (.cells #[.int .i64 k,.int .i64 n,.int .i64 cap,.slice A xs.length a,.slice B ys.length b,.slice C l.length c] 25)):=(Ext.rf _).alloc _;replace X1:=Hd X1;go_enter Tryz.func34,Tryz.ntmps34;go_wp2_with (fail);refine(Js k n cap _ _ _ _).mono ?_;rintro e w2 ⟨rfl,x2⟩;have X2:=Hd (Ext.tr X1.out x2);have B2:=Hd (B1.out.ext x2);have d0:=B2.out.c0;have d1:=B2.out.c1;have d2:=B2.out.c2;have d3:=B2.out.c3;have d4:=B2.out.c4;have d5:=B2.out.c5
 by_cases hs:YK k n=0
 ·have hs':(YK k n != 0)=false:=by simpa using hs
  have qHS:Zn ⟨k,n,cap,xs,ys,l⟩=(if Xt ⟨k,n,cap,xs,ys,l⟩=true then(if k=1 then ZL cap xs ys xs.length else Yu k 0 l) else 8):=by
   unfold Zn;simp only[if_pos hs]
  have HS:=Hd qHS;clear qHS;have kk:=Ve hs;replace hs:=Hd hs;clear x2
  by_cases k1:k=1
  ·subst k1
   have qHS2:Zn ⟨1,n,cap,xs,ys,l⟩=(if (((xs.length:Int)==n)&&((ys.length:Int)==n)&&((l.length:Int)==0))=true then ZL cap xs ys xs.length else 8):=by
    have h1:=HS.out;unfold Xt at h1
    simpa only [if_true] using h1
   have HS2:=Hd qHS2;clear qHS2;clear HS;go_wp2_with (fail);refine(U2 n cap A B C a b c xs ys l _).mono ?_;rintro e w3 ⟨rfl,x3⟩;have X3:=Hd (Ext.tr X2.out x3);have B3:=Hd (B2.out.ext x3);have e0:=B3.out.c0;have e1:=B3.out.c1;have e2:=B3.out.c2;have e3:=B3.out.c3;have e4:=B3.out.c4;have e5:=B3.out.c5;clear d0 d1 d2 d3 d4 d5 x3 kk
   cases hh:(((xs.length:Int)==n)&&((ys.length:Int)==n)&&((l.length:Int)==0)) with
   | false =>
    have qHC:Zn ⟨1,n,cap,xs,ys,l⟩=8:=by
     have h1:=HS2.out;rw[hh,if_neg (by decide)] at h1;exact h1
    have HC:=Hd qHC;clear qHC;clear hh;go_wp2;go_ret;exact⟨ZW HC.out.symm,X3.out⟩
   | true =>
    have qHC:Zn ⟨1,n,cap,xs,ys,l⟩=ZL cap xs ys xs.length:=by
     have h1:=HS2.out;rw[hh,if_pos rfl] at h1;exact h1
    have HC:=Hd qHC;clear qHC;simp only[Bool.and_eq_true,beq_iff_eq] at hh;obtain⟨⟨rfl,hy⟩,hz⟩:=hh;clear HS2;have hyx:Hid (xs.length=ys.length):=by(have:xs.length=ys.length:=by omega);exact this
    clear hy hz;go_wp2_with (fail);refine(QD A B a b 1 cap xs ys _ _ (rA.out.ext X3.out) (rB.out.ext X3.out) lA mA.out lB mB.out hyx.out).mono ?_;rintro e w4 ⟨rfl,x4⟩;go_wp2;go_ret;exact⟨ZW HC.out.symm,Ext.tr X3.out x4⟩
  ·have k1':(k==1)=false:=by simpa using k1
   have qHS2:Zn ⟨k,n,cap,xs,ys,l⟩=(if ((((l.length:Int)==n)&&(cap==0)&&decide (xs.length+ys.length=0)) && !(l.any fun r=>(r.length:Int) != n))=true then Yu k 0 l else 8):=by
    have h1:=HS.out;unfold Xt at h1
    simpa only [if_neg k1] using h1
   have HS2:=Hd qHS2;clear qHS2;clear HS;go_wp2_with (fail);refine(JZ k n cap A B C a b c xs ys l _ k1 (rC.out.ext X2.out fun _ _ h=>h.ext X2.out) lC mC.out lw lv lwv).mono ?_;rintro e w3 ⟨rfl,x3⟩;have X3:=Hd (Ext.tr X2.out x3);have B3:=Hd (B2.out.ext x3);have e0:=B3.out.c0;have e1:=B3.out.c1;have e2:=B3.out.c2;have e3:=B3.out.c3;have e4:=B3.out.c4;have e5:=B3.out.c5;clear d0 d1 d2 d3 d4 d5 x3 kk k1;generalize ((((l.length:Int)==n)&&(cap==0)&&decide (xs.length+ys.length=0)) && !(l.any fun r=>(r.length:Int) != n))=hh at HS2 ⊢
   cases hh with
   | false =>
    have HC:Hid (Zn ⟨k,n,cap,xs,ys,l⟩=8):=HS2.out;clear HS2;go_wp2;go_ret;exact⟨ZW HC.out.symm,X3.out⟩
   | true =>
    have HC:Hid (Zn ⟨k,n,cap,xs,ys,l⟩=Yu k 0 l):=HS2.out;clear HS2;go_wp2_with (fail);refine(Jw k n cap _ _ C c l _ (rC.out.ext X3.out fun _ _ h=>h.ext X3.out) lC mC.out).mono ?_;rintro e w4 ⟨rfl,x4⟩;go_wp2;go_ret;exact⟨ZW HC.out.symm,Ext.tr X3.out x4⟩
 ·have hs':(YK k n != 0)=true:=by simpa using hs
  have qHC:Zn ⟨k,n,cap,xs,ys,l⟩=YK k n:=by
   unfold Zn;simp only[if_neg hs]
  have HC:=Hd qHC;clear qHC;clear hs;go_wp2;go_ret;exact⟨ZW HC.out.symm,X2.out⟩
end Go.Proofs.YtmojhhlcocjoaaaGreatDoor
