/- packed and squeezed by programs (see wip/) -/
import Derived.Test.YtmojhhlcocjoaaaGreatDoorKurganWaysP7
set_option maxRecDepth 100000
set_option maxHeartbeats 16000000
set_option linter.unusedVariables false
set_option linter.unusedSimpArgs false
namespace Go.Proofs.YtmojhhlcocjoaaaGreatDoor
open Go.RowKit Go.ChangeShapes Go.WideShapes Go.ChangeAt Go.Deep Go.Shelf
attribute [local go_sem] Oper.semAt_some
def Zbr (i:InstP)(n:Nat)(w:World)(e:Ending)(w':World) : Prop :=
 ∃ A c m,e=.returned (.tuple #[.slice A n c,.int .i64 (Y5 (atF i.value) n m),.int .i64 0])/\RdI w' A (xB m n)/\m<2^n/\ZY (atF i.weight) n m<=i.cap/\n<=c/\c<=maxLen/\(∀ s,s<2^n->ZY (atF i.weight) n s<=i.cap->Y5 (atF i.value) n m<=Y5 (atF i.value) n s)/\Ext w w'
theorem ZfR {k n:Nat}(h:k<=n)(hn:n<=18) : 2^k<=262144:=by
 have:2^k<=2^18:=Nat.pow_le_pow_right (by omega) (by omega);omega
theorem ZdS {l:List Ld}{k:Nat}{wt vl room:Int}{d:Ld}(h:d∈Z9 l k wt vl room) : ∃ q∈l,q.1+wt<=room/\d=(q.1+wt,q.2.1+vl,q.2.2 ||| 2^k):=by
 obtain⟨q,hq,rfl⟩:=List.mem_map.1 h;obtain⟨hq,hf⟩:=List.mem_filter.1 hq;exact⟨q,hq,by simpa using hf,rfl⟩
theorem J2 (f:Nat->Int) : ∀ k,ZY f k 0=0
 | 0=>rfl
 | k+1=>by rw[ZT,J2 f k];simp
theorem OwV.some_of {w:World}{base:Nat}{e:TypeId}{size:Nat}{A:Option Addr}{n c:Nat}{vs:List Value}(h:OwV w base e size A n c vs)(hn:vs≠[]) : ∃ g,A=some ⟨g,0,none⟩:=by
 rcases h.cases with⟨_,_,_,h0⟩ | ⟨g,cur,rfl,_⟩
 ·exact absurd h0 hn
 ·exact⟨g,rfl⟩
def ZdT (F:Fence)(n:Nat)(P:Program)(fn:Func)(R:Ending->World->Prop) : Exit->Act->World->Prop
 | .normal,a,w | .ret,a,w=>LeavesInM F n P fn a.tmps R a.defers .returning w
 | _,_,_=>False
theorem UE {F:Fence}{n:Nat}{P:Program}{fn:Func}{R:Ending->World->Prop}(e:Exit)(a:Act)(w:World)(h:ZdT F n P fn R e a w) : bodyPostM F n P fn R e a w:=by
 cases e<;>first | exact h | exact h.elim
def mkX (n:Nat)(l:List Nat) : List Int:=(List.range n).map fun j=>if j∈l then 1 else 0
theorem Zav (n:Nat)(l:List Nat) : (mkX n l).length=n:=by simp[mkX]
theorem ZfD (n:Nat) : mkX n []=List.replicate n 0:=by simp[mkX,List.map_const']
theorem Zaw {n j:Nat}(l:List Nat)(h:j<n) : (mkX n l)[j]?=some (if j∈l then 1 else 0):=by
 rw[mkX,List.getElem?_map,List.getElem?_range h]
 rfl
theorem Ze3 {n x:Nat}(l:List Nat)(h:x<n) : mkX n (l++[x])=(mkX n l).set x 1:=by
 apply List.ext_getElem?;intro j
 by_cases hj:j<n
 ·rw[Zaw _ hj,List.getElem?_set,Zaw _ hj]
  by_cases e:x=j
  ·subst e
   simp[Zav,h]
  ·rw[if_neg e]
   have:¬j=x:=fun h=>e h.symm
   simp[this]
 ·rw[List.getElem?_eq_none (by rw[Zav];omega),List.getElem?_eq_none (by rw[List.length_set,Zav];omega)]
theorem Ze4 {m n:Nat}(h:n<=64) : mkX n (Zc m)=xB m n:=by
 unfold mkX xB;refine List.map_congr_left fun j hj=>?_
 have:=List.mem_range.1 hj
 by_cases hb:m.testBit j=true
 ·rw[if_pos hb,if_pos (Z1.2 ⟨by omega,hb⟩)]
 ·rw[if_neg hb,if_neg (fun h=>hb (Z1.1 h).2)]
def Qp (xs:List Int) : Array Value:=(xs.map (Value.int .i64)).toArray
theorem OwI.blkOf {w:World}{base g c:Nat}{xs:List Int}(h:OwI w base (some ⟨g,0,none⟩) c xs)(hc:c=xs.length) : Blk w g 3 (Qp xs):=by
 rcases OwI.cases h with⟨h,_⟩ | ⟨g',cur,hA,hb,hg,hn,hm,hs,ht⟩
 ·cases h
 ·obtain rfl:g=g':=by simpa using hA
  rw[List.take_of_length_le (by rw[Array.length_toList,hs,hc];exact Nat.le_refl _)] at ht;have:cur=Qp xs:=by unfold Qp;rw[<-ht]
  rw[<-this];exact hg
theorem Ze5 (xs:List Int)(x:Nat)(v:Int) : (Qp xs).setIfInBounds x (.int .i64 v)=Qp (xs.set x v):=by
 unfold Qp;rw[List.setIfInBounds_toArray,List.map_set]
theorem Held.setAt {w0 w:World}{sb:Nat}(h:Held w0 sb w)(i:Nat)(u:Value) : Held w0 sb (w.setCell ⟨sb,i,none⟩ u):=⟨by simp;exact h.1,fun b h1 h2=>(Below.heap_setCell w ⟨sb,i,none⟩ u b h2).trans (h.2 b h1 h2)⟩
theorem Zbs (i:InstP)(us:List Value)(n:Nat)(w:World)(H:RInst w us i)(hT:Tab w)(hc:Zf i=0)(hk:i.kind=1)(hn:i.n=n)(h18:n<=18) :
  CallsIn Fence.wide 3 Tryz.prog 44 #[.agg (List.toArray us)] w (Zbr i n w):=by
 have ok:=ZD hc hk;have okcap:=ok.cap;have okn:=ok.n1;have okw:=ok.w;have okv:=ok.v;have TK:=fun(W:World) (x:Ext w W)=>Zcf i us W (H.ext x) hc hk (by omega)
 have TO:=fun(P:Option Addr) (c m:Nat) (W:World) (x:Ext w W) (hP:RdI W P (xB m n)) (hcap:ZY (atF i.weight) n m<=i.cap)=>ZdH i us P c m n W (H.ext x) hc hk hn hP hcap
 have BW:=fun(m k:Nat) (hk:k<=n)=>(Uy (f:=atF i.weight) (n:=n) (fun j _=>U0 ok.sw j) m k hk).1
 have BV:=fun(m k:Nat) (hk:k<=n)=>(Uy (f:=atF i.value) (n:=n) (fun j _=>U0 ok.sv j) m k hk).1
 have SW:=fun(j:Nat)=>U0 ok.sw j
 have SV:=fun(j:Nat)=>U0 ok.sv j
 obtain⟨kind,nn,cap,xw,xv,co⟩:=i;obtain⟨A,a,B,b,D,d,rfl,⟨rA,-⟩,⟨rB,-⟩,-⟩:=H;simp only at *;subst hk hn;have lw:xw.length=n:=by omega
 have lv:xv.length=n:=by omega
 simp only[lw,lv] at TK TO;rw[lw,lv];have GW:∀ j,j<n->∃ b' o',A=some ⟨b',o',none⟩/\b'<w.heap.size/\w.cell? ⟨b',o'+j,none⟩=some (.int .i64 (atF xw j)):=fun j hj=>by
  obtain⟨b',o',x,h1,h2,h3,h4,_⟩:=rA.at (k:=j) (by omega);exact⟨b',o',h1,h2,by rw[h3];unfold atF;rw[getD_some h4.out]⟩
 have GV:∀ j,j<n->∃ b' o',B=some ⟨b',o',none⟩/\b'<w.heap.size/\w.cell? ⟨b',o'+j,none⟩=some (.int .i64 (atF xv j)):=fun j hj=>by
  obtain⟨b',o',x,h1,h2,h3,h4,_⟩:=rB.at (k:=j) (by omega);exact⟨b',o',h1,h2,by rw[h3];unfold atF;rw[getD_some h4.out]⟩
 have B1:Hid (Blk (w.alloc (.cells #[.int .i64 1,.int .i64 n,.int .i64 cap,.slice A n a,.slice B n b,.slice D co.length d] 25)) w.heap.size 25 #[.int .i64 1,.int .i64 n,.int .i64 cap,.slice A n a,.slice B n b,.slice D co.length d]):=.new rfl;have X0:Hid (Ext w (w.alloc (.cells #[.int .i64 1,.int .i64 n,.int .i64 cap,.slice A n a,.slice B n b,.slice D co.length d] 25))):=(Ext.rf _).alloc _;obtain⟨i0,hi,hz0,hz1,hz2⟩:=info_parts Zau;replace hi:=Hd hi;replace hz0:=Hd hz0;replace hz1:=Hd hz1;replace hz2:=Hd hz2;replace GW:=Hd GW;replace GV:=Hd GV;replace BW:=Hd BW;replace BV:=Hd BV;replace SW:=Hd SW;replace SV:=Hd SV;replace TK:=Hd TK;replace TO:=Hd TO;clear hc ok rA rB okw okv lw lv;refine callsIn_of_wp_marks Tryz.func44 rfl trivial ?_ rfl;simp only[Tryz.ntmps44,List.size_toArray,List.length_cons,List.length_nil,Nat.reduceAdd,Nat.reduceSub,Array.replicate_succ,Array.replicate_zero,List.push_toArray,List.append_toArray,List.nil_append,List.cons_append];refine wpIn_wide.2 (wp_mono ?_ UE);go_wp2_with (fail);refine(TK.out _ X0.out).mono ?_;rintro e w1 ⟨rfl,x1⟩;have Bi:=Hd (B1.out.ext x1);have X1:=Hd (X0.out.tr x1);have z1:=Bi.out.lt;have t1:=Bi.out.c1;clear B1 X0 x1;go_wp2_with (fail);have bS:Blk (w1.alloc (.cells #[.int .i64 0,.int .i64 0,.int .u64 0,.int .u64 0] 143)) w1.heap.size 143 #[.int .i64 0,.int .i64 0,.int .u64 0,.int .u64 0]:=.new rfl;have O0:Hid (OwV (w1.alloc (.cells #[.int .i64 0,.int .i64 0,.int .u64 0,.int .u64 0] 143)) w1.heap.size 143 4 (some ⟨w1.heap.size,0,none⟩) 1 1 (Zz [(0,0,0)])):=OwV.full bS (Nat.le_refl _) rfl (by simp[maxLen]);have X2:Hid (Ext w1 (w1.alloc (.cells #[.int .i64 0,.int .i64 0,.int .u64 0,.int .u64 0] 143))):=(Ext.rf _).alloc _;have G0:Hid (Good 0 (atF xw) (atF xv) cap [(0,0,0)]):=Good.start okcap.1;clear bS;go_loopw [6,22] (fun v6 v22 wr=>∃ (k m:Nat) (Bl:Option Addr) (cl:Nat) (l:List Ld),v6=.slice Bl m cl/\v22=.int .i64 k/\k<=n/\Hid (m=l.length)/\Hid (Good k (atF xw) (atF xv) cap l)/\Hid (OwV wr w1.heap.size 143 4 Bl m cl (Zz l))/\Hid (Ext w1 wr)) (fun _ v22 _=>n-(intOf v22).toNat)
 case atStart=>exact⟨0,1,_,1,[(0,0,0)],rfl,rfl,by omega,rfl,G0,O0,X2⟩
 case round =>
  clear O0 X2 G0 t1;obtain⟨wo,rfl⟩:∃ wo:World,wo=wr:=⟨_,rfl⟩;obtain⟨k,m,Bl,cl,l,rfl,rfl,hk,hm,hG,hO,X⟩:=hrel;have XW:=X1.out.tr X.out;have Bw:=Hd (Bi.out.ext X.out);have LB:Hid (∀ d∈l,Jg d/\d.2.2<2^k):=fun d hd=>by
   obtain⟨h1,h2,h3,h4⟩:=hG.out.each d hd;have b1:=BW.out d.2.2 k hk;have b2:=BV.out d.2.2 k hk;unfold Jg;exact⟨by omega,h1⟩
  have LN:Hid (l≠[]):=by
   have h9:l≠[]:=by
    obtain⟨d,hd,_⟩:=hG.out.dom 0 (Nat.two_pow_pos k) (by rw[J2];exact okcap.1);intro e;rw[e] at hd
    cases hd
   exact h9
  have p18:=ZfR hk h18;have ll:l.length<=262144:=Nat.le_trans hG.out.len p18
  by_cases hlt:k<n
  ·obtain⟨b1',o1,rfl,z1',c1⟩:=GW.out k hlt
   obtain⟨b2',o2,rfl,z2',c2⟩:=GV.out k hlt;have k1:=Zh XW z1' c1;have k2:=Zh XW z2' c2;have t2:=Bw.out.c2;have t3:=Bw.out.c3;have t4:=Bw.out.c4;have q1:(k:Int)<(n:Int):=by omega
   have sw:=SW.out k;have sv:=SV.out k;have ST:=Hd (fun(l2:List Ld) (h:l2.Perm (l++Z9 l k (atF xw k) (atF xv k) cap))=>hG.out.step (l2:=l2) sw.1 h);have WL:=Hd (fun(W:World) (h:RdV W 143 Bl (Zz l))=>ZdR (c:=cl) h hm.out.symm (fun d hd=>by have:=LB.out d hd;exact⟨this.1,by omega⟩) (by rw[hm.out];omega) k (by omega) (atF xw k) (atF xv k) cap sw sv okcap);have WB:Hid (∀ d∈l++Z9 l k (atF xw k) (atF xv k) cap,Jg d):=fun d hd=>by
    rcases List.mem_append.1 hd with hd | hd
    ·exact(LB.out d hd).1
    ·obtain⟨q,hq,h1,rfl⟩:=ZdS hd
     have h2:=(LB.out q hq).1;obtain⟨_,_,h3,_⟩:=hG.out.each q hq;have b2:=BV.out q.2.2 k hk;unfold Jg at h2 ⊢;simp only;omega
   have wl:=JS l k (atF xw k) (atF xv k) cap;generalize Z9 l k (atF xw k) (atF xv k) cap=lw at *;generalize atF xw k=aw at *;generalize atF xv k=av at *;replace XW:=Hd XW;clear c1 c2 sw sv;go_wp2_with (fail);refine wp_region_any (by kernel_rfl) ?_
   change wpAny _ _ _ _ _ _ _ (World.drew _)
   refine Za (i:=0) (op:=Op.move (Operand.tmp 6)) (t:=144) (d:=some 25) (v:=?_) rfl (by decide +kernel) (by decide +kernel) (by decide +kernel) (fun _ _ _ h=>h) ?_ ?_
   case refine_2=>(intro _;unfold Zd;go_simp;try with_reducible rfl)
   try simp only[lay]
   refine Za (i:=1) (op:=Op.move (Operand.tmp 6)) (t:=144) (d:=some 26) (v:=?_) rfl (by decide +kernel) (by decide +kernel) (by decide +kernel) (fun _ _ _ h=>h) ?_ ?_
   case refine_2=>(intro _;unfold Zd;go_simp;try with_reducible rfl)
   try simp only[lay]
   refine Za (i:=2) (op:=Op.move (Operand.tmp 7)) (t:=3) (d:=some 27) (v:=?_) rfl (by decide +kernel) (by decide +kernel) (by decide +kernel) (fun _ _ _ h=>h) ?_ ?_
   case refine_2=>(intro _;unfold Zd;go_simp;try with_reducible rfl)
   try simp only[lay]
   refine Za (i:=3) (op:=Op.fieldAddr 25 (Operand.tmp 1) 3) (t:=0) (d:=some 28) (v:=?_) rfl (by decide +kernel) (by decide +kernel) (by decide +kernel) (fun _ _ _ h=>h) ?_ ?_
   case refine_2=>(intro _;unfold Zd;go_simp;try with_reducible rfl)
   try simp only[lay]
   refine Za (i:=5) (op:=Op.move (Operand.tmp 7)) (t:=3) (d:=some 30) (v:=?_) rfl (by decide +kernel) (by decide +kernel) (by decide +kernel) (fun _ _ _ h=>h) ?_ ?_
   case refine_2=>(intro _;unfold Zd;go_simp;try with_reducible rfl)
   try simp only[lay]
   refine Za (i:=8) (op:=Op.fieldAddr 25 (Operand.tmp 1) 4) (t:=0) (d:=some 33) (v:=?_) rfl (by decide +kernel) (by decide +kernel) (by decide +kernel) (fun _ _ _ h=>h) ?_ ?_
   case refine_2=>(intro _;unfold Zd;go_simp;try with_reducible rfl)
   try simp only[lay]
   refine Za (i:=10) (op:=Op.move (Operand.tmp 7)) (t:=3) (d:=some 35) (v:=?_) rfl (by decide +kernel) (by decide +kernel) (by decide +kernel) (fun _ _ _ h=>h) ?_ ?_
   case refine_2=>(intro _;unfold Zd;go_simp;try with_reducible rfl)
   try simp only[lay]
   refine Za (i:=13) (op:=Op.fieldAddr 25 (Operand.tmp 1) 2) (t:=0) (d:=some 38) (v:=?_) rfl (by decide +kernel) (by decide +kernel) (by decide +kernel) (fun _ _ _ h=>h) ?_ ?_
   case refine_2=>(intro _;unfold Zd;go_simp;try with_reducible rfl)
   try simp only[lay]
   refine YX (n:=4) [(4,some 29),(6,some 31),(7,some 32),(9,some 34),(11,some 36),(12,some 37),(14,some 39)] (fun | 4=>.slice (some ⟨b1',o1,none⟩) n a | 6=>.pointer (some ⟨b1',o1+k,none⟩) | 7=>.int .i64 aw | 9=>.slice (some ⟨b2',o2,none⟩) n b | 11=>.pointer (some ⟨b2',o2+k,none⟩) | 12=>.int .i64 av | 14=>.int .i64 cap | _=>undef) #[true,true,true,true,true,true,true,true,true,true,true,true,true,true,true,false,false,false,false] (by decide +kernel) ?_ ?_
   ·intro pS hpm uS hD K hK
    simp only[List.mem_cons,List.not_mem_nil,or_false] at hpm;rcases hpm with rfl | rfl | rfl | rfl | rfl | rfl | rfl
    ·exact Zp (T:=22) (x:=Operand.tmp 28) (t:=22) (d:=some 29) rfl (.pointer (some ⟨w.heap.size,3,none⟩)) (by kernel_rfl) (.slice (some ⟨b1',o1,none⟩) n a) (by go_simp) hK
    ·exact Z2 (T:=22) (x:=Operand.tmp 29) (y:=Operand.tmp 30) (t:=0) (d:=some 31) rfl (.slice (some ⟨b1',o1,none⟩) n a) (.int .i64 k) (Eq.trans (b:=uS 4) (by kernel_rfl) (hD 4 (Zn (by kernel_rfl)))) (by kernel_rfl) (.pointer (some ⟨b1',o1+k,none⟩)) (by go_simp) hK
    ·exact Zp (T:=3) (x:=Operand.tmp 31) (t:=3) (d:=some 32) rfl (.pointer (some ⟨b1',o1+k,none⟩)) (Eq.trans (b:=uS 6) (by kernel_rfl) (hD 6 (Zn (by kernel_rfl)))) (.int .i64 aw) (by go_simp) hK
    ·exact Zp (T:=22) (x:=Operand.tmp 33) (t:=22) (d:=some 34) rfl (.pointer (some ⟨w.heap.size,4,none⟩)) (by kernel_rfl) (.slice (some ⟨b2',o2,none⟩) n b) (by go_simp) hK
    ·exact Z2 (T:=22) (x:=Operand.tmp 34) (y:=Operand.tmp 35) (t:=0) (d:=some 36) rfl (.slice (some ⟨b2',o2,none⟩) n b) (.int .i64 k) (Eq.trans (b:=uS 9) (by kernel_rfl) (hD 9 (Zn (by kernel_rfl)))) (by kernel_rfl) (.pointer (some ⟨b2',o2+k,none⟩)) (by go_simp) hK
    ·exact Zp (T:=3) (x:=Operand.tmp 36) (t:=3) (d:=some 37) rfl (.pointer (some ⟨b2',o2+k,none⟩)) (Eq.trans (b:=uS 11) (by kernel_rfl) (hD 11 (Zn (by kernel_rfl)))) (.int .i64 av) (by go_simp) hK
    ·exact Zp (T:=3) (x:=Operand.tmp 38) (t:=3) (d:=some 39) rfl (.pointer (some ⟨w.heap.size,2,none⟩)) (by kernel_rfl) (.int .i64 cap) (by go_simp) hK
   simp only[Zk,Act.put,List.setIfInBounds_toArray,List.set_cons_zero,List.set_cons_succ];refine Zi 15 (by decide +kernel) (Ym (f:=87) (xs:=#[Operand.tmp 26,Operand.tmp 27,Operand.tmp 32,Operand.tmp 37,Operand.tmp 39]) (ts:=#[144,3,3,3,3]) (t:=144) (d:=some 40) rfl #[.slice Bl m cl,.int .i64 k,.int .i64 aw,.int .i64 av,.int .i64 cap] (by go_simp) (by kernel_rfl) _ (WL.out _ (hO.out.ext ((Ext.rf _).drew)).read) ?_);rintro e w2 ⟨B2,c2,rfl,o2',x2⟩;refine⟨_,rfl,?_⟩
   try simp only[lay]
   have x2':Hid (Ext wo w2):=Ext.tr ((Ext.rf wo).drew) x2;have hO2:=hO.out.ext x2'.out;obtain⟨A9,c9,w9,hrun,o9,g9,_⟩:=UJ w2 (e:=143) Tryz.underlying144 hi.out hz0.out hz1.out hz2.out (by simp[Value.cells]) (by omega) w1.heap.size 144 Bl m cl (Zz l) B2 lw.length c2 (Zz lw) hO2 o2'.read.rdC (YC lw) (JR lw) (by have:=hm.out;simp only[maxLen];omega) (by have:=hm.out;omega) (Nat.le_trans X.out.size x2'.out.size);have x9:Hid (Ext w1 w9):=Ext.grow (X.out.tr x2'.out) g9 (fun q hq=>(hO2.lt q hq).1);rw[<-Y1] at o9;have hne:Zz (l++lw)≠[]:=by
    intro e;have h1:=YC (l++lw);rw[e] at h1;simp only[List.length_nil,List.length_append] at h1;have h2:=List.length_pos_iff.2 LN.out;omega
   obtain⟨g,rfl⟩:=o9.some_of hne;have gb:=(o9.lt g rfl).1;have BB:=Ze2 o9 (by rw[List.length_append,hm.out]) WB.out (by have:=hm.out;omega);clear hne hO2 g9 x2 o2';refine Zi 16 (by kernel_rfl) (Zac rfl (.slice Bl m cl) (.slice B2 lw.length c2) (by kernel_rfl) (by kernel_rfl) _ hrun ?_)
   try simp only[lay]
   refine Zi 17 (by decide +kernel) (Ym (f:=86) (xs:=#[Operand.tmp 41]) (ts:=#[144]) (t:=144) (d:=some 42) rfl #[.slice (some ⟨g,0,none⟩) (m+lw.length) c9] (by go_simp) (by kernel_rfl) _ (BB) ?_);rintro e w3 ⟨L,l2,B3,c3,hp,hL,he,o3,M3⟩;replace hL:=Hd hL;subst he;refine⟨_,rfl,?_⟩
   try simp only[lay]
   refine Za (i:=18) (op:=Op.assign (Operand.tmp 42)) (t:=144) (d:=some 6) (v:=?_) rfl (by decide +kernel) (by decide +kernel) (by decide +kernel) (fun _ _ _ h=>h) ?_ ?_
   case refine_2=>(intro _;unfold Zd;go_simp;try with_reducible rfl)
   try simp only[lay]
   refine wpAny_done (by kernel_rfl) ?_ _;have x3:Hid (Ext w1 w3):=x9.out.mod M3 (fun j hj e=>by subst e;omega);have G3:Hid (Good (k+1) (atF xw) (atF xv) cap L):=by
    have h9:Good (k+1) (atF xw) (atF xv) cap L:=by rw[hL.out];exact ST.out l2 hp
    exact h9
   have O3:Hid (OwV w3 w1.heap.size 143 4 B3 L.length c3 (Zz L)):=o3.more x9.out.size;clear hrun o9 BB M3 o3 x9 x2' k1 k2 t2 t3 t4 hL;go_simp;go_wp2_with (fail);go_roundw
   case rel=>exact⟨k+1,L.length,B3,c3,L,rfl,by go_num,by omega,rfl,G3,O3,x3⟩
   case measure=>simp[intOf];omega
  ·obtain rfl:n=k:=by omega
   obtain⟨d0,hd0⟩:∃ d0,Hid (l[0]?=some d0):=⟨l[0]'(List.length_pos_iff.2 LN.out),List.getElem?_eq_getElem _⟩;have hne:Zz l≠[]:=by
    intro e;have h1:=YC l;rw[e] at h1;simp only[List.length_nil] at h1;have h2:=List.length_pos_iff.2 LN.out;omega
   have m0:0<m:=by rw[hm.out];exact List.length_pos_iff.2 LN.out
   obtain⟨g,rfl⟩:=hO.out.some_of hne;obtain⟨gb,ob,hA,zb,hcell⟩:=hO.out.read.form hne;obtain⟨rfl,rfl⟩:g=gb/\0=ob:=by simpa using hA
   obtain⟨g0,g1,g2,g3⟩:=Xj hd0.out;have c0:wo.cell? ⟨g,0,none⟩=some (.int .i64 d0.1):=by simpa using hcell _ _ g0
   have c1:wo.cell? ⟨g,1,none⟩=some (.int .i64 d0.2.1):=by simpa using hcell _ _ g1
   have c2:wo.cell? ⟨g,2,none⟩=some (.int .u64 d0.2.2):=by simpa using hcell _ _ g2
   have c3:wo.cell? ⟨g,3,none⟩=some (.int .u64 0):=by simpa using hcell _ _ g3
   have q0:¬((n:Int)<(n:Int)):=by omega
   have q1:(0:Int)<(m:Int):=by omega
   have xx:Ext wo (wo.alloc (.cells #[.int .i64 d0.1,.int .i64 d0.2.1,.int .u64 d0.2.2,.int .u64 0] 143)):=(Ext.rf _).alloc _;have BX:Hid (Blk (wo.alloc (.cells #[.int .i64 d0.1,.int .i64 d0.2.1,.int .u64 d0.2.2,.int .u64 0] 143)) wo.heap.size 143 #[.int .i64 d0.1,.int .i64 d0.2.1,.int .u64 d0.2.2,.int .u64 0]):=.new rfl;have XZ:=Hd (X.out.tr xx);have hO2:=Hd (hO.out.ext xx);obtain⟨G,hG2⟩:∃ G,Hid (Zap d0 (l.drop 0)=G):=⟨_,rfl⟩;have GT:Hid (G∈l/\∀ d∈l,d.2.1<=G.2.1):=by
    have h1:=ZcS (l:=l) (t:=d0);have h2:=hG2.out;rw[List.drop_zero] at h2;rw[h2] at h1;refine⟨?_,h1.2.1⟩;rcases h1.2.2 with h3 | h3
    ·rw[h3];exact List.mem_of_getElem? hd0.out
    ·exact h3
   have zx:g<wo.heap.size:=zb;obtain⟨dw,dv,dm⟩:=d0;simp only at c0 c1 c2 c3 BX XZ hO2;have zn:=Hd X.out.size;clear XW hcell hne g0 g1 g2 g3 hA xx LN hO X zb hlt;go_wp2_with (fail);generalize wo.alloc (.cells #[.int .i64 dw,.int .i64 dv,.int .u64 dm,.int .u64 0] 143)=wz at *;obtain⟨gx,hgx⟩:∃ gx,gx=wo.heap.size:=⟨_,rfl⟩;rw[<-hgx] at BX zx zn ⊢;replace hgx:=Hd hgx;have zx0:w1.heap.size<=gx:=zn.out;go_loopw [49] (fun v49 wr=>∃ (j:Nat) (t:Ld),v49=.int .i64 j/\j<=m/\Hid (Zap t (l.drop j)=G)/\Hid (Blk wr gx 143 #[.int .i64 t.1,.int .i64 t.2.1,.int .u64 t.2.2,.int .u64 0])/\Hid (Mod (fun b=>b=gx) wz wr)) (fun v49 _=>m-(intOf v49).toNat)
   case atStart=>exact⟨0,(dw,dv,dm),rfl,by omega,hG2,BX,Mod.rf _⟩
   case round =>
    clear hG2 BX c0 c1 c2 c3;obtain⟨wp,rfl⟩:∃ wp:World,wp=wr:=⟨_,rfl⟩;obtain⟨j,t,rfl,hj,hT2,bX,hM⟩:=hrel
    by_cases hlt:j<m
    ·have hjl:j<l.length:=by rw[<-hm.out];exact hlt
     obtain⟨d,hd⟩:∃ d,Hid (l[j]?=some d):=⟨l[j],List.getElem?_eq_getElem hjl⟩;have hne:Zz l≠[]:=by
      intro e;have:=YC l;rw[e] at this;simp at this;omega
     have RO:=(hO2.out.mod hM.out (fun q hq e=>by
      have h1:g=q:=by simpa [bl] using hq
      omega)).read
     obtain⟨gb,ob,hA,zb,hcell⟩:=RO.form hne;obtain⟨rfl,rfl⟩:g=gb/\0=ob:=by simpa using hA
     obtain⟨g0,g1,g2,g3⟩:=Xj hd.out;have c0:=hcell _ _ g0;have c1:=hcell _ _ g1;have c2:=hcell _ _ g2;have c3:=hcell _ _ g3;rw[Nat.zero_add] at c0 c1 c2 c3;have TN:Hid (Zap (if t.2.1<d.2.1 then d else t) (l.drop (j+1))=G):=by
      have h1:=hT2.out;obtain⟨_,hv⟩:=List.getElem?_eq_some_iff.1 hd.out;rw[List.drop_eq_getElem_cons hjl,hv] at h1;exact h1
     have q3:(j:Int)<(m:Int):=by omega
     have zp:=bX.out.lt;have bw:=bX.out.alloc (.cells #[.int .i64 d.1,.int .i64 d.2.1,.int .u64 d.2.2,.int .u64 0] 143);obtain⟨tw,tv,tm⟩:=t;obtain⟨ew,ev,em⟩:=d;simp only at c0 c1 c2 c3 TN bX bw;have by':Blk (wp.alloc (.cells #[.int .i64 ew,.int .i64 ev,.int .u64 em,.int .u64 0] 143)) wp.heap.size 143 #[.int .i64 ew,.int .i64 ev,.int .u64 em,.int .u64 0]:=.new rfl
     have MO:=Hd (hM.out.alloc (.cells #[.int .i64 ew,.int .i64 ev,.int .u64 em,.int .u64 0] 143));clear hcell hne g0 g1 g2 g3 hA RO bX hM hT2;go_upto_region 14 with(fail);clear c0 c1 c2 c3;generalize (wp.alloc (.cells #[.int .i64 ew,.int .i64 ev,.int .u64 em,.int .u64 0] 143))=wy at *;have hne2:wp.heap.size≠gx:=by omega
     generalize wp.heap.size=gy at *;have c0:=by'.c0
     have c1:=by'.c1
     have c2:=by'.c2
     have c3:=by'.c3
     have k0:=bw.c0;have k1:=bw.c1;have k2:=bw.c2;have k3:=bw.c3;have f0:=bw.free 0;have f1:=bw.free 1;have f2:=bw.free 2;have f3:=bw.free 3;have BN:Hid (Blk ((((wy.setCell ⟨gx,0,none⟩ (.int .i64 ew)).setCell ⟨gx,1,none⟩ (.int .i64 ev)).setCell ⟨gx,2,none⟩ (.int .u64 em)).setCell ⟨gx,3,none⟩ (.int .u64 0)) gx 143 #[.int .i64 ew,.int .i64 ev,.int .u64 em,.int .u64 0]):=(((bw.set 0 (.int .i64 ew)).set 1 (.int .i64 ev)).set 2 (.int .u64 em)).set 3 (.int .u64 0);have MN:Hid (Mod (fun b=>b=gx) wz ((((wy.setCell ⟨gx,0,none⟩ (.int .i64 ew)).setCell ⟨gx,1,none⟩ (.int .i64 ev)).setCell ⟨gx,2,none⟩ (.int .u64 em)).setCell ⟨gx,3,none⟩ (.int .u64 0))):=(((MO.out.set (p:=⟨gx,0,none⟩) (.inl rfl) _).set (p:=⟨gx,1,none⟩) (.inl rfl) _).set (p:=⟨gx,2,none⟩) (.inl rfl) _).set (p:=⟨gx,3,none⟩) (.inl rfl) _;have BO:=Hd bw;clear bw by'
     by_cases hv:tv<ev
     ·rw[if_pos hv] at TN
      go_wp2_with (fail);go_roundw
      case rel=>exact⟨j+1,(ew,ev,em),by go_num,by omega,TN,BN,MN⟩
      case measure=>simp[intOf];omega
     ·rw[if_neg hv] at TN
      clear BN MN;go_wp2_with (fail);go_roundw
      case rel=>exact⟨j+1,(tw,tv,tm),by go_num,by omega,TN,BO,MO⟩
      case measure=>simp[intOf];omega
    ·obtain rfl:m=j:=by omega
     obtain rfl:t=G:=by
      have h1:=hT2.out;rw[List.drop_of_length_le (by have:=hm.out;omega)] at h1;exact h1
     have ME:=hG.out.each t GT.out.1;have OPT:Hid (∀ s,s<2^n->ZY (atF xw) n s<=cap->Y5 (atF xv) n t.2.2<=Y5 (atF xv) n s):=fun s h1 h2=>by
      obtain⟨q,q1,q2,q3⟩:=hG.out.dom s h1 h2;have h3:=GT.out.2 q q1;have h4:=Jb (atF xv) s n;have h5:=Jb (atF xv) t.2.2 n;omega
     have XP:Hid (Ext w1 wp):=XZ.out.mod hM.out (fun q h1 e=>by omega);have Bq:=Bi.out.ext XP.out;have t1:=Bq.c1;have k2:=bX.out.c2;have k3:=bX.out.c3;have MB:Hid (t.2.2<2^n/\ZY (atF xw) n t.2.2<=cap):=⟨ME.1,by rw[<-ME.2.1];exact ME.2.2.2⟩;have q4:¬((m:Int)<(m:Int)):=by omega
     have zxp:=bX.out.lt;generalize t.2.2=msk at *;go_upto_region 18 with(at_make;refine Xd _ rfl _ _ rfl wp.heap.size _ _ n rfl rfl rfl rfl (by omega) (Nat.le_refl _) ?_;rintro w5 o5 g5;replace o5:=Hd o5;replace g5:=Hd g5);have x5:=Ext.grow (Ext.rf wp) g5.out (by simp);have bA:Blk (w5.alloc (.cells #[.slice (some ⟨wp.heap.size,0,none⟩) n n] 22)) w5.heap.size 22 #[.slice (some ⟨wp.heap.size,0,none⟩) n n]:=.new rfl;have x6:Ext w5 (w5.alloc (.cells #[.slice (some ⟨wp.heap.size,0,none⟩) n n] 22)):=(Ext.rf _).alloc _;have zz5:=o5.out.lt _ rfl;have o6:=Hd (o5.out.ext x6);have X6:=Hd (x5.tr x6);generalize w5.alloc (.cells #[.slice (some ⟨wp.heap.size,0,none⟩) n n] 22)=w6 at *;have l2:=Zh X6.out zxp k2;have l3:=Zh X6.out zxp k3;obtain⟨gy,hgy⟩:∃ gy,gy=wp.heap.size:=⟨_,rfl⟩;obtain⟨ga,hga⟩:∃ ga,ga=w5.heap.size:=⟨_,rfl⟩;rw[<-hgy] at o6 bA zz5 zxp ⊢;rw[<-hga] at bA zz5 ⊢;have zA:=bA.lt;replace bA:=Hd bA;have zi7:w.heap.size<gy:=by
      have:=(Bi.out.lt);have:=XP.out.size;omega
     have zyx:gx<gy:=by omega
     replace hgy:=Hd hgy;clear o5 g5 x5 x6 hga k2 k3;go_wp2_with (fail);refine(Wi msk _).mono ?_;rintro e w' ⟨rfl,rfl⟩;go_wp2_with (fail);have bB:Blk (w6.alloc (.cells #[.int .u64 msk,.int .u64 0] 141)) w6.heap.size 141 #[.int .u64 msk,.int .u64 0]:=.new rfl;have x7:Ext w6 (w6.alloc (.cells #[.int .u64 msk,.int .u64 0] 141)):=(Ext.rf _).alloc _;have hB0:Ext w (w6.alloc (.cells #[.int .u64 msk,.int .u64 0] 141)):=((X1.out.tr XP.out).tr X6.out).tr x7;have b18:2^n<=262144:=ZfR (Nat.le_refl n) h18;have hm64:msk<18446744073709551616:=by have:=MB.out.1;omega
     have hmn:Hid (∀ x∈Zc msk,x<n):=fun x hx=>by
      have h1:=(Z1.1 hx).2;have h3:=MB.out.1
      by_cases h:x<n
      ·exact h
      ·have:=Nat.pow_le_pow_right (n:=2) (by omega) (by omega:n<=x)
       rw[Nat.testBit_lt_two_pow (by omega)] at h1
       cases h1
     have h63:∀ x∈Zc msk,x<63:=fun x hx=>by have:=hmn.out x hx;omega
     have hg:=Vv hT;have b0:Blk (w6.alloc (.cells #[.int .u64 msk,.int .u64 0] 141)) gy 3 (Qp (mkX n [])):=by
      have h1:=(OwI.blkOf o6.out (by simp)).ext x7;rw[ZfD];exact h1
     have bA7:=Hd (bA.out.ext x7);have Bi7:=Hd ((Bq.ext X6.out).ext x7);have zy6:gy<w6.heap.size:=by omega
     have zy7:gy≠ga:=by omega
     generalize hw7:w6.alloc (.cells #[.int .u64 msk,.int .u64 0] 141)=w7 at *;have z7:w7.heap.size=w6.heap.size+1:=by rw[<-hw7];simp
     clear hw7;refine(wpIn_wide (n:=3)).1 ?_;refine wpIn_rangeFunc_ownG rfl (by omega) (gf:=140) (lb:=#[.pointer (some ⟨w6.heap.size,0,none⟩)]) rfl trivial (enters_of Tryz.func140 (by kernel_rfl) rfl)
      (YM 2 msk hm64 h63 w6.heap.size w.heap.size _ bB (hT.ext hB0) hB0.size hg) SetKp.tr (Wj (cs:=#[.int .u64 msk,.int .u64 0]) hB0.size bB) (Below.refl _ _) (fun _=>rfl)
      (fun pre W=>Blk W gy 3 (Qp (mkX n (inL pre)))/\Held w7 gy W/\Below w.heap.size w W)
      (fun _ _ _=>False)
      (OwnFrom.and (ZQ (by omega) _ _) (OwnFrom.and (YU (Nat.le_refl _)) (ownFrom_below (Nat.le_refl _) (by omega))))
      (fun _ _ _ _ _ hs _ _=>hs)
      ⟨by simpa [inL] using b0,⟨Nat.le_refl _,fun _ _ _=>rfl⟩,hB0⟩
      (fun x=>{ tmps:=#[.agg #[.int .i64 1,.int .i64 n,.int .i64 cap,.slice A n a,.slice B n b,.slice D co.length d],.pointer (some ⟨w.heap.size,0,none⟩),.slice none 0 0,.int .i64 0,.int .i64 0,.int .i64 0,.slice (some ⟨g,0,none⟩) m cl,u7,.pointer (some ⟨gx,0,none⟩),undef,u10,.pointer (some ⟨ga,0,none⟩),.int .i64 ((x.1:Nat):Int),.agg #[.int .i64 1,.int .i64 n,.int .i64 cap,.slice A n a,.slice B n b,.slice D co.length d],.int .i64 0,.int .i64 0,.bool false,undef,.agg #[.int .i64 0,.int .i64 0,.int .u64 0,.int .u64 0],.slice (some ⟨w1.heap.size,0,none⟩) 1 1,.pointer (some ⟨w.heap.size,1,none⟩),.int .i64 n,.int .i64 n,.bool false,u24,u25,u26,u27,u28,u29,u30,u31,u32,u33,u34,u35,u36,u37,u38,u39,u40,u41,u42,u43,.slice (some ⟨g,0,none⟩) m cl,.pointer (some ⟨g,0,none⟩),.agg #[.int .i64 dw,.int .i64 dv,.int .u64 dm,.int .u64 0],.slice (some ⟨g,0,none⟩) m cl,.int .i64 m,.int .i64 m,.bool false,u51,u52,u53,u54,u55,u56,u57,u58,u59,.pointer (some ⟨w.heap.size,1,none⟩),.int .i64 n,.slice (some ⟨gy,0,none⟩) n n,.pointer (some ⟨gx,2,none⟩),.agg #[.int .u64 msk,.int .u64 0],.func (.func 140) #[] #[.pointer (some ⟨w6.heap.size,0,none⟩)],.int .i64 ((x.1:Nat):Int),undef,undef,undef,undef,undef,undef,undef,undef,undef],defers:=[] }) ?assign ?body ?done ?stop
     case assign =>
      intro l x W K hK
      gi_wp2
      exact hK
     case body =>
      rintro l pre x W ⟨hX,hH,hBW⟩ hlt2;have hxn:=hmn.out x.1 x.2;have cA:W.cell? ⟨ga,0,none⟩=some (.slice (some ⟨gy,0,none⟩) n n):=(hH.blk bA7.out (by omega)).cell 0;have cX:W.cell? ⟨gy,x.1,none⟩=some (.int .i64 (if x.1∈inL pre then 1 else 0)):=by
       rw[hX.cell];unfold Qp;rw[List.getElem?_toArray,List.getElem?_map,Zaw _ hxn]
       rfl
      have fX:=hX.free x.1;have q5:((x.1:Nat):Int)<(n:Int):=by omega
      have zW:w6.heap.size+1<=W.heap.size:=by have:=hH.1;omega
      have E1:KeepsFrom w7.heap.size W (W.setCell ⟨gy,x.1,none⟩ (.int .i64 1))/\SetKp w.heap.size w6.heap.size W (W.setCell ⟨gy,x.1,none⟩ (.int .i64 1))/\Blk (W.setCell ⟨gy,x.1,none⟩ (.int .i64 1)) gy 3 (Qp (mkX n (inL (pre++[x]))))/\Held w7 gy (W.setCell ⟨gy,x.1,none⟩ (.int .i64 1))/\Below w.heap.size w (W.setCell ⟨gy,x.1,none⟩ (.int .i64 1)):=by
       refine⟨(KeepsOthers.setCell _ _ _).from _,⟨(Below.refl _ _).setCell (by simp<;>omega) _,Below.heap_setCell W ⟨gy,x.1,none⟩ _ w6.heap.size (by simp;omega)⟩,?_,hH.setAt _ _,hBW.setCell (by simp<;>omega) _⟩;rw[Xr,Ze3 _ hxn,<-Ze5];exact hX.set x.1 (.int .i64 1)
      replace E1:=Hd E1;replace hX:=Hd hX;replace hH:=Hd hH;replace hBW:=Hd hBW
      gi_wp2
      exact E1.out
     case done =>
      rintro D' ys W hD rfl ⟨hX,hH,hBW⟩ hK;rw[Yr,Ze4 (by omega)] at hX;have BiW:=hH.blk Bi7.out (by omega);have bAW:=hH.blk bA7.out (by omega);have t0:=BiW.c0;have t1:=BiW.c1;have t2:=BiW.c2;have t3:=BiW.c3;have t4:=BiW.c4;have t5:=BiW.c5;have cA:=bAW.c0;have RX:RdI W (some ⟨gy,0,none⟩) (xB msk n):=.blk hX (by unfold Qp;simp);replace TO:=Hd (TO.out (some ⟨gy,0,none⟩) n msk W hBW RX MB.out.2);go_simp;go_wp2_with (fail);refine TO.out.mono ?_;rintro e w8 ⟨rfl,x8⟩;go_wp2_with (fail);have zD:w7.heap.size<=D':=hD;have hKD:w8.heap[D']?=some (.deferred (some [])):=(x8.block D' (Array.getElem?_eq_some_iff.1 hK).1).trans hK;have neD:gy≠D':=by omega
      refine⟨by simp,.inl ⟨_,_,rfl,run_takeDeferred hKD,?_⟩⟩;refine⟨.tuple #[.slice (some ⟨gy,0,none⟩) n n,.int .i64 (Y5 (atF xv) n msk),.int .i64 0],by simp[results,Tryz.results44,go_sem],?_⟩;have hz7:=hB0.size;have hzW:=hH.1;have E8:Ext w w8:=hBW.trans (x8.mono (by omega));exact⟨some ⟨gy,0,none⟩,n,msk,rfl,.blk ((World.putObj_heap_other neD).trans (hX.ext x8)) (by unfold Qp;simp),MB.out.1,MB.out.2,Nat.le_refl _,(by simp only[maxLen];omega),OPT.out,E8.trans (belowK_b (w:=w) (Nat.le_refl _) w8 D' _ _ (by omega) hKD rfl rfl)⟩
     case stop =>
      rintro D c pre W _ _ h _;exact h.elim
theorem Zax (i:InstP)(us:List Value)(n:Nat)(w:World)(H:RInst w us i)(hT:Tab w)(hc:Zf i=0)(hk:i.kind=1)(hn:i.n=n)(h18:n<=18) :
  Calls Tryz.prog 44 #[.agg (List.toArray us)] w (Zbr i n w):=callsIn_wide.1 (Zbs i us n w H hT hc hk hn h18)
end Go.Proofs.YtmojhhlcocjoaaaGreatDoor
namespace Go.Proofs.YtmojhhlcocjoaaaGreatDoor
section
variable {n R:Nat} {cst:Nat->Nat->Int} {far M:Int} {has frm:Nat->Nat} {L:List Nat} {a:Nat} {u v least:Nat->Int}
theorem GI.bound (h:GI n cst far R has L a u v least frm)(ho:HasOk n R has)(hRn:R<=n)(hf:∃ c,1<=c/\c<=n/\has c=0)(num:∀ i c,1<=i->i<=n->1<=c->c<=n->0<=cst i c/\cst i c<=M) :
  (∀ i,1<=i->i<=n->0<=u i/\u i<=M)/\∀ c,1<=c->c<=n->-M<=v c/\v c<=0:=by
 obtain⟨c0,k1,k2,k3⟩:=hf;have hu:∀ i,1<=i->i<=n->0<=u i/\u i<=M:=fun i h1 h2=>by
  have a1:=h.slack i c0 h1 h2 k1 k2;have a2:=h.free c0 k1 k2 k3;have a3:=(num i c0 h1 h2 k1 k2).2;have a4:=h.pos i;omega
 refine⟨hu,fun c h1 h2=>?_⟩;have hM:0<=M:=by
  have:=num 1 c0 (by omega) (by omega) k1 k2;omega
 have a1:=h.neg c h1 h2
 by_cases hc:has c=0
 ·have:=h.free c h1 h2 hc
  omega
 ·have a2:=h.tight c h1 h2 hc
  have a3:=ho.le c h2;have a4:=hu (has c) (by omega) (by omega);have a5:=num (has c) c (by omega) (by omega) h1 h2;omega
end
structure TI (n:Nat)(cst:Nat->Nat->Int)(R:Nat)(u v:Nat->Int)(has:Nat->Nat)(hole:Nat) : Prop where
 all:∀ i,1<=i->i<=R->∃ c,c<=n/\c≠hole/\has c=i
 inj:∀ c c',c<=n->c'<=n->c≠hole->c'≠hole->has c=has c'->has c≠0->c=c'
 le:∀ c,c<=n->c≠hole->has c<=R
 tight:∀ c,1<=c->c<=n->c≠hole->has c≠0->cst (has c) c=u (has c)+v c
 free:∀ c,1<=c->c<=n->c≠hole->has c=0->v c=0
section
variable {n R:Nat} {cst:Nat->Nat->Int} {far:Int} {has has' hs frm:Nat->Nat} {L:List Nat} {a hole:Nat} {u v least:Nat->Int}
theorem GI.turn (h:GI n cst far R has L a u v least frm)(ho:HasOk n R has)(ha:has a=0) : TI n cst R u v has a where
 all:=fun i h1 h2=>by
  obtain⟨c,k1,k2⟩:=ho.all i h1 h2;refine⟨c,k1,?_,k2⟩;rintro rfl;omega
 inj:=fun c c' h1 h2 _ _=>ho.inj c c' h1 h2
 le:=fun c h1 _=>ho.le c h1
 tight:=fun c h1 h2 _=>h.tight c h1 h2
 free:=fun c h1 h2 _=>h.free c h1 h2
theorem TI.back {p:Nat}(h:TI n cst R u v hs hole)(hh:hole<=n)(hp:p<=n)(hne:p≠hole)(hp0:hs p≠0)(ht:cst (hs p) hole=u (hs p)+v hole)(hn:∀ c,has' c=if c=hole then hs p else hs c) : TI n cst R u v has' p where
 all:=fun i h1 h2=>by
  obtain⟨c,k1,k2,k3⟩:=h.all i h1 h2
  by_cases e:c=p
  ·subst e
   exact⟨hole,hh,fun e=>hne e.symm,by rw[hn,if_pos rfl,k3]⟩
  ·exact⟨c,k1,e,by rw[hn,if_neg k2,k3]⟩
 inj:=fun c c' h1 h2 h3 h4 e h0=>by
  rw[hn] at e h0;rw[hn c'] at e
  by_cases e1:c=hole
  ·by_cases e2:c'=hole
   ·rw[e1,e2]
   ·rw[if_pos e1,if_neg e2] at e
    exact absurd (h.inj p c' hp h2 hne e2 e hp0).symm h4
  ·by_cases e2:c'=hole
   ·rw[if_neg e1,if_pos e2] at e
    rw[if_neg e1] at h0;exact absurd (h.inj c p h1 hp e1 hne e h0) h3
   ·rw[if_neg e1,if_neg e2] at e
    rw[if_neg e1] at h0;exact h.inj c c' h1 h2 e1 e2 e h0
 le:=fun c h1 h2=>by
  rw[hn];split
  ·exact h.le p hp hne
  ·rename_i e
   exact h.le c h1 e
 tight:=fun c h1 h2 h3 h4=>by
  rw[hn] at h4 ⊢
  by_cases e:c=hole
  ·subst e
   rw[if_pos rfl];exact ht
  ·rw[if_neg e] at h4 ⊢
   exact h.tight c h1 h2 e h4
 free:=fun c h1 h2 h3 h4=>by
  rw[hn] at h4
  by_cases e:c=hole
  ·rw[if_pos e] at h4
   exact absurd h4 hp0
  ·rw[if_neg e] at h4
   exact h.free c h1 h2 e h4
theorem TI.done (h:TI n cst R u v hs 0)(slack:∀ i c,1<=i->i<=n->1<=c->c<=n->u i+v c<=cst i c)(neg:∀ c,1<=c->c<=n->v c<=0)(pos:∀ i,0<=u i)(fresh:∀ i,R<i->u i=0) : HI n cst R u v hs where
 le:=fun c h1 h2=>h.le c h2 (by omega)
 all:=fun i h1 h2=>by
  obtain⟨c,k1,k2,k3⟩:=h.all i h1 h2;exact⟨c,by omega,k1,k3⟩
 inj:=fun c c' h1 h2 h3 h4=>h.inj c c' h2 h4 (by omega) (by omega)
 slack:=slack
 tight:=fun c h1 h2=>h.tight c h1 h2 (by omega)
 free:=fun c h1 h2=>h.free c h1 h2 (by omega)
 neg:=neg
 pos:=pos
 fresh:=fresh
structure BackI (n:Nat)(has:Nat->Nat)(full:List Nat)(hs:Nat->Nat)(hole:Nat) : Prop where
 path:∃ A B,full=A++hole::B/\∀ c∈A,hs c=has c
theorem GI.back (h:GI n cst far R has L a u v least frm)(ho:HasOk n R has)(hb:BackI n has (L++[a]) hs hole)(ht:TI n cst R u v hs hole)(h0:hole≠0)(hn:∀ c,has' c=if c=hole then hs (frm hole) else hs c) :
  frm hole<=n/\TI n cst R u v has' (frm hole)/\BackI n has (L++[a]) has' (frm hole)/\∃ A B,L++[a]=A++hole::B/\frm hole∈A:=by
 obtain⟨A,B,e,hA⟩:=hb.path;have hA0:A≠[]:=by
  rintro rfl;have:=h.first;rw[e] at this;simp at this;exact h0 this
 obtain⟨m1,m2⟩:=h.way A B hole e hA0;have hmem:∀ c∈A++hole::B,c<=n:=fun c hc=>h.le c (by rw[e];exact hc)
 have hp:frm hole<=n:=hmem _ (by simp[m1]);have hnd:=h.nodup;rw[e] at hnd;have hne:frm hole≠hole:=fun e2=>(List.nodup_append.1 hnd).2.2 (frm hole) m1 hole (by simp) e2
 have hseen:has (frm hole)≠0:=by
  have hAL:∀ c∈A,c∈L:=by
   intro c hc;have h1:c∈L++[a]:=by rw[e];simp[hc]
   rcases List.mem_append.1 h1 with h2 | h2
   ·exact h2
   ·obtain rfl:=List.mem_singleton.1 h2
    exfalso
    rcases List.eq_nil_or_concat B with rfl | ⟨B',b,rfl⟩
    ·have e':L++[c]=A++[hole]:=e
     have:=(List.append_inj' e' rfl).2;have e3:c=hole:=by simpa using this
     exact(List.nodup_append.1 hnd).2.2 c hc hole (by simp) e3
    ·rw[List.concat_eq_append] at e hnd
     have e':L++[c]=(A++hole::B')++[b]:=by simpa using e
     have:=(List.append_inj' e' rfl).2;have e3:c=b:=by simpa using this
     exact(List.nodup_append.1 hnd).2.2 c hc b (by simp) e3
  exact h.seen _ (hAL _ m1)
 have e1:hs (frm hole)=has (frm hole):=hA _ m1;refine⟨hp,ht.back (hmem hole (by simp)) hp hne (by rw[e1];exact hseen) (by rw[e1];exact m2) hn,⟨?_⟩,A,B,e,m1⟩;obtain⟨A1,A2,e2⟩:=List.append_of_mem m1;refine⟨A1,A2++hole::B,by rw[e,e2];simp,fun c hc=>?_⟩;have hcA:c∈A:=by rw[e2];simp[hc]
 rw[hn,if_neg (fun e3=>(List.nodup_append.1 hnd).2.2 c hcA hole (by simp) e3),hA c hcA]
end
theorem Ql {F:Nat->Int} : ∀ {rows:List (List Int)} {off:List Int} {q:List Nat},rows.length=q.length->off.length=q.length->(∀ (k c:Nat) (x:List Int) (o:Int),rows[k]?=some x->off[k]?=some o->q[k]?=some c->x.getD c 0=o+F c)->Zs rows (Ze q)=Zj off+Zj (q.map F)
 | [],off,q,h1,h2,_=>by
  have:q=[]:=List.eq_nil_of_length_eq_zero (by simpa using h1.symm);subst this;have:off=[]:=List.eq_nil_of_length_eq_zero (by simpa using h2);subst this;simp[Zj,Zs,Ze]
 | r::rows,[],q,h1,h2,_=>by
  exfalso
  simp at h1 h2;omega
 | r::rows,o::off,[],h1,_,_=>by simp at h1
 | r::rows,o::off,c::q,h1,h2,h=>by
  have h3:=h 0 c r o rfl rfl rfl;have ih:=Ql (F:=F) (rows:=rows) (off:=off) (q:=q) (by simpa using h1) (by simpa using h2) fun k c x o a b d=>h (k+1) c x o a b d
  simp only[Ze,List.map_cons,Zj,Zs] at ih ⊢;rw[Int.toNat_natCast];omega
theorem Ze6 {n:Nat}{rows:List (List Int)}{u v:Nat->Int}{has:Nat->Nat}{x:List Nat}(hr:rows.length=n)(h:HI n (fun i c=>(rows.getD (i-1) []).getD (c-1) 0) n u v has)(hx:x.length=n)(hxc:∀ c,1<=c->c<=n->x[has c-1]?=some (c-1)) :
  x.Perm (List.range n)/\∀ q:List Nat,q.Perm (List.range n)->Zs rows (Ze x)<=Zs rows (Ze q):=by
 have at':∀ i,i<n->∃ c,1<=c/\c<=n/\has c=i+1/\x[i]?=some (c-1):=fun i hi=>by
  obtain⟨c,k1,k2,k3⟩:=h.all (i+1) (by omega) (by omega);have:=hxc c k1 k2;rw[k3,Nat.add_sub_cancel] at this;exact⟨c,k1,k2,k3,this⟩
 have hperm:x.Perm (List.range n):=by
  have hd:x.Nodup:=by
   refine List.pairwise_iff_getElem.2 fun i j hi hj hij e=>?_
   obtain⟨c,k1,k2,k3,k4⟩:=at' i (by omega);obtain⟨d,m1,m2,m3,m4⟩:=at' j (by omega);rw[List.getElem?_eq_getElem hi] at k4;rw[List.getElem?_eq_getElem hj] at m4;have e1:=Option.some.inj k4;have e2:=Option.some.inj m4;have:c=d:=by omega
   subst this;omega
  refine(List.perm_ext_iff_of_nodup hd List.nodup_range).2 fun y=>?_
  rw[List.mem_range]
  constructor
  ·intro hy
   obtain⟨i,hi,rfl⟩:=List.mem_iff_getElem.1 hy;obtain⟨c,k1,k2,k3,k4⟩:=at' i (by omega);rw[List.getElem?_eq_getElem hi] at k4;have:=Option.some.inj k4;omega
  ·intro hy
   have hne:has (y+1)≠0:=by
    intro e0;have hl:=Xw (l:=(List.range n).map fun i=>x.getD i 0) (n:=n) ?_ ?_
    ·have hs:y∈x:=by
      cases hd2:decide (y∈x) with
      | true=>exact of_decide_eq_true hd2
      | false =>
       exfalso
       have hny:=of_decide_eq_false hd2;have h2:=Xw (l:=y::x) (n:=n) (List.nodup_cons.2 ⟨hny,hd⟩) ?_
       ·rw[List.length_cons,hx] at h2
        omega
       ·intro z hz
        rcases List.mem_cons.1 hz with rfl | hz
        ·exact hy
        ·obtain⟨i,hi,rfl⟩:=List.mem_iff_getElem.1 hz
         obtain⟨c,k1,k2,k3,k4⟩:=at' i (by omega);rw[List.getElem?_eq_getElem hi] at k4;have:=Option.some.inj k4;omega
     obtain⟨i,hi,e⟩:=List.mem_iff_getElem.1 hs;obtain⟨c,k1,k2,k3,k4⟩:=at' i (by omega);rw[List.getElem?_eq_getElem hi,e] at k4;have:=Option.some.inj k4;have e5:c=y+1:=by omega
     subst e5;omega
    ·refine List.pairwise_map.2 (List.Pairwise.imp_of_mem ?_ List.nodup_range)
     intro i j hi hj hij e;have hi:=List.mem_range.1 hi;have hj:=List.mem_range.1 hj;obtain⟨c,k1,k2,k3,k4⟩:=at' i hi;obtain⟨d,m1,m2,m3,m4⟩:=at' j hj;rw[getD_some k4,getD_some m4] at e;have:c=d:=by omega
     subst this;omega
    ·intro z hz
     obtain⟨i,hi,rfl⟩:=List.mem_map.1 hz;obtain⟨c,k1,k2,k3,k4⟩:=at' i (List.mem_range.1 hi);rw[getD_some k4];omega
   have:=hxc (y+1) (by omega) (by omega);rw[Nat.add_sub_cancel] at this;exact List.mem_of_getElem? this
 refine⟨hperm,fun q hq=>?_⟩;have hoff:∀ k,((List.range n).map fun i=>u (i+1))[k]?=if k<n then some (u (k+1)) else none:=fun k=>by
  rw[List.getElem?_map]
  by_cases hk:k<n
  ·rw[List.getElem?_range hk,if_pos hk];rfl
  ·rw[List.getElem?_eq_none (by simp;omega),if_neg hk];rfl
 have hge:=QJ (F:=fun c=>v (c+1)) (rows:=rows) (off:=(List.range n).map fun i=>u (i+1)) (q:=q) (by rw[hr,hq.length_eq,List.length_range]) (by simp[hq.length_eq]) fun k c r o h1 h2 h3=>by
  have hk:k<n:=by rw[<-hr];exact(List.getElem?_eq_some_iff.1 h1).1
  rw[hoff,if_pos hk] at h2;obtain rfl:=Option.some.inj h2;have hc:c<n:=List.mem_range.1 (hq.mem_iff.1 (List.mem_of_getElem? h3));have:=h.slack (k+1) (c+1) (by omega) (by omega) (by omega) (by omega);simp only[Nat.add_sub_cancel] at this;rw[show rows.getD k []=r from getD_some h1] at this;exact this
 have hle:Zs rows (Ze x)=Zj ((List.range n).map fun i=>u (i+1))+Zj (x.map fun c=>v (c+1)):=by
  refine Ql (by rw[hr,hx]) (by simp[hx]) fun k c r o h1 h2 h3=>?_
  have hk:k<n:=by rw[<-hr];exact(List.getElem?_eq_some_iff.1 h1).1
  rw[hoff,if_pos hk] at h2;obtain rfl:=Option.some.inj h2;obtain⟨d,k1,k2,k3,k4⟩:=at' k hk;rw[h3] at k4;have e:c=d-1:=Option.some.inj k4;subst e;have:=h.tight d k1 k2 (by omega);rw[k3] at this;simp only[Nat.add_sub_cancel] at this;rw[show rows.getD k []=r from getD_some h1] at this;rw[show d-1+1=d by omega];exact this
 have e:=YL ((hperm.trans hq.symm).map fun c=>v (c+1));omega
end Go.Proofs.YtmojhhlcocjoaaaGreatDoor
namespace Go.Proofs.YtmojhhlcocjoaaaGreatDoor
structure LookR (n:Nat)(far:Int)(sl:Nat->Int)(S:Nat->Bool)(a:Nat)(least least':Nat->Int)(frm frm':Nat->Nat)(k next:Nat)(step:Int) : Prop where
 done:∀ c,1<=c->c<k->S c=false->(sl c<least c/\least' c=sl c/\frm' c=a)\/(least c<=sl c/\least' c=least c/\frm' c=frm c)
 keep:∀ c,c<1\/k<=c\/S c=true->least' c=least c/\frm' c=frm c
 best:(step=far/\next=0/\∀ c,1<=c->c<k->S c=true)\/(1<=next/\next<k/\S next=false/\step=least' next/\∀ c,1<=c->c<k->S c=false->step<=least' c)
section
variable {n:Nat} {far:Int} {sl:Nat->Int} {S:Nat->Bool} {a:Nat} {least least':Nat->Int} {frm frm':Nat->Nat} {k next:Nat} {step:Int}
theorem LookR.start : LookR n far sl S a least least frm frm 1 0 far :=
 ⟨fun c h1 h2=>by omega,fun _ _=>⟨rfl,rfl⟩,.inl ⟨rfl,rfl,fun c h1 h2=>by omega⟩⟩
theorem LookR.skip (h:LookR n far sl S a least least' frm frm' k next step)(hs:S k=true) : LookR n far sl S a least least' frm frm' (k+1) next step:=by
 have lt:∀ c,c<k+1->c≠k->c<k:=fun c h1 h2=>by omega
 refine⟨fun c h1 h2 h3=>?_,fun c hc=>?_,?_⟩
 ·refine h.done c h1 (lt c h2 ?_) h3
  rintro rfl;rw[hs] at h3
  cases h3
 ·refine h.keep c ?_
  rcases hc with hc | hc | hc
  ·exact .inl hc
  ·exact .inr (.inl (by omega))
  ·exact .inr (.inr hc)
 ·rcases h.best with⟨b1,b2,b3⟩ | ⟨b1,b2,b3,b4,b5⟩
  ·refine .inl ⟨b1,b2,fun c h1 h2=>?_⟩
   by_cases e:c=k
   ·rw[e];exact hs
   ·exact b3 c h1 (lt c h2 e)
  ·refine .inr ⟨b1,by omega,b3,b4,fun c h1 h2 h3=>b5 c h1 (lt c h2 ?_) h3⟩
   rintro rfl;rw[hs] at h3
   cases h3
theorem LookR.look {l2:Nat->Int}{f2:Nat->Nat}{x:Int}(h:LookR n far sl S a least least' frm frm' k next step)(hs:S k=false)(k1:1<=k)(hx:(sl k<least k/\x=sl k/\f2 k=a)\/(least k<=sl k/\x=least k/\f2 k=frm k))
  (hl:∀ c,l2 c=if c=k then x else least' c) (hf:∀ c,c≠k->f2 c=frm' c) (hfar:x<far) :
  (x<step->LookR n far sl S a least l2 frm f2 (k+1) k x)/\(step<=x->LookR n far sl S a least l2 frm f2 (k+1) next step):=by
 have d:∀ c,1<=c->c<k+1->S c=false->(sl c<least c/\l2 c=sl c/\f2 c=a)\/(least c<=sl c/\l2 c=least c/\f2 c=frm c):=fun c h1 h2 h3=>by
  by_cases e:c=k
  ·subst e
   rw[hl,if_pos rfl];exact hx
  ·rw[hl,if_neg e,hf c e]
   exact h.done c h1 (by omega) h3
 have kp:∀ c,c<1\/k+1<=c\/S c=true->l2 c=least c/\f2 c=frm c:=fun c hc=>by
  have e:c≠k:=by
   rintro rfl;rcases hc with hc | hc | hc
   ·omega
   ·omega
   ·rw[hs] at hc
    cases hc
  rw[hl,if_neg e,hf c e];refine h.keep c ?_;rcases hc with hc | hc | hc
  ·exact .inl hc
  ·exact .inr (.inl (by omega))
  ·exact .inr (.inr hc)
 have ek:l2 k=x:=by rw[hl,if_pos rfl]
 refine⟨fun hlt=>⟨d,kp,.inr ⟨k1,by omega,hs,ek.symm,fun c h1 h2 h3=>?_⟩⟩,fun hle=>⟨d,kp,?_⟩⟩
 ·by_cases e:c=k
  ·subst e;omega
  ·rw[hl,if_neg e]
   rcases h.best with⟨b1,b2,b3⟩ | ⟨b1,b2,b3,b4,b5⟩
   ·rw[b3 c h1 (by omega)] at h3
    cases h3
   ·have:=b5 c h1 (by omega) h3
    omega
 ·rcases h.best with⟨b1,b2,b3⟩ | ⟨b1,b2,b3,b4,b5⟩
  ·omega
  ·refine .inr ⟨b1,by omega,b3,?_,fun c h1 h2 h3=>?_⟩
   ·rw[hl,if_neg (by omega)]
    exact b4
   ·by_cases e:c=k
    ·subst e;omega
    ·rw[hl,if_neg e]
     exact b5 c h1 (by omega) h3
end
structure TurnR (S:Nat->Bool)(has:Nat->Nat)(step:Int)(u v least u' v' least':Nat->Int)(k:Nat) : Prop where
 u:∀ i,u' i=if ∃ s,s<k/\S s=true/\has s=i then u i+step else u i
 v:∀ c,1<=c->v' c=if c<k/\S c=true then v c-step else v c
 l:∀ c,least' c=if c<k/\S c=false then least c-step else least c
section
variable {S:Nat->Bool} {has:Nat->Nat} {step:Int} {u v least u' v' least':Nat->Int} {k:Nat}
theorem TurnR.start : TurnR S has step u v least u v least 0 :=
 ⟨fun i=>by rw[if_neg];rintro ⟨s,h,_⟩;omega,fun c _=>by rw[if_neg (by omega)],fun c=>by rw[if_neg (by omega)]⟩
theorem TurnR.seen {v2:Nat->Int}(h:TurnR S has step u v least u' v' least' k)(hs:S k=true)(inj:∀ s,s<k->S s=true->has s≠has k)(h2:∀ c,1<=c->v2 c=if c=k then v' k-step else v' c) :
  u' (has k)=u (has k)/\(1<=k->v' k=v k)/\TurnR S has step u v least (fun i=>if i=has k then u' (has k)+step else u' i) v2 least' (k+1):=by
 have e1:u' (has k)=u (has k):=by
  rw[h.u,if_neg];rintro ⟨s,a,b,c⟩;exact inj s a b c
 refine⟨e1,fun h1=>by rw[h.v k h1,if_neg (by omega)],⟨fun i=>?_,fun c hc=>?_,fun c=>?_⟩⟩
 ·by_cases e:i=has k
  ·rw[if_pos e,e1,if_pos ⟨k,by omega,hs,e.symm⟩,e]
  ·rw[if_neg e,h.u]
   by_cases hx:∃ s,s<k/\S s=true/\has s=i
   ·obtain⟨s,a,b,c⟩:=hx
    rw[if_pos ⟨s,a,b,c⟩,if_pos ⟨s,by omega,b,c⟩]
   ·rw[if_neg hx,if_neg]
    rintro ⟨s,a,b,c⟩
    by_cases e2:s=k
    ·subst e2;exact e c.symm
    ·exact hx ⟨s,by omega,b,c⟩
 ·rw[h2 c hc]
  by_cases e:c=k
  ·subst e
   rw[if_pos rfl,if_pos ⟨by omega,hs⟩,h.v c hc,if_neg (by omega)]
  ·rw[if_neg e,h.v c hc]
   by_cases h3:c<k/\S c=true
   ·rw[if_pos h3,if_pos ⟨by omega,h3.2⟩]
   ·rw[if_neg h3,if_neg]
    rintro ⟨a,b⟩;exact h3 ⟨by omega,b⟩
 ·rw[h.l]
  by_cases e:c=k
  ·subst e
   rw[if_neg (by omega),if_neg];rintro ⟨_,b⟩;rw[hs] at b
   cases b
  ·by_cases h3:c<k/\S c=false
   ·rw[if_pos h3,if_pos ⟨by omega,h3.2⟩]
   ·rw[if_neg h3,if_neg]
    rintro ⟨a,b⟩;exact h3 ⟨by omega,b⟩
theorem TurnR.unseen (h:TurnR S has step u v least u' v' least' k)(hs:S k=false) :
  least' k=least k/\TurnR S has step u v least u' v' (fun c=>if c=k then least' k-step else least' c) (k+1):=by
 have e1:least' k=least k:=by rw[h.l,if_neg (by omega)]
 refine⟨e1,⟨fun i=>?_,fun c hc=>?_,fun c=>?_⟩⟩
 ·rw[h.u]
  by_cases hx:∃ s,s<k/\S s=true/\has s=i
  ·obtain⟨s,a,b,c⟩:=hx
   rw[if_pos ⟨s,a,b,c⟩,if_pos ⟨s,by omega,b,c⟩]
  ·rw[if_neg hx,if_neg]
   rintro ⟨s,a,b,c⟩
   by_cases e2:s=k
   ·subst e2
    rw[hs] at b
    cases b
   ·exact hx ⟨s,by omega,b,c⟩
 ·rw[h.v c hc]
  by_cases h3:c<k/\S c=true
  ·rw[if_pos h3,if_pos ⟨by omega,h3.2⟩]
  ·rw[if_neg h3,if_neg]
   rintro ⟨a,b⟩
   by_cases e:c=k
   ·subst e
    rw[hs] at b
    cases b
   ·exact h3 ⟨by omega,b⟩
 ·by_cases e:c=k
  ·subst e
   rw[if_pos rfl,e1,if_pos ⟨by omega,hs⟩]
  ·rw[if_neg e,h.l]
   by_cases h3:c<k/\S c=false
   ·rw[if_pos h3,if_pos ⟨by omega,h3.2⟩]
   ·rw[if_neg h3,if_neg]
    rintro ⟨a,b⟩;exact h3 ⟨by omega,b⟩
end
def Zbt (w:World)(g:Nat) : Nat:=match w.heap[g]? with
 | some (.cells cs _ _)=>cs.toList.countP fun v=>match v with | .bool b => !b | _=>false
 | _=>0
theorem ArrB.left {w:World}{g n:Nat}{S:Nat->Bool}(h:ArrB w g n S) : Zbt w g=(List.range n).countP fun i => !S i:=by
 unfold ArrB Blk at h;unfold Zbt;rw[h];simp only[List.countP_map]
 rfl
theorem Qm {α:Type}{p q:α->Bool}{a:α} : ∀ {l:List α},a∈l->p a=true->q a=false->(∀ x,q x=true->p x=true)->l.countP q<l.countP p
 | [],h,_,_,_=>by cases h
 | x::l,h,hp,hq,hs=>by
  have hle:l.countP q<=l.countP p:=List.countP_mono_left fun y _ hy=>hs y hy
  rw[List.countP_cons,List.countP_cons];rcases List.mem_cons.1 h with rfl | h
  ·rw[hp,hq]
   simp;omega
  ·have ih:=Qm h hp hq hs
   have:(if q x=true then 1 else 0)<=(if p x=true then 1 else 0):=by
    cases hqx:q x
    ·simp
    ·rw[hs x hqx]
     simp
   omega
theorem ZdU {n a:Nat}{S S':Nat->Bool}(ha:a<n)(h1:S a=false)(h2:∀ i,S' i=if i=a then true else S i) : ((List.range n).countP fun i => !S' i)<(List.range n).countP fun i => !S i:=by
 refine Qm (a:=a) (List.mem_range.2 ha) (by simp[h1]) (by simp[h2]) fun x hx=>?_
 rw[h2] at hx;split at hx
 ·simp at hx
 ·exact hx
end Go.Proofs.YtmojhhlcocjoaaaGreatDoor
namespace Go.Proofs.YtmojhhlcocjoaaaGreatDoor
open Go.RowKit Go.ChangeShapes Go.WideShapes Go.ChangeAt Go.Deep
def PB (w:World)(gp:Nat)(D:Option Addr)(d n N gu gv gh gf:Nat) : Prop :=
 Blk w gp 131 #[.slice D n d,.slice (some ⟨gu,0,none⟩) N N,.slice (some ⟨gv,0,none⟩) N N,.slice (some ⟨gh,0,none⟩) N N,.slice (some ⟨gf,0,none⟩) N N]
theorem ZdV {w:World}{gp d n N gu gv gh gf:Nat}{D:Option Addr}{rows:List (List Int)}{u v:Nat->Int}(hP:PB w gp D d n N gu gv gh gf)(hu:Arr w gu N u)(hv:Arr w gv N v)
  (hC:RdE 1 RInts w D rows) (rok:RowsOk rows) (hn:rows.length=n) (hN:N=n+1) {r c:Nat} (r1:1<=r) (r2:r<=n) (c1:1<=c) (c2:c<=n) (bu:0<=u r/\u r<=2147483647) (bv:-2147483647<=v c/\v c<=0) :
  Calls Tryz.prog 135 #[.pointer (some ⟨gp,0,none⟩),.int .i64 r,.int .i64 c] w fun e w'=>e=.returned (.int .i64 (Zb rows (r-1) (c-1)-u r-v c))/\Ext w w':=by
 subst hn;obtain⟨rp,hrp⟩:∃ rp,Hid (r-1=rp):=⟨_,rfl⟩;obtain⟨cp,hcp⟩:∃ cp,Hid (c-1=cp):=⟨_,rfl⟩;rw[hrp.out,hcp.out];have e1:(r:Int)-1=(rp:Int):=by rw[<-hrp.out];omega
 have e2:(c:Int)-1=(cp:Int):=by rw[<-hcp.out];omega
 have w1:IntKind.i64.wrap ((r:Int)-1)=(rp:Int):=by rw[e1];exact IntWalk.i64_in _ (by have:=rok.n2;omega)
 have w2:IntKind.i64.wrap ((c:Int)-1)=(cp:Int):=by rw[e2];exact IntWalk.i64_in _ (by have:=rok.n2;omega)
 have z1:rp<rows.length:=by rw[<-hrp.out];omega
 have z2:cp<rows.length:=by rw[<-hcp.out];omega
 obtain⟨cb,cof,rb,ro,d',rfl,k1,k2⟩:=WP rok hC z1 z2;have bc:=Y0 rok rp cp z1 z2;have ku:=hu.cell (k:=r) (by omega);have kv:=hv.cell (k:=c) (by omega);generalize Zb rows rp cp=x at *;generalize u r=ur at *;generalize v c=vc at *;have p0:=hP.c0;have p1:=hP.c1;have p2:=hP.c2;have w3:IntKind.i64.wrap (x-ur)=x-ur:=IntWalk.i64_in _ (by omega);have w4:IntKind.i64.wrap (x-ur-vc)=x-ur-vc:=IntWalk.i64_in _ (by omega);have q1:(r:Int)<(N:Int):=by omega
 have q2:(c:Int)<(N:Int):=by omega
 have q3:(rp:Int)<(rows.length:Int):=by omega
 have q4:(cp:Int)<(rows.length:Int):=by omega
 replace hN:=Hd hN;clear hP hu hv hC rok e1 e2 bu bv bc;go_enter Tryz.func135,Tryz.ntmps135;go_wp2_with (fail);go_quiet (fail);go_wp2_with (fail);go_ret;exact⟨rfl,by(repeat (first | assumption | exact Ext.rf _ | apply Ext.drew | apply Ext.drewN | apply Ext.alloc))⟩
def PS (gu gv gh gf:Nat)(k:Nat) : Prop:=k=gu\/k=gv\/k=gh\/k=gf
theorem Ze7 {w:World}{gp d n N R gu gv gh gf:Nat}{D:Option Addr}{cst:Nat->Nat->Int}{far:Int}{has frm:Nat->Nat}{L:List Nat}{a:Nat}{u v least:Nat->Int}
  (hP:PB w gp D d n N gu gv gh gf) (hh:Arr w gh N fun c=>(has c:Int)) (hf:Arr w gf N fun c=>(frm c:Int)) (hne:gh≠gf) (hN:N=n+1) (hn:n<=1000)
  (hG:GI n cst far R has L a u v least frm) (ho:HasOk n R has) (ha:has a=0) :
  Calls Tryz.prog 81 #[.pointer (some ⟨gp,0,none⟩),.int .i64 a] w fun e w'=>e=.returned (.tuple #[])/\(∃ hs,Arr w' gh N (fun c=>(hs c:Int))/\HI n cst R u v hs)/\Mod (fun k=>k=gh) w w':=by
 have hgp:gp≠gh:=fun e=>hh.ne hP (by decide) e.symm
 have T0:=hG.turn ho ha;have B0:BackI n has (L++[a]) has a:=⟨⟨L,[],by simp,fun _ _=>rfl⟩⟩;have la:a<=n:=hG.le a (by simp);replace hG:=Hd hG;replace ho:=Hd ho;replace T0:=Hd T0;replace B0:=Hd B0;replace hP:=Hd hP;replace hh:=Hd hh;replace hf:=Hd hf;replace hN:=Hd hN;clear ha;go_enter Tryz.func81,Tryz.ntmps81;go_wp2_with (fail);go_loopw [1] (fun v1 wr=>∃ (hole:Nat) (hs:Nat->Nat),v1=.int .i64 hole/\hole<=n/\Hid (Arr wr gh N (fun c=>(hs c:Int))/\TI n cst R u v hs hole/\BackI n has (L++[a]) hs hole)/\Hid (Mod (fun k=>k=gh) w wr)) (fun v1 _=>(L++[a]).idxOf (intOf v1).toNat)
 case atStart=>exact⟨a,has,rfl,la,⟨hh.out,T0.out,B0.out⟩,Mod.rf _⟩
 case round =>
  obtain⟨wo,rfl⟩:∃ wo:World,wo=wr:=⟨_,rfl⟩;obtain⟨hole,hs,rfl,hle,HH,HM⟩:=hrel
  by_cases h0:hole=0
  ·subst h0
   go_wp2_with (fail);go_end0;exact⟨rfl,⟨hs,HH.out.1,HH.out.2.1.done hG.out.slack hG.out.neg hG.out.pos hG.out.fresh⟩,HM.out⟩
  ·obtain⟨HA,HT,HB⟩:=HH.out
   obtain⟨f1,f2,f3,A,B,f4,f5⟩:=hG.out.back ho.out HB HT h0 (has':=fun c=>if c=hole then hs (frm hole) else hs c) (fun c=>rfl);have hP1:PB wo gp D d n N gu gv gh gf:=hP.out.mod HM.out hgp;have hF1:=hf.out.mod HM.out (fun e=>hne e.symm);have kf:=hF1.cell (k:=hole) (by have:=hN.out;omega);have kh:=HA.cell (k:=frm hole) (by have:=hN.out;omega);have fh:=HA.free hole;have S1:=HA.set hole (hs (frm hole):Int);have p3:=hP1.c3;have p4:=hP1.c4;have kh0:=HA.cell (k:=hole) (by have:=hN.out;omega);have S1':Arr (wo.setCell ⟨gh,hole,none⟩ (.int .i64 (hs (frm hole)))) gh N (fun c=>((if c=hole then hs (frm hole) else hs c:Nat):Int)):=S1.congr fun i _=>by split<;>rfl
   have FIN:=Hd (And.intro S1' (And.intro f2 f3));have MM:Hid (Mod (fun k=>k=gh) w (wo.setCell ⟨gh,hole,none⟩ (.int .i64 (hs (frm hole))))):=HM.out.set (p:=⟨gh,hole,none⟩) (.inl rfl) _;have ML:Hid ((L++[a]).idxOf (frm hole)<(L++[a]).idxOf hole):=by
    have nd:=hG.out.nodup;have h:(L++[a]).idxOf (frm hole)<(L++[a]).idxOf hole:=by
     rw[f4] at nd ⊢;have h1:hole∉A:=fun hm=>(List.nodup_append.1 nd).2.2 hole hm hole (by simp) rfl
     rw[List.idxOf_append,if_pos f5,List.idxOf_append,if_neg h1];have:=List.idxOf_lt_length_of_mem f5;omega
    exact h
   have q0:((hole:Int) != 0)=true:=by simp;omega
   have q1:(hole:Int)<(N:Int):=by have:=hN.out;omega
   have q2:((frm hole:Nat):Int)<(N:Int):=by have:=hN.out;omega
   clear HA HT HB hF1 hP1 S1 S1' f2 f3 f4 f5 HH HM;replace f1:=Hd f1;generalize frm hole=p at *;generalize hs p=x at *;go_wp2_with (fail);refine wp_region_any (by kernel_rfl) ?_
   change wpAny _ _ _ _ _ _ _ (World.drew _)
   refine Za (i:=0) (op:=Op.move (Operand.tmp 0)) (t:=129) (d:=some 14) (v:=?_) rfl (by decide +kernel) (by decide +kernel) (by decide +kernel) (fun _ _ _ h=>h) ?_ ?_
   case refine_2=>(intro _;unfold Zd;go_simp;try with_reducible rfl)
   try simp only[lay]
   refine Za (i:=1) (op:=Op.nilCheck (Operand.tmp 14)) (t:=0) (d:=some 15) (v:=?_) rfl (by decide +kernel) (by decide +kernel) (by decide +kernel) (fun _ _ _ h=>h) ?_ ?_
   case refine_2=>(intro _;unfold Zd;go_simp;try with_reducible rfl)
   try simp only[lay]
   refine Za (i:=2) (op:=Op.fieldAddr 131 (Operand.tmp 15) 3) (t:=0) (d:=some 16) (v:=?_) rfl (by decide +kernel) (by decide +kernel) (by decide +kernel) (fun _ _ _ h=>h) ?_ ?_
   case refine_2=>(intro _;unfold Zd;go_simp;try with_reducible rfl)
   try simp only[lay]
   refine Za (i:=4) (op:=Op.move (Operand.tmp 1)) (t:=3) (d:=some 18) (v:=?_) rfl (by decide +kernel) (by decide +kernel) (by decide +kernel) (fun _ _ _ h=>h) ?_ ?_
   case refine_2=>(intro _;unfold Zd;go_simp;try with_reducible rfl)
   try simp only[lay]
   refine Za (i:=5) (op:=Op.move (Operand.tmp 0)) (t:=129) (d:=some 19) (v:=?_) rfl (by decide +kernel) (by decide +kernel) (by decide +kernel) (fun _ _ _ h=>h) ?_ ?_
   case refine_2=>(intro _;unfold Zd;go_simp;try with_reducible rfl)
   try simp only[lay]
   refine Za (i:=6) (op:=Op.nilCheck (Operand.tmp 19)) (t:=0) (d:=some 20) (v:=?_) rfl (by decide +kernel) (by decide +kernel) (by decide +kernel) (fun _ _ _ h=>h) ?_ ?_
   case refine_2=>(intro _;unfold Zd;go_simp;try with_reducible rfl)
   try simp only[lay]
   refine Za (i:=7) (op:=Op.fieldAddr 131 (Operand.tmp 20) 3) (t:=0) (d:=some 21) (v:=?_) rfl (by decide +kernel) (by decide +kernel) (by decide +kernel) (fun _ _ _ h=>h) ?_ ?_
   case refine_2=>(intro _;unfold Zd;go_simp;try with_reducible rfl)
   try simp only[lay]
   refine Za (i:=9) (op:=Op.move (Operand.tmp 4)) (t:=3) (d:=some 23) (v:=?_) rfl (by decide +kernel) (by decide +kernel) (by decide +kernel) (fun _ _ _ h=>h) ?_ ?_
   case refine_2=>(intro _;unfold Zd;go_simp;try with_reducible rfl)
   try simp only[lay]
   refine YJ (n:=2) [(3,some 17),(8,some 22),(10,some 24),(11,some 25)] (fun | 3=>.slice (some ⟨gh,0,none⟩) N N | 8=>.slice (some ⟨gh,0,none⟩) N N | 10=>.pointer (some ⟨gh,p,none⟩) | 11=>.int .i64 x | _=>undef) #[true,true,true,true,true,true,true,true,true,true,true,true,false,false] (by decide +kernel) ?_ ?_
   ·intro pS hpm uS hD K hK
    simp only[List.mem_cons,List.not_mem_nil,or_false] at hpm;rcases hpm with rfl | rfl | rfl | rfl
    ·exact Zp (T:=22) (x:=Operand.tmp 16) (t:=22) (d:=some 17) rfl (.pointer (some ⟨gp,3,none⟩)) (by kernel_rfl) (.slice (some ⟨gh,0,none⟩) N N) (by go_simp) hK
    ·exact Zp (T:=22) (x:=Operand.tmp 21) (t:=22) (d:=some 22) rfl (.pointer (some ⟨gp,3,none⟩)) (by kernel_rfl) (.slice (some ⟨gh,0,none⟩) N N) (by go_simp) hK
    ·exact Z2 (T:=22) (x:=Operand.tmp 22) (y:=Operand.tmp 23) (t:=0) (d:=some 24) rfl (.slice (some ⟨gh,0,none⟩) N N) (.int .i64 p) (Eq.trans (b:=uS 8) (by kernel_rfl) (hD 8 (Zn (by kernel_rfl)))) (by kernel_rfl) (.pointer (some ⟨gh,p,none⟩)) (by go_simp) hK
    ·exact Zp (T:=3) (x:=Operand.tmp 24) (t:=3) (d:=some 25) rfl (.pointer (some ⟨gh,p,none⟩)) (Eq.trans (b:=uS 10) (by kernel_rfl) (hD 10 (Zn (by kernel_rfl)))) (.int .i64 x) (by go_simp) hK
   simp only[Zk,Act.put,List.setIfInBounds_toArray,List.set_cons_zero,List.set_cons_succ];refine Za (i:=12) (op:=Op.indexAddr 22 (Operand.tmp 17) (Operand.tmp 18)) (t:=0) (d:=some 26) (v:=?_) rfl (by decide +kernel) (by decide +kernel) (by decide +kernel) (fun _ _ _ h=>h) ?_ ?_
   case refine_2=>(intro _;unfold Zd;go_simp;try with_reducible rfl)
   try simp only[lay]
   refine Zi 13 (by decide +kernel) (Yl rfl (.pointer (some ⟨gh,hole,none⟩)) (.int .i64 x) (by kernel_rfl) (by kernel_rfl) (by go_simp;rfl) ?_);refine wpAny_done (by kernel_rfl) ?_ _;clear kf kh kh0 fh p3 p4;generalize wo.setCell ⟨gh,hole,none⟩ (.int .i64 x)=w4 at *;go_wp2_with (fail);go_roundw
   case rel=>exact⟨p,_,rfl,f1.out,⟨FIN.out.1.ext ((Ext.rf _).drew),FIN.out.2.1,FIN.out.2.2⟩,MM.out.drew⟩
   case measure=>exact ML.out
def Vp (rows:List (List Int))(i c:Nat) : Int:=Zb rows (i-1) (c-1)
abbrev V6 : Int:=1152921504606846976
structure GrowS (w wr:World)(gu gv gh gf gl gs N:Nat)(has:Nat->Nat)(u v least:Nat->Int)(frm:Nat->Nat)(S:Nat->Bool) : Prop where
 u:Arr wr gu N u
 v:Arr wr gv N v
 h:Arr wr gh N fun c=>(has c:Int)
 f:Arr wr gf N fun c=>(frm c:Int)
 l:Arr wr gl N least
 s:ArrB wr gs N S
 m:Mod (PS gu gv gh gf) w wr
def ApartH (w:World)(gu gv gh gf gl gs:Nat) : Prop:=[gu,gv,gh,gf,gl,gs].Nodup/\w.heap.size<=gl/\w.heap.size<=gs
section
variable {w wr w':World} {gu gv gh gf gl gs N:Nat} {has:Nat->Nat} {u v least:Nat->Int} {frm:Nat->Nat} {S:Nat->Bool}
theorem GrowS.ext (h:GrowS w wr gu gv gh gf gl gs N has u v least frm S)(x:Ext wr w') : GrowS w w' gu gv gh gf gl gs N has u v least frm S :=
 ⟨h.u.ext x,h.v.ext x,h.h.ext x,h.f.ext x,h.l.ext x,h.s.ext x,h.m.ext x⟩
theorem ApartH.ne (h:ApartH w gu gv gh gf gl gs) : (gu≠gv/\gu≠gh/\gu≠gf/\gu≠gl/\gu≠gs)/\(gv≠gh/\gv≠gf/\gv≠gl/\gv≠gs)/\(gh≠gf/\gh≠gl/\gh≠gs)/\(gf≠gl/\gf≠gs)/\gl≠gs:=by
 have:=h.1;simp only[List.nodup_cons,List.mem_cons,List.not_mem_nil,or_false,not_or] at this;obtain⟨⟨a1,a2,a3,a4,a5⟩,⟨b1,b2,b3,b4⟩,⟨c1,c2,c3⟩,⟨d1,d2⟩,e1,-⟩:=this;exact⟨⟨a1,a2,a3,a4,a5⟩,⟨b1,b2,b3,b4⟩,⟨c1,c2,c3⟩,⟨d1,d2⟩,e1⟩
theorem GrowS.setU (h:GrowS w wr gu gv gh gf gl gs N has u v least frm S)(d:ApartH w gu gv gh gf gl gs)(k:Nat)(x:Int) : GrowS w (wr.setCell ⟨gu,k,none⟩ (.int .i64 x)) gu gv gh gf gl gs N has (fun i=>if i=k then x else u i) v least frm S:=by
 obtain⟨⟨a1,a2,a3,a4,a5⟩,⟨b1,b2,b3,b4⟩,⟨c1,c2,c3⟩,⟨d1,d2⟩,e1⟩:=d.ne;exact⟨h.u.set k x,h.v.far a1.symm _,h.h.far a2.symm _,h.f.far a3.symm _,h.l.far a4.symm _,h.s.far a5.symm _,h.m.set (p:=⟨gu,k,none⟩) (.inl (.inl rfl)) _⟩
theorem GrowS.setV (h:GrowS w wr gu gv gh gf gl gs N has u v least frm S)(d:ApartH w gu gv gh gf gl gs)(k:Nat)(x:Int) : GrowS w (wr.setCell ⟨gv,k,none⟩ (.int .i64 x)) gu gv gh gf gl gs N has u (fun i=>if i=k then x else v i) least frm S:=by
 obtain⟨⟨a1,a2,a3,a4,a5⟩,⟨b1,b2,b3,b4⟩,⟨c1,c2,c3⟩,⟨d1,d2⟩,e1⟩:=d.ne;exact⟨h.u.far a1 _,h.v.set k x,h.h.far b1.symm _,h.f.far b2.symm _,h.l.far b3.symm _,h.s.far b4.symm _,h.m.set (p:=⟨gv,k,none⟩) (.inl (.inr (.inl rfl))) _⟩
theorem GrowS.setF (h:GrowS w wr gu gv gh gf gl gs N has u v least frm S)(d:ApartH w gu gv gh gf gl gs)(k:Nat)(x:Nat) : GrowS w (wr.setCell ⟨gf,k,none⟩ (.int .i64 x)) gu gv gh gf gl gs N has u v least (fun i=>if i=k then x else frm i) S:=by
 obtain⟨⟨a1,a2,a3,a4,a5⟩,⟨b1,b2,b3,b4⟩,⟨c1,c2,c3⟩,⟨d1,d2⟩,e1⟩:=d.ne;exact⟨h.u.far a3 _,h.v.far b2 _,h.h.far c1 _,(h.f.set k x).congr fun i _=>by split<;>rfl,h.l.far d1.symm _,h.s.far d2.symm _,h.m.set (p:=⟨gf,k,none⟩) (.inl (.inr (.inr (.inr rfl)))) _⟩
theorem GrowS.setL (h:GrowS w wr gu gv gh gf gl gs N has u v least frm S)(d:ApartH w gu gv gh gf gl gs)(k:Nat)(x:Int) : GrowS w (wr.setCell ⟨gl,k,none⟩ (.int .i64 x)) gu gv gh gf gl gs N has u v (fun i=>if i=k then x else least i) frm S:=by
 obtain⟨⟨a1,a2,a3,a4,a5⟩,⟨b1,b2,b3,b4⟩,⟨c1,c2,c3⟩,⟨d1,d2⟩,e1⟩:=d.ne;exact⟨h.u.far a4 _,h.v.far b3 _,h.h.far c2 _,h.f.far d1 _,h.l.set k x,h.s.far e1.symm _,h.m.set (p:=⟨gl,k,none⟩) (.inr d.2.1) _⟩
theorem GrowS.setS (h:GrowS w wr gu gv gh gf gl gs N has u v least frm S)(d:ApartH w gu gv gh gf gl gs)(k:Nat)(x:Bool) : GrowS w (wr.setCell ⟨gs,k,none⟩ (.bool x)) gu gv gh gf gl gs N has u v least frm (fun i=>if i=k then x else S i):=by
 obtain⟨⟨a1,a2,a3,a4,a5⟩,⟨b1,b2,b3,b4⟩,⟨c1,c2,c3⟩,⟨d1,d2⟩,e1⟩:=d.ne;exact⟨h.u.far a5 _,h.v.far b4 _,h.h.far c3 _,h.f.far d2 _,h.l.far e1 _,h.s.set k x,h.m.set (p:=⟨gs,k,none⟩) (.inr d.2.2) _⟩
theorem GrowS.congL {l2:Nat->Int}(h:GrowS w wr gu gv gh gf gl gs N has u v least frm S)(e:∀ i,i<N->least i=l2 i) : GrowS w wr gu gv gh gf gl gs N has u v l2 frm S :=
 ⟨h.u,h.v,h.h,h.f,h.l.congr e,h.s,h.m⟩
end
def Ze8 (n N R gu gv gh gf:Nat)(cst:Nat->Nat->Int)(w:World)(e:Ending)(w':World) : Prop :=
 ∃ (a:Nat) (L:List Nat) (u v least:Nat->Int) (has frm:Nat->Nat),e=.returned (.int .i64 a)/\has a=0/\Arr w' gu N u/\Arr w' gv N v/\Arr w' gh N (fun c=>(has c:Int))/\Arr w' gf N (fun c=>(frm c:Int))/\GI n cst V6 R has L a u v least frm/\HasOk n R has/\Mod (PS gu gv gh gf) w w'
theorem ZfE {n R:Nat}{cst:Nat->Nat->Int}{has frm frm':Nat->Nat}{L:List Nat}{a:Nat}{u v least least':Nat->Int}{c:Nat}(h:GI n cst V6 R has L a u v least frm)(ho:HasOk n R has)(hRn:R<=n)(ha:has a≠0)
  (num:∀ i c,1<=i->i<=n->1<=c->c<=n->0<=cst i c/\cst i c<=2147483647) (bu:∀ i,1<=i->i<=n->0<=u i/\u i<=2147483647) (bv:∀ c,1<=c->c<=n->-2147483647<=v c/\v c<=0) (c1:1<=c) (c2:c<=n) (hc:c∉L++[a])
  (k1:(cst (has a) c-u (has a)-v c<least c/\least' c=cst (has a) c-u (has a)-v c/\frm' c=a)\/(least c<=cst (has a) c-u (has a)-v c/\least' c=least c/\frm' c=frm c)):0<=least' c/\least' c<=4294967294:=by
 have la:=h.le a (by simp);have h1:=ho.le a la;have s1:=h.slack (has a) c (by omega) (by omega) c1 c2;have b1:=num (has a) c (by omega) (by omega) c1 c2;have b2:=bu (has a) (by omega) (by omega);have b3:=bv c c1 c2;rcases k1 with⟨_,e,_⟩ | ⟨k,e,_⟩
 ·omega
 ·by_cases hL:L=[]
  ·have:=h.far0 hL c c1 c2
   have e2:V6=1152921504606846976:=rfl;omega
  ·have hcL:c∉L:=fun hm=>hc (List.mem_append_left _ hm)
   obtain⟨m1,m2⟩:=h.least2 hL c c1 c2 hcL;have l2:=h.le (frm c) (List.mem_append_left _ m1);have h2:=ho.le (frm c) l2;have h3:=h.seen _ m1;have s2:=h.slack (has (frm c)) c (by omega) (by omega) c1 c2;omega
end Go.Proofs.YtmojhhlcocjoaaaGreatDoor
namespace Go.Proofs.YtmojhhlcocjoaaaGreatDoor
open Go.RowKit Go.ChangeShapes Go.WideShapes Go.ChangeAt Go.Deep
theorem Ze9 {wb w:World}{gp d n N r R gu gv gh gf:Nat}{D:Option Addr}{rows:List (List Int)}{u v:Nat->Int}{has frm:Nat->Nat}
  (hP:PB w gp D d n N gu gv gh gf) (hu:Arr w gu N u) (hv:Arr w gv N v) (hh:Arr w gh N fun c=>(has c:Int)) (hf:Arr w gf N fun c=>(frm c:Int)) (hd:[gu,gv,gh,gf].Nodup)
  (hC:RdE 1 RInts wb D rows) (hx:Ext wb w) (hb:∀ k,k<wb.heap.size->¬PS gu gv gh gf k) (rok:RowsOk rows) (hn:rows.length=n) (hN:N=n+1) (hI:HI n (Vp rows) r u v has) (hr:r<n) (hR:R=r+1) :
  Calls Tryz.prog 82 #[.pointer (some ⟨gp,0,none⟩),.int .i64 R] w (Ze8 n N R gu gv gh gf (Vp rows) w):=by
 have num:∀ i c,1<=i->i<=n->1<=c->c<=n->0<=Vp rows i c/\Vp rows i c<=2147483647:=fun i c h1 h2 h3 h4=>Y0 rok (i-1) (c-1) (by omega) (by omega)
 have n24:n<=24:=by rw[<-hn];exact rok.n2
 have SL:=fun(W:World) (u v:Nat->Int) (hp:PB W gp D d n N gu gv gh gf) (a1:Arr W gu N u) (a2:Arr W gv N v) (x:Ext wb W) (i c:Nat) (i1:1<=i) (i2:i<=n) (c1:1<=c) (c2:c<=n) (bu:0<=u i/\u i<=2147483647) (bv:-2147483647<=v c/\v c<=0) =>
  ZdV hp a1 a2 (hC.ext x fun _ _ h=>h.ext x) rok hn hN i1 i2 c1 c2 bu bv
 have XM:=fun(W:World) (m:Mod (PS gu gv gh gf) w W)=>hx.mod m hb
 have gpn:¬PS gu gv gh gf gp:=by
  rintro (h | h | h | h)
  ·exact hu.ne hP (by decide) h.symm
  ·exact hv.ne hP (by decide) h.symm
  ·exact hh.ne hP (by decide) h.symm
  ·exact hf.ne hP (by decide) h.symm
 have PM:=fun(W:World) (m:Mod (PS gu gv gh gf) w W)=>(show PB W gp D d n N gu gv gh gf from hP.mod m gpn)
 have h0:(fun c=>if c=0 then R else has c) 0=R:=rfl;obtain⟨hs,hhs⟩:∃ hs:Nat->Nat,hs=fun c=>if c=0 then R else has c:=⟨_,rfl⟩
 have hs0:hs 0=R:=by rw[hhs];rfl
 have hs1:∀ c,1<=c->hs c=has c:=fun c hc=>by rw[hhs];simp only;rw[if_neg (by omega)]
 have HO:HasOk n R hs:=by rw[hR];exact hI.hasOk (by rw[hs0,hR]) hs1
 obtain⟨cf,cf1,cf2,cf3⟩:=hI.some_free hr;have HF:∃ c,1<=c/\c<=n/\hs c=0:=⟨cf,cf1,cf2,by rw[hs1 cf cf1];exact cf3⟩;have HG:=fun(least:Nat->Int) (frm:Nat->Nat) (e:∀ c,1<=c->c<=n->least c=V6)=>(show GI n (Vp rows) V6 R hs [] 0 u v least frm by rw[hR];exact hI.grow hs1 e)
 have hRn:R<=n:=by omega
 have MU:=And.intro hd (And.intro hu.lt (And.intro hv.lt (And.intro hh.lt hf.lt)));have p0:=hP.c0;have p3:=hP.c3;have f0:=hh.free 0;have k0:=hh.cell (k:=0) (by omega);have A1:=hh.set 0 (R:Int);have A1':Arr (w.setCell ⟨gh,0,none⟩ (.int .i64 R)) gh N (fun c=>(hs c:Int)):=A1.congr fun i _=>by rw[hhs];simp only;split<;>rfl
 have hne:gu≠gh/\gv≠gh/\gf≠gh:=by
  simp only[List.nodup_cons,List.mem_cons,List.not_mem_nil,or_false,not_or] at hd;exact⟨hd.1.2.1,hd.2.1.1,fun e=>hd.2.2.1 e.symm⟩
 have AA:=And.intro A1' (And.intro (hu.far (a:=⟨gh,0,none⟩) hne.1 (.int .i64 R)) (And.intro (hv.far (a:=⟨gh,0,none⟩) hne.2.1 (.int .i64 R)) (And.intro (hf.far (a:=⟨gh,0,none⟩) hne.2.2 (.int .i64 R)) ((Mod.rf (S:=PS gu gv gh gf) w).set (p:=⟨gh,0,none⟩) (.inl (.inr (.inr (.inl rfl)))) (.int .i64 R)))));have z0:(0:Int)<(N:Int):=by omega
 have e1:(n:Int)+1=(N:Int):=by omega
 have w1:IntKind.i64.wrap ((n:Int)+1)=(N:Int):=by rw[e1];exact IntWalk.i64_in _ (by omega)
 have szw:(w.setCell ⟨gh,0,none⟩ (.int .i64 R)).heap.size=w.heap.size:=by simp[World.setCell]
 have n24N:N<=25:=by omega
 replace AA:=Hd AA;replace SL:=Hd SL;replace XM:=Hd XM;replace PM:=Hd PM;replace HO:=Hd HO;replace HF:=Hd HF;replace HG:=Hd HG;replace hRn:=Hd hRn;replace MU:=Hd MU;replace num:=Hd num;replace hN:=Hd hN;replace hs0:=Hd hs0;replace szw:=Hd szw;clear hP hu hv hh hf hd hC hx hb rok hn hI hr hR hhs hs1 h0 A1 A1' hne cf cf1 cf2 cf3;go_enter Tryz.func82,Tryz.ntmps82;go_upto_region 3 with(fail);generalize w.setCell ⟨gh,0,none⟩ (.int .i64 R)=w1 at *;clear p0 p3 f0 k0;go_wp2_with (first
  | (at_make;refine Xd _ rfl _ _ rfl w1.heap.size _ _ N rfl rfl (by first | rfl | exact e1) (by first | rfl | exact e1) (by omega) (Nat.le_refl _) ?_;rintro w2 o2 g2;replace o2:=Hd o2;replace g2:=Hd g2)
  | (at_make;refine V4 _ rfl _ _ rfl _ _ N rfl rfl (by first | rfl | exact e1) (by first | rfl | exact e1) (by omega) ?_;rintro w3 a3 g3;replace a3:=Hd a3;replace g3:=Hd g3))
 replace g3:=g3.out;replace a3:=a3.out;have a2:=Hd (Arr.of_own o2.out);have x2:=Hd ((Ext.rf w1).grownNone g2.out);clear o2 g2;have x3:=(Ext.rf w2).grownNone g3;obtain⟨m1,m2,m3,m4,m5⟩:=AA.out;have z12:=a2.out.lt;have x13:=x2.out.tr x3;have AP:ApartH w gu gv gh gf w1.heap.size w2.heap.size:=by
  obtain⟨q1,q2,q3,q4,q5⟩:=MU.out;have q6:=szw.out;refine⟨?_,by omega,by have:=x2.out.size;omega⟩;simp only[List.nodup_cons,List.mem_cons,List.not_mem_nil,or_false,not_or,not_false_eq_true,List.nodup_nil,and_true] at q1 ⊢;omega
 have GS:Hid (GrowS w w3 gu gv gh gf w1.heap.size w2.heap.size N hs u v (fun c=>if c<0 then V6 else 0) frm (fun _=>false)) :=
  ⟨m2.ext x13,m3.ext x13,m1.ext x13,m4.ext x13,(a2.out.ext x3).congr fun i _=>by rw[if_neg (by omega)],a3,m5.ext x13⟩
 generalize w1.heap.size=gl at *;generalize w2.heap.size=gs at *;replace AP:=Hd AP;clear m1 m2 m3 m4 m5 z12 x13 x3 x2 a2 a3 g3 AA szw MU;clear w1 w2;go_wp2_with (fail);go_loopw [35] (fun i wr=>∃ (k:Nat),i=.int .i64 k/\k<=N/\Hid (GrowS w wr gu gv gh gf gl gs N hs u v (fun c=>if c<k then V6 else 0) frm (fun _=>false))) (fun i _=>N-(intOf i).toNat)
 case atStart=>exact⟨0,rfl,by omega,GS⟩
 case round =>
  obtain⟨wo,rfl⟩:∃ wo:World,wo=wr:=⟨_,rfl⟩;obtain⟨k,rfl,hk,HS⟩:=hrel;clear GS
  by_cases hlt:k<N
  ·have kl:=HS.out.l.cell hlt
   have fl:=HS.out.l.free k;have q1:(k:Int)<(N:Int):=by omega
   have F1:=Hd ((HS.out.setL AP.out k V6).congL (l2:=fun c=>if c<k+1 then V6 else 0) fun i _=>by
    by_cases e:i=k
    ·rw[if_pos e,if_pos (by omega)]
    ·rw[if_neg e]
     by_cases e2:i<k
     ·rw[if_pos e2,if_pos (by omega)]
     ·rw[if_neg e2,if_neg (by omega)])
   go_wp2_with (fail);go_roundw
   case rel=>exact⟨k+1,by go_num,by omega,F1⟩
   case measure=>simp[intOf];omega
  ·obtain rfl:k=N:=by omega
   go_wp2_with (fail);have HS1:=Hd (HS.out.congL (l2:=fun _=>V6) fun i hi=>if_pos hi);have G0:=Hd (HG.out (fun _=>V6) frm fun _ _ _=>rfl);clear HS HG hlt hk;go_loopw [9] (fun v9 wr=>∃ (a:Nat) (L:List Nat) (u v least:Nat->Int) (frm:Nat->Nat) (S:Nat->Bool),v9=.int .i64 a/\a<=n/\Hid (GI n (Vp rows) V6 R hs L a u v least frm)/\Hid (GrowS w wr gu gv gh gf gl gs k hs u v least frm S)/\Hid (∀ c,c<=n->(S c=true↔c∈L))) (fun _ wr=>Zbt wr gs)
   case atStart=>exact⟨0,[],u,v,_,frm,_,rfl,by omega,G0,HS1,fun c _=>by simp⟩
   case round =>
    clear G0 HS1;obtain⟨wp,rfl⟩:∃ wp:World,wp=wr:=⟨_,rfl⟩;obtain⟨a,L,u,v,least,frm,S,rfl,ha,GG,G1,HS⟩:=hrel;have p3:wp.cell? ⟨gp,3,none⟩=some (.slice (some ⟨gh,0,none⟩) k k):=(PM.out _ G1.out.m).cell 3;have q1:(a:Int)<(k:Int):=by have:=hN.out;omega
    have ka:=G1.out.h.cell (k:=a) (by have:=hN.out;omega)
    by_cases hz:hs a=0
    ·have e0:((hs a:Nat):Int)=0:=by omega
     rw[e0] at ka;go_wp2_with (fail);go_ret;exact⟨a,L,u,v,least,hs,frm,rfl,hz,G1.out.u,G1.out.v,G1.out.h,G1.out.f,GG.out,HO.out,G1.out.m⟩
    ·have e0:(((hs a:Nat):Int) != 0)=true:=by simp;omega
     obtain⟨row,hrow⟩:∃ row,Hid (hs a=row):=⟨_,rfl⟩;have ks:=G1.out.s.cell (k:=a) (by have:=hN.out;omega);have fs:=G1.out.s.free a;have SA:S a=false:=by
      cases h:S a with
      | false=>rfl
      | true=>exact absurd ((HS.out a ha).1 h) GG.out.notin
     obtain⟨S5,hS5⟩:∃ S5:Nat->Bool,S5=fun i=>if i=a then true else S i:=⟨_,rfl⟩
     have G2:=Hd (G1.out.setS AP.out a true);rw[<-hS5] at G2;have S2:Hid (∀ c,c<=n->(S5 c=true↔c∈L++[a])):=fun c hc=>by
      rw[hS5];simp only[List.mem_append,List.mem_singleton]
      by_cases e:c=a
      ·simp[e]
      ·rw[if_neg e,HS.out c hc]
       simp[e]
     have ML:Hid (∀ W,ArrB W gs k S5->Zbt W gs<Zbt wp gs):=fun W h1=>by
      rw[h1.left,G1.out.s.left];exact ZdU (by have:=hN.out;omega) SA fun _=>by rw[hS5]
     have BD:=Hd (GG.out.bound HO.out hRn.out HF.out num.out);have RB:1<=row/\row<=n:=by
      have h1:=HO.out.le a ha;have h2:=hrow.out;have h3:=hRn.out;omega
     have hz':Hid (hs a≠0):=hz;clear hS5 SA HS hz G1;rw[hrow.out] at ka e0;go_upto_region 13 with(fail);generalize wp.setCell ⟨gs,a,none⟩ (.bool true)=w5 at *;clear p3 ka ks fs;have p3:w5.cell? ⟨gp,3,none⟩=some (.slice (some ⟨gh,0,none⟩) k k):=(PM.out _ G2.out.m).cell 3;have ka:=G2.out.h.cell (k:=a) (by have:=hN.out;omega);simp only[hrow.out] at ka;go_wp2_with (fail);clear p3 ka;go_loopw [11,12,13] (fun v11 v12 v13 wr=>∃ (c next:Nat) (step:Int) (least2:Nat->Int) (frm2:Nat->Nat),v11=.int .i64 step/\v12=.int .i64 next/\v13=.int .i64 c/\1<=c/\c<=k/\Hid (LookR n V6 (fun c=>Vp rows row c-u row-v c) S5 a least least2 frm frm2 c next step)/\Hid (GrowS w wr gu gv gh gf gl gs k hs u v least2 frm2 S5)) (fun _ _ v13 _=>k-(intOf v13).toNat)
     case atStart=>exact⟨1,0,V6,least,frm,rfl,rfl,rfl,by omega,by have:=hN.out;omega,LookR.start,G2⟩
     case round =>
      clear G2;obtain⟨wq,rfl⟩:∃ wq:World,wq=wr:=⟨_,rfl⟩;obtain⟨c,next,step,least2,frm2,rfl,rfl,rfl,hc1,hck,LR,G3⟩:=hrel
      by_cases hcn:c<=n
      ·have q2:(c:Int)<=(n:Int):=by omega
       have q3:(c:Int)<(k:Int):=by have:=hN.out;omega
       have wc1:IntKind.i64.wrap ((c:Int)+1)=((c+1:Nat):Int):=IntWalk.i64_in _ (by omega);have ks:=G3.out.s.cell (k:=c) (by have:=hN.out;omega);obtain⟨sb,hsb⟩:∃ sb,Hid (S5 c=sb):=⟨_,rfl⟩;rw[hsb.out] at ks
       cases sb with
       | true =>
        have LR2:=Hd (LR.out.skip hsb.out);clear LR;go_wp2_with (fail);go_roundw
        case rel=>exact⟨c+1,next,step,least2,frm2,rfl,rfl,by go_num,by omega,by have:=hN.out;omega,LR2,G3⟩
        case measure=>simp[intOf];omega
       | false =>
        have hb1:=BD.out.1 row RB.1 RB.2;have hb2:=BD.out.2 c hc1 hcn;have SC:=Hd (SL.out wq u v (PM.out _ G3.out.m) G3.out.u G3.out.v (XM.out _ G3.out.m) row c RB.1 RB.2 hc1 hcn hb1 hb2);have nb:=num.out row c RB.1 RB.2 hc1 hcn;go_wp2_with (fail);refine SC.out.mono ?_;rintro e w6 ⟨rfl,x6⟩;have G4:=Hd (G3.out.ext x6);clear G3 x6 SC ks;obtain⟨x,hx⟩:∃ x,Hid (Vp rows row c-u row-v c=x):=⟨_,rfl⟩;rw[show Zb rows (row-1) (c-1)-u row-v c=x from hx.out];have xb:x<V6:=by
         have:=hx.out;show x<1152921504606846976;omega
        have lk:=(LR.out.keep c (.inr (.inl (Nat.le_refl _))));have kl:=G4.out.l.cell (k:=c) (by have:=hN.out;omega);have fl:=G4.out.l.free c;clear hb1 hb2 nb
        by_cases h1:x<least2 c
        ·have LK:=LR.out.look (l2:=fun i=>if i=c then x else least2 i) (f2:=fun i=>if i=c then a else frm2 i) (x:=x) hsb.out hc1 (.inl ⟨by rw[<-lk.1];exact hx.out ▸ h1,hx.out.symm,if_pos rfl⟩) (fun _=>rfl) (fun i hi=>if_neg hi) xb
         have G5:=Hd ((G4.out.setL AP.out c x).setF AP.out c a);have p4:w6.cell? ⟨gp,4,none⟩=some (.slice (some ⟨gf,0,none⟩) k k):=(PM.out _ G4.out.m).cell 4;have kf:=G4.out.f.cell (k:=c) (by have:=hN.out;omega);have ff:=G4.out.f.free c;have nlf:gl≠gf:=AP.out.ne.2.2.2.1.1.symm;replace LK:=Hd LK;replace lk:=Hd lk;clear LR G4;go_upto_region 22 with(go_region);generalize (w6.setCell ⟨gl,c,none⟩ (.int .i64 x)).setCell ⟨gf,c,none⟩ (.int .i64 a)=w7 at *;clear kl fl p4 kf ff nlf;have kl:w7.cell? ⟨gl,c,none⟩=some (.int .i64 x):=by
          have:=G5.out.l.cell (k:=c) (by have:=hN.out;omega)
          rwa [if_pos rfl] at this
         by_cases h2:x<step
         ·have LK2:=Hd (LK.out.1 h2)
          go_wp2_with (fail);go_roundw
          case rel=>exact⟨c+1,c,x,_,_,rfl,rfl,by go_num,by omega,by have:=hN.out;omega,LK2,G5⟩
          case measure=>simp[intOf];omega
         ·have LK2:=Hd (LK.out.2 (by omega))
          go_wp2_with (fail);go_roundw
          case rel=>exact⟨c+1,next,step,_,_,rfl,rfl,by go_num,by omega,by have:=hN.out;omega,LK2,G5⟩
          case measure=>simp[intOf];omega
        ·obtain⟨y,hy⟩:∃ y,Hid (least2 c=y):=⟨_,rfl⟩
         rw[hy.out] at kl;have EL:∀ i,least2 i=if i=c then y else least2 i:=fun i=>by
          by_cases e:i=c
          ·rw[if_pos e,e,hy.out]
          ·rw[if_neg e]
         have E1:least c<=Vp rows row c-u row-v c:=by
          have:=hx.out;rw[<-lk.1];omega
         have E2:y=least c:=by rw[<-hy.out];exact lk.1
         have LK:=LR.out.look (l2:=least2) (f2:=frm2) (x:=y) hsb.out hc1 (.inr ⟨E1,E2,lk.2⟩) EL (fun _ _=>rfl) (by have:=hy.out;omega);clear EL E1 E2;replace LK:=Hd LK;replace lk:=Hd lk;have h1':¬x<y:=by rw[<-hy.out];exact h1
         clear LR h1
         by_cases h2:y<step
         ·have LK2:=Hd (LK.out.1 h2)
          go_wp2_with (fail);go_roundw
          case rel=>exact⟨c+1,c,y,_,_,rfl,rfl,by go_num,by omega,by have:=hN.out;omega,LK2,G4⟩
          case measure=>simp[intOf];omega
         ·have LK2:=Hd (LK.out.2 (by omega))
          go_wp2_with (fail);go_roundw
          case rel=>exact⟨c+1,next,step,_,_,rfl,rfl,by go_num,by omega,by have:=hN.out;omega,LK2,G4⟩
          case measure=>simp[intOf];omega
      ·obtain rfl:c=k:=by have:=hN.out;omega
       have nz:∀ j,j<=n->S5 j=true->hs j≠0:=fun j hj hs=>by
        rcases List.mem_append.1 ((S2.out j hj).1 hs) with h | h
        ·exact GG.out.seen j h
        ·obtain rfl:=List.mem_singleton.1 h
         exact hz'.out
       have un:∀ j,j<=n->j∉L++[a]->S5 j=false:=fun j hj h=>by
        cases e:S5 j with
        | false=>rfl
        | true=>exact absurd ((S2.out j hj).1 e) h
       have K0:1<=next/\next<=n/\next∉L++[a]/\step=least2 next/\∀ j,1<=j->j<=n->j∉L++[a]->step<=least2 j:=by
        rcases LR.out.best with⟨_,_,b3⟩ | ⟨b1,b2,b3,b4,b5⟩
        ·exfalso
         obtain⟨c0,d1,d2,d3⟩:=HF.out;exact nz c0 d2 (b3 c0 d1 (by omega)) d3
        ·have e:=hN.out
         refine⟨b1,by omega,fun hm=>?_,b4,fun j j1 j2 j3=>b5 j j1 (by omega) (un j j2 j3)⟩;rw[(S2.out next (by omega)).2 hm] at b3
         cases b3
       have K1:∀ j,1<=j->j<=n->j∉L++[a]->(Vp rows (hs a) j-u (hs a)-v j<least j/\least2 j=Vp rows (hs a) j-u (hs a)-v j/\frm2 j=a)\/(least j<=Vp rows (hs a) j-u (hs a)-v j/\least2 j=least j/\frm2 j=frm j):=fun j j1 j2 j3=>by
        rw[hrow.out];exact LR.out.done j j1 (by have:=hN.out;omega) (un j j2 j3)
       have K1':∀ j,j∈L++[a]->frm2 j=frm j:=fun j hj=>(LR.out.keep j (.inr (.inr ((S2.out j (GG.out.le j hj)).2 hj)))).2
       have NB:∀ j,1<=j->j<=n->S5 j=false->0<=least2 j/\least2 j<=4294967294:=fun j j1 j2 j3=>by
        have hj:j∉L++[a]:=fun hm=>by
         rw[(S2.out j j2).2 hm] at j3
         cases j3
        exact ZfE GG.out HO.out hRn.out hz'.out num.out BD.out.1 BD.out.2 j1 j2 hj (K1 j j1 j2 hj)
       have sb:0<=step/\step<=4294967294:=by
        rw[K0.2.2.2.1];exact NB next K0.1 K0.2.1 (un next K0.2.1 K0.2.2.1)
       have s0:S5 0=true:=by
        refine(S2.out 0 (by omega)).2 ?_;have:=GG.out.first;exact List.mem_of_mem_head? this
       replace K0:=Hd K0;replace K1:=Hd K1;replace K1':=Hd K1';replace NB:=Hd NB;replace nz:=Hd nz;replace un:=Hd un;replace s0:=Hd s0;clear LR;go_wp2_with (fail);go_loopw [103] (fun i wr=>∃ (j:Nat) (u3 v3 least3:Nat->Int),i=.int .i64 j/\j<=c/\Hid (TurnR S5 hs step u v least2 u3 v3 least3 j)/\Hid (GrowS w wr gu gv gh gf gl gs c hs u3 v3 least3 frm2 S5)) (fun i _=>c-(intOf i).toNat)
       case atStart=>exact⟨0,u,v,least2,rfl,by omega,TurnR.start,G3⟩
       case round =>
        clear G3;obtain⟨wr2,rfl⟩:∃ wr2:World,wr2=wr:=⟨_,rfl⟩;obtain⟨j,u3,v3,least3,rfl,hj,TR,G3⟩:=hrel
        by_cases hjc:j<c
        ·have q2:(j:Int)<(c:Int):=by omega
         have wj:IntKind.i64.wrap ((j:Int)+1)=((j+1:Nat):Int):=IntWalk.i64_in _ (by omega);have ks:=G3.out.s.cell hjc;obtain⟨sj,hsj⟩:∃ sj,Hid (S5 j=sj):=⟨_,rfl⟩;rw[hsj.out] at ks;have jn:j<=n:=by have:=hN.out;omega
         cases sj with
         | true =>
          obtain⟨rw,hrw⟩:∃ rw,Hid (hs j=rw):=⟨_,rfl⟩;have rw1:1<=rw/\rw<=n:=by
           have h1:=HO.out.le j jn;have h2:=nz.out j jn hsj.out;have h3:=hRn.out;rw[hrw.out] at h1 h2;omega
          obtain⟨z,hzz⟩:∃ z,Hid (IntKind.i64.wrap (v3 j-step)=z):=⟨_,rfl⟩;have INJ:∀ s,s<j->S5 s=true->hs s≠hs j:=fun s h1 h2 h3=>by
           have:=HO.out.inj s j (by omega) jn h3 (nz.out s (by omega) h2);omega
          have V1:1<=j->v3 j=v j:=fun h=>by rw[TR.out.v j h,if_neg (by omega)]
          obtain⟨T1,_,T2⟩:=TR.out.seen (v2:=fun i=>if i=j then z else v3 i) hsj.out INJ (fun i hi=>by
           by_cases e:i=j
           ·subst e
            rw[if_pos rfl,if_pos rfl,<-hzz.out];have h1:=BD.out.2 i hi jn;have h2:=V1 hi;exact IntWalk.i64_in _ (by omega)
           ·rw[if_neg e,if_neg e])
          rw[hrw.out] at T1 T2;have bu:=BD.out.1 rw rw1.1 rw1.2;obtain⟨ur,hur⟩:∃ ur,Hid (u3 rw=ur):=⟨_,rfl⟩;have wu:IntKind.i64.wrap (ur+step)=ur+step:=IntWalk.i64_in _ (by rw[<-hur.out,T1];omega);have q3:(rw:Int)<(c:Int):=by omega
          have q4:rw<c:=by omega
          have kh:=G3.out.h.cell hjc;simp only[hrw.out] at kh;have ku:=G3.out.u.cell q4;rw[hur.out] at ku T2;have fu:=G3.out.u.free rw;have p1:wr2.cell? ⟨gp,1,none⟩=some (.slice (some ⟨gu,0,none⟩) c c):=(PM.out _ G3.out.m).cell 1;have p3:wr2.cell? ⟨gp,3,none⟩=some (.slice (some ⟨gh,0,none⟩) c c):=(PM.out _ G3.out.m).cell 3;have G4:=Hd (G3.out.setU AP.out rw (ur+step));replace T2:=Hd T2;clear G3 TR T1 INJ V1 bu;go_wp2_with (fail);refine wp_region_any (by kernel_rfl) ?_
          change wpAny _ _ _ _ _ _ _ (World.drew _)
          refine Za (i:=0) (op:=Op.move (Operand.tmp 0)) (t:=129) (d:=some 110) (v:=?_) rfl (by decide +kernel) (by decide +kernel) (by decide +kernel) (fun _ _ _ h=>h) ?_ ?_
          case refine_2=>(intro _;unfold Zd;go_simp;try with_reducible rfl)
          try simp only[lay]
          refine Za (i:=1) (op:=Op.nilCheck (Operand.tmp 110)) (t:=0) (d:=some 111) (v:=?_) rfl (by decide +kernel) (by decide +kernel) (by decide +kernel) (fun _ _ _ h=>h) ?_ ?_
          case refine_2=>(intro _;unfold Zd;go_simp;try with_reducible rfl)
          try simp only[lay]
          refine Za (i:=2) (op:=Op.fieldAddr 131 (Operand.tmp 111) 1) (t:=0) (d:=some 112) (v:=?_) rfl (by decide +kernel) (by decide +kernel) (by decide +kernel) (fun _ _ _ h=>h) ?_ ?_
          case refine_2=>(intro _;unfold Zd;go_simp;try with_reducible rfl)
          try simp only[lay]
          refine Za (i:=4) (op:=Op.move (Operand.tmp 0)) (t:=129) (d:=some 114) (v:=?_) rfl (by decide +kernel) (by decide +kernel) (by decide +kernel) (fun _ _ _ h=>h) ?_ ?_
          case refine_2=>(intro _;unfold Zd;go_simp;try with_reducible rfl)
          try simp only[lay]
          refine Za (i:=5) (op:=Op.nilCheck (Operand.tmp 114)) (t:=0) (d:=some 115) (v:=?_) rfl (by decide +kernel) (by decide +kernel) (by decide +kernel) (fun _ _ _ h=>h) ?_ ?_
          case refine_2=>(intro _;unfold Zd;go_simp;try with_reducible rfl)
          try simp only[lay]
          refine Za (i:=6) (op:=Op.fieldAddr 131 (Operand.tmp 115) 3) (t:=0) (d:=some 116) (v:=?_) rfl (by decide +kernel) (by decide +kernel) (by decide +kernel) (fun _ _ _ h=>h) ?_ ?_
          case refine_2=>(intro _;unfold Zd;go_simp;try with_reducible rfl)
          try simp only[lay]
          refine Za (i:=8) (op:=Op.move (Operand.tmp 15)) (t:=3) (d:=some 118) (v:=?_) rfl (by decide +kernel) (by decide +kernel) (by decide +kernel) (fun _ _ _ h=>h) ?_ ?_
          case refine_2=>(intro _;unfold Zd;go_simp;try with_reducible rfl)
          try simp only[lay]
          refine Za (i:=13) (op:=Op.move (Operand.tmp 11)) (t:=3) (d:=some 123) (v:=?_) rfl (by decide +kernel) (by decide +kernel) (by decide +kernel) (fun _ _ _ h=>h) ?_ ?_
          case refine_2=>(intro _;unfold Zd;go_simp;try with_reducible rfl)
          try simp only[lay]
          refine YJ (n:=2) [(3,some 113),(7,some 117),(9,some 119),(10,some 120),(11,some 121),(12,some 122),(14,some 124)] (fun | 3=>.slice (some ⟨gu,0,none⟩) c c | 7=>.slice (some ⟨gh,0,none⟩) c c | 9=>.pointer (some ⟨gh,j,none⟩) | 10=>.int .i64 rw | 11=>.pointer (some ⟨gu,rw,none⟩) | 12=>.int .i64 ur | 14=>.int .i64 (ur+step) | _=>undef) #[true,true,true,true,true,true,true,true,true,true,true,true,true,true,true,false,false] (by decide +kernel) ?_ ?_
          ·intro pS hpm uS hD K hK
           simp only[List.mem_cons,List.not_mem_nil,or_false] at hpm;rcases hpm with rfl | rfl | rfl | rfl | rfl | rfl | rfl
           ·exact Zp (T:=22) (x:=Operand.tmp 112) (t:=22) (d:=some 113) rfl (.pointer (some ⟨gp,1,none⟩)) (by kernel_rfl) (.slice (some ⟨gu,0,none⟩) c c) (by go_simp) hK
           ·exact Zp (T:=22) (x:=Operand.tmp 116) (t:=22) (d:=some 117) rfl (.pointer (some ⟨gp,3,none⟩)) (by kernel_rfl) (.slice (some ⟨gh,0,none⟩) c c) (by go_simp) hK
           ·exact Z2 (T:=22) (x:=Operand.tmp 117) (y:=Operand.tmp 118) (t:=0) (d:=some 119) rfl (.slice (some ⟨gh,0,none⟩) c c) (.int .i64 j) (Eq.trans (b:=uS 7) (by kernel_rfl) (hD 7 (Zn (by kernel_rfl)))) (by kernel_rfl) (.pointer (some ⟨gh,j,none⟩)) (by go_simp) hK
           ·exact Zp (T:=3) (x:=Operand.tmp 119) (t:=3) (d:=some 120) rfl (.pointer (some ⟨gh,j,none⟩)) (Eq.trans (b:=uS 9) (by kernel_rfl) (hD 9 (Zn (by kernel_rfl)))) (.int .i64 rw) (by go_simp) hK
           ·exact Z2 (T:=22) (x:=Operand.tmp 113) (y:=Operand.tmp 120) (t:=0) (d:=some 121) rfl (.slice (some ⟨gu,0,none⟩) c c) (.int .i64 rw) (Eq.trans (b:=uS 3) (by kernel_rfl) (hD 3 (Zn (by kernel_rfl)))) (Eq.trans (b:=uS 10) (by kernel_rfl) (hD 10 (Zn (by kernel_rfl)))) (.pointer (some ⟨gu,rw,none⟩)) (by go_simp) hK
           ·exact Zp (T:=3) (x:=Operand.tmp 121) (t:=3) (d:=some 122) rfl (.pointer (some ⟨gu,rw,none⟩)) (Eq.trans (b:=uS 11) (by kernel_rfl) (hD 11 (Zn (by kernel_rfl)))) (.int .i64 ur) (by go_simp) hK
           ·(have e12:uS 12=.int .i64 ur:=hD 12 (Zn (by kernel_rfl));exact ZM (op:=Op.binOp BinOp.add 3 (Operand.tmp 122) (Operand.tmp 123) 3) (t:=3) (d:=some 124) rfl (.int .i64 (ur+step)) (by simp only[Zk,Act.put,List.setIfInBounds_toArray,List.set_cons_zero,List.set_cons_succ];unfold Zd;go_simp;try simp only[e12];try go_simp) hK)
          simp only[Zk,Act.put,List.setIfInBounds_toArray,List.set_cons_zero,List.set_cons_succ];refine Za (i:=15) (op:=Op.indexAddr 22 (Operand.tmp 113) (Operand.tmp 120)) (t:=0) (d:=some 125) (v:=?_) rfl (by decide +kernel) (by decide +kernel) (by decide +kernel) (fun _ _ _ h=>h) ?_ ?_
          case refine_2=>(intro _;unfold Zd;go_simp;try with_reducible rfl)
          try simp only[lay]
          refine Zi 16 (by decide +kernel) (Yl rfl (.pointer (some ⟨gu,rw,none⟩)) (.int .i64 (ur+step)) (by kernel_rfl) (by kernel_rfl) (by go_simp;rfl) ?_);refine wpAny_done (by kernel_rfl) ?_ _;clear kh ku fu p1 p3 ks;generalize wr2.setCell ⟨gu,rw,none⟩ (.int .i64 (ur+step))=w8 at *;have G5:=Hd (G4.out.ext ((Ext.rf _).drew));have p2:w8.drew.cell? ⟨gp,2,none⟩=some (.slice (some ⟨gv,0,none⟩) c c):=(PM.out _ G5.out.m).cell 2;have kv:=G5.out.v.cell hjc;have fv:=G5.out.v.free j;have G6:=Hd (G5.out.setV AP.out j z);have zz:=hzz.out;clear G4;go_simp;go_wp2_with (fail);go_roundw
          case rel=>exact⟨j+1,_,_,least3,by go_num,by omega,T2,G6⟩
          case measure=>simp[intOf];omega
         | false =>
          have j1:1<=j:=by
           rcases Nat.eq_zero_or_pos j with rfl | h
           ·have:=s0.out
            rw[hsj.out] at this
            cases this
           ·exact h
          obtain⟨T1,T2⟩:=TR.out.unseen hsj.out;have nb:=NB.out j j1 jn hsj.out;have kl:=G3.out.l.cell hjc;have fl:=G3.out.l.free j;have wl:IntKind.i64.wrap (least3 j-step)=least3 j-step:=IntWalk.i64_in _ (by rw[T1];omega);have G4:=Hd (G3.out.setL AP.out j (least3 j-step));replace T2:=Hd T2;replace T1:=Hd T1;clear G3 TR nb;go_wp2_with (fail);go_roundw
          case rel=>exact⟨j+1,u3,v3,_,by go_num,by omega,T2,G4⟩
          case measure=>simp[intOf];omega
        ·obtain rfl:j=c:=by omega
         have RD:=GG.out.round (frm':=frm2) (least':=least2) (u':=u3) (v':=v3) (least2:=least3) HO.out hRn.out (fun i c i1 i2 c1 c2=>by
          have h1:=num.out i c i1 i2 c1 c2;have h2:=BD.out.1 i i1 i2;have h3:=BD.out.2 c c1 c2;show _<(1152921504606846976:Int);omega) hz'.out K1.out K1'.out K0.out
          (fun i=>by
           rw[TR.out.u]
           by_cases e:∃ s,s∈L++[a]/\hs s=i
           ·obtain⟨s,e1,e2⟩:=e
            have e3:=GG.out.le s e1;rw[if_pos (show ∃ s,s<j/\S5 s=true/\hs s=i from⟨s,by have:=hN.out;omega,(S2.out s e3).2 e1,e2⟩),if_pos (show ∃ s,s∈L++[a]/\hs s=i from⟨s,e1,e2⟩)]
           ·rw[if_neg e,if_neg (show ¬∃ s,s<j/\S5 s=true/\hs s=i from fun⟨s,e1,e2,e3⟩=>e ⟨s,(S2.out s (by have:=hN.out;omega)).1 e2,e3⟩)])
          (fun i i1 i2=>by
           rw[TR.out.v i i1]
           by_cases e:i∈L++[a]
           ·rw[if_pos e,if_pos (show i<j/\S5 i=true from⟨by have:=hN.out;omega,(S2.out i i2).2 e⟩)]
           ·rw[if_neg e,if_neg (show ¬(i<j/\S5 i=true) from fun⟨_,e2⟩=>e ((S2.out i i2).1 e2))])
          (fun i i1 i2 i3=>by rw[TR.out.l,if_pos ⟨by have:=hN.out;omega,un.out i i2 i3⟩])
         have G5:=Hd RD.1;clear RD GG TR;go_wp2_with (fail);go_roundw
         case rel=>exact⟨next,L++[a],u3,v3,least3,frm2,S5,rfl,K0.out.2.1,G5,G3,S2⟩
         case measure=>exact ML.out _ G3.out.s
theorem HI.full {n:Nat}{cst:Nat->Nat->Int}{u v:Nat->Int}{has:Nat->Nat}(h:HI n cst n u v has){c:Nat}(c1:1<=c)(c2:c<=n) : 1<=has c/\has c<=n:=by
 refine⟨?_,h.le c c1 c2⟩;rcases Nat.eq_zero_or_pos (has c) with e | e
 ·exfalso
  have ex:∀ i,∃ d,i<n->1<=d/\d<=n/\has d=i+1:=fun i=>by
   by_cases hi:i<n
   ·obtain⟨d,h1,h2,h3⟩:=h.all (i+1) (by omega) (by omega)
    exact⟨d,fun _=>⟨h1,h2,h3⟩⟩
   ·exact⟨0,fun h=>absurd h hi⟩
  have hf:=fun i=>Classical.choose_spec (ex i)
  generalize (fun i=>Classical.choose (ex i))=f at *;have hf':∃ f:Nat->Nat,∀ i,i<n->1<=f i/\f i<=n/\has (f i)=i+1:=⟨fun i=>Classical.choose (ex i),fun i hi=>Classical.choose_spec (ex i) hi⟩;obtain⟨f,hf⟩:=hf';have hl:=Xw (l:=(c-1)::(List.range n).map fun i=>f i-1) (n:=n) ?_ ?_
  ·simp at hl
   omega
  ·refine List.nodup_cons.2 ⟨?_,List.pairwise_map.2 (List.Pairwise.imp_of_mem ?_ List.nodup_range)⟩
   ·intro hm
    obtain⟨i,hi,e2⟩:=List.mem_map.1 hm;obtain⟨h1,h2,h3⟩:=hf i (List.mem_range.1 hi);have:f i=c:=by omega
    rw[this] at h3;omega
   ·intro a b ha hb hab e2
    obtain⟨h1,h2,h3⟩:=hf a (List.mem_range.1 ha);obtain⟨k1,k2,k3⟩:=hf b (List.mem_range.1 hb);have:f a=f b:=by omega
    rw[this] at h3;omega
  ·intro x hx
   rcases List.mem_cons.1 hx with rfl | hx
   ·omega
   ·obtain⟨i,hi,rfl⟩:=List.mem_map.1 hx
    have:=hf i (List.mem_range.1 hi);omega
 ·exact e
theorem Zcj (i:InstP)(us:List Value)(w:World)(H:RInst w us i)(hc:Zf i=0)(hk:i.kind=2) :
  Calls Tryz.prog 80 #[.agg (List.toArray us),.int .i64 2] w fun e w'=>e=.returned (.int .i64 0)/\Ext w w':=by
 have sq:=Zo hc (by omega);have CH:=fun(W:World) (x:Ext w W)=>ZC i us W (H.ext x) (by rw[sq.w];simp) (by rw[sq.v];simp)
 rw[hc] at CH;obtain⟨kind,nn,cap,xw,xv,co⟩:=i;obtain⟨A,a,B,b,D,d,rfl,-,-,-⟩:=H;simp only at *;subst hk;have B1:Hid (Blk (w.alloc (.cells #[.int .i64 2,.int .i64 nn,.int .i64 cap,.slice A xw.length a,.slice B xv.length b,.slice D co.length d] 25)) w.heap.size 25 #[.int .i64 2,.int .i64 nn,.int .i64 cap,.slice A xw.length a,.slice B xv.length b,.slice D co.length d]):=.new rfl;replace CH:=Hd CH;clear hc sq;go_enter Tryz.func80,Tryz.ntmps80;go_wp2_with (fail);refine(CH.out _ (by(repeat (first | assumption | exact Ext.rf _ | apply Ext.drew | apply Ext.drewN | apply Ext.alloc)))).mono ?_;rintro e w1 ⟨rfl,x1⟩;have X1:=Hd (Ext.tr (a:=w) (by(repeat (first | assumption | exact Ext.rf _ | apply Ext.drew | apply Ext.drewN | apply Ext.alloc))) x1);have b1:=Hd (B1.out.ext x1);have t0:=b1.out.c0;have t1:=b1.out.c1;clear x1 B1;go_wp2_with (fail);go_ret;exact⟨rfl,X1.out.tr (by(repeat (first | assumption | exact Ext.rf _ | apply Ext.drew | apply Ext.drewN | apply Ext.alloc)))⟩
theorem ZdW (i:InstP)(us:List Value)(P:Option Addr)(c:Nat)(l:List Nat)(w:World)(H:RInst w us i)(hc:Zf i=0)(hk:i.kind=2)(hP:RdI w P (Ze l))(hl:l.Perm (List.range i.cost.length)) :
  Calls Tryz.prog 83 #[.agg (List.toArray us),.slice P i.cost.length c] w fun e w'=>e=.returned (.tuple #[.slice P i.cost.length c,.int .i64 (Zs i.cost (Ze l)),.int .i64 0])/\Ext w w':=by
 have VC:=fun(W:World) (x:Ext w W)=>Q8 i us P c l W (H.ext x) hc hk (hP.ext x) hl
 obtain⟨kind,nn,cap,xw,xv,co⟩:=i;obtain⟨A,a,B,b,D,d,rfl,-,-,-⟩:=H;simp only at *;generalize Zs co (Ze l)=cc at *;replace VC:=Hd VC;clear hc hk hP hl;go_enter Tryz.func83,Tryz.ntmps83;go_wp2_with (fail);refine(VC.out _ (by(repeat (first | assumption | exact Ext.rf _ | apply Ext.drew | apply Ext.drewN | apply Ext.alloc)))).mono ?_;rintro e w1 ⟨rfl,x1⟩;have X1:=Hd (Ext.tr (a:=w) (by(repeat (first | assumption | exact Ext.rf _ | apply Ext.drew | apply Ext.drewN | apply Ext.alloc))) x1);clear x1;go_wp2_with (fail);go_ret3;exact⟨rfl,X1.out.tr (by(repeat (first | assumption | exact Ext.rf _ | apply Ext.drew | apply Ext.drewN | apply Ext.alloc)))⟩
def Least (rows:List (List Int))(n:Nat)(c:Int) : Prop:=(∃ x:List Nat,x.Perm (List.range n)/\Zs rows (Ze x)=c)/\∀ q:List Nat,q.Perm (List.range n)->c<=Zs rows (Ze q)
theorem Least.one {rows:List (List Int)}{n:Nat}{c d:Int}(h:Least rows n c)(k:Least rows n d) : c=d:=by
 obtain⟨x,h1,h2⟩:=h.1;obtain⟨y,k1,k2⟩:=k.1;have a:=h.2 y k1;have b:=k.2 x h1;omega
theorem Zbu {x:List Nat}{n:Nat}(h:x.Perm (List.range n)) : x.length=n:=by rw[h.length_eq,List.length_range]
theorem ZfF {x:List Nat}(h:x.Nodup) : (x.map fun c=>x.idxOf c)=List.range x.length:=by
 refine List.ext_getElem (by simp) fun i h1 h2=>?_
 simp only[List.getElem_map,List.getElem_range];exact h.idxOf_getElem i (by simpa using h1)
theorem J3 {rows rowsT:List (List Int)}{n:Nat}(h1:rows.length=n)(h2:rowsT.length=n)(h:∀ a b,a<n->b<n->Zb rowsT b a=Zb rows a b){x:List Nat}(hx:x.Perm (List.range n)) :
  ∃ y:List Nat,y.Perm (List.range n)/\Zs rowsT (Ze y)=Zs rows (Ze x):=by
 have lx:=Zbu hx;have nd:x.Nodup:=hx.symm.nodup List.nodup_range;have hy:((List.range n).map fun c=>x.idxOf c).Perm (List.range n):=by
  have:=(hx.map fun c=>x.idxOf c).symm
  rwa [ZfF nd,lx] at this
 refine⟨(List.range n).map fun c=>x.idxOf c,hy,?_⟩;rw[Yp (by rw[h2];simp),Yp (by rw[h1,lx]),List.length_map,List.length_range,lx];have e1:((List.range n).map fun k=>Zb rowsT k (((List.range n).map fun c=>x.idxOf c).getD k 0))=(List.range n).map fun c=>Zb rows (x.idxOf c) c:=by
  refine List.map_congr_left fun c hc=>?_
  have hc:=List.mem_range.1 hc;have hm:c∈x:=hx.mem_iff.2 (List.mem_range.2 hc);have e:((List.range n).map fun c=>x.idxOf c)[c]?=some (x.idxOf c):=by rw[List.getElem?_map,List.getElem?_range hc];rfl
  rw[List.getD,e,Option.getD_some];exact h _ _ (by rw[<-lx];exact List.idxOf_lt_length_of_mem hm) hc
 rw[e1];have e2:=YL ((hx.map fun c=>Zb rows (x.idxOf c) c));rw[<-e2]
 congr 1
 refine List.ext_getElem (by simp[lx]) fun i k1 k2=>?_
 have hi:i<x.length:=by simpa using k1
 simp only[List.getElem_map,List.getElem_range];rw[nd.idxOf_getElem i hi,List.getD,List.getElem?_eq_getElem hi,Option.getD_some]
theorem Least.turn {rows rowsT:List (List Int)}{n:Nat}{c:Int}(h1:rows.length=n)(h2:rowsT.length=n)(h:∀ a b,a<n->b<n->Zb rowsT b a=Zb rows a b)(hl:Least rows n c) : Least rowsT n c:=by
 refine⟨?_,fun q hq=>?_⟩
 ·obtain⟨x,k1,k2⟩:=hl.1
  obtain⟨y,m1,m2⟩:=J3 h1 h2 h k1;exact⟨y,m1,m2.trans k2⟩
 ·obtain⟨y,m1,m2⟩:=J3 h2 h1 (fun a b ha hb=>(h b a hb ha).symm) hq
  rw[<-m2];exact hl.2 y m1
theorem UG {α:Type}(f g:α->Int) : ∀ l:List α,Zj (l.map fun k=>f k+g k)=Zj (l.map f)+Zj (l.map g)
 | []=>rfl
 | x::l=>by
  have:=UG f g l;simp only[List.map_cons,Zj];omega
theorem J4 {rows rowsM:List (List Int)}{n:Nat}{up:Nat->Int}(h1:rows.length=n)(h2:rowsM.length=n)(h:∀ a b,a<n->b<n->Zb rowsM a b=Zb rows a b+up a){x:List Nat}(hx:x.Perm (List.range n)) :
  Zs rowsM (Ze x)=Zs rows (Ze x)+Zj ((List.range n).map up):=by
 have lx:=Zbu hx;rw[Yp (by rw[h2,lx]),Yp (by rw[h1,lx]),lx,<-UG]
 congr 1
 refine List.map_congr_left fun k hk=>?_
 have hk:=List.mem_range.1 hk;refine h _ _ hk ?_;have:x.getD k 0∈x:=by
  rw[List.getD,List.getElem?_eq_getElem (by omega),Option.getD_some];exact List.getElem_mem _
 exact List.mem_range.1 (hx.mem_iff.1 this)
theorem Least.more {rows rowsM:List (List Int)}{n:Nat}{c:Int}{up:Nat->Int}(h1:rows.length=n)(h2:rowsM.length=n)(h:∀ a b,a<n->b<n->Zb rowsM a b=Zb rows a b+up a)(hl:Least rows n c) : Least rowsM n (c+Zj ((List.range n).map up)):=by
 refine⟨?_,fun q hq=>?_⟩
 ·obtain⟨x,k1,k2⟩:=hl.1
  exact⟨x,k1,by rw[J4 h1 h2 h k1,k2]⟩
 ·rw[J4 h1 h2 h hq]
  have:=hl.2 q hq;omega
def ZcX (rows:List (List Int))(w:World)(e:Ending)(w':World) : Prop :=
 ∃ A c l,e=.returned (.tuple #[.slice A rows.length c,.int .i64 (Zs rows (Ze l)),.int .i64 0])/\RdI w' A (Ze l)/\l.Perm (List.range rows.length)/\rows.length<=c/\c<=maxLen/\Least rows rows.length (Zs rows (Ze l))/\Ext w w'
theorem ZfG (i:InstP)(us:List Value)(w:World)(H:RInst w us i)(hc:Zf i=0)(hk:i.kind=2) :
  Calls Tryz.prog 42 #[.agg (List.toArray us)] w (ZcX i.cost w):=by
 have sq:=Zo hc (by omega);have rok:=ZF sq;have hln:=sq.len;have TK:=fun(W:World) (x:Ext w W)=>Zcj i us W (H.ext x) hc hk
 have TO:=fun(P:Option Addr) (c:Nat) (l:List Nat) (W:World) (x:Ext w W) (hP:RdI W P (Ze l)) (hl:l.Perm (List.range i.cost.length))=>ZdW i us P c l W (H.ext x) hc hk hP hl
 obtain⟨kind,nn,cap,xw,xv,co⟩:=i;obtain⟨A,a,B,b,D,d,rfl,-,-,hC,-⟩:=H;simp only at *;subst hk;have n1:=rok.n1;have n2:=rok.n2;obtain⟨n,hn⟩:∃ n,co.length=n:=⟨_,rfl⟩;rw[hn] at TK TO hln n1 n2 ⊢;subst hln;obtain⟨N,hN⟩:∃ N,N=n+1:=⟨_,rfl⟩;have GR:=fun(W:World) (gp gu gv gh gf r R:Nat) (u v:Nat->Int) (has frm:Nat->Nat) (hP:PB W gp D d n N gu gv gh gf) (hu:Arr W gu N u) (hv:Arr W gv N v) (hh:Arr W gh N fun c=>(has c:Int)) (hf:Arr W gf N fun c=>(frm c:Int)) (hd:[gu,gv,gh,gf].Nodup)
  (hx:Ext w W) (hb:∀ k,k<w.heap.size->¬PS gu gv gh gf k) (hI:HI n (Vp co) r u v has) (hr:r<n) (hR:R=r+1)=>Ze9 hP hu hv hh hf hd hC hx hb rok hn hN hI hr hR
 have B1:Hid (Blk (w.alloc (.cells #[.int .i64 2,.int .i64 n,.int .i64 cap,.slice A xw.length a,.slice B xv.length b,.slice D n d] 25)) w.heap.size 25 #[.int .i64 2,.int .i64 n,.int .i64 cap,.slice A xw.length a,.slice B xv.length b,.slice D n d]):=.new rfl;have num:∀ i c,1<=i->i<=n->1<=c->c<=n->0<=Vp co i c:=fun i c h1 h2 h3 h4=>(Y0 rok (i-1) (c-1) (by omega) (by omega)).1
 have eN:(n:Int)+1=(N:Int):=by omega
 have wN:IntKind.i64.wrap ((n:Int)+1)=(N:Int):=by rw[eN];exact IntWalk.i64_in _ (by omega)
 clear eN;replace TK:=Hd TK;replace TO:=Hd TO;replace GR:=Hd GR;replace num:=Hd num;replace hn:=Hd hn;have hN25:N<=25:=by omega
 replace hN:=Hd hN;clear hc hC rok sq;go_enter Tryz.func42,Tryz.ntmps42;go_wp2_with (fail);refine(TK.out _ (by(repeat (first | assumption | exact Ext.rf _ | apply Ext.drew | apply Ext.drewN | apply Ext.alloc)))).mono ?_;rintro e w1 ⟨rfl,x1⟩;have X1:=Hd (Ext.tr (a:=w) (by(repeat (first | assumption | exact Ext.rf _ | apply Ext.drew | apply Ext.drewN | apply Ext.alloc))) x1);have b1:=Hd (B1.out.ext x1);have t1:=b1.out.c1;clear x1 B1;go_wp2_with (fail);go_cut [7] (fun v7 wx=>∃ gp gu gv gh gf,v7=.pointer (some ⟨gp,0,none⟩)/\PB wx gp D d n N gu gv gh gf/\[gu,gv,gh,gf].Nodup/\(∀ k,k<w1.heap.size->¬PS gu gv gh gf k)/\Arr wx gu N (fun _=>0)/\Arr wx gv N (fun _=>0)/\Arr wx gh N (fun _=>0)/\Arr wx gf N (fun _=>0)/\Ext w1 wx)
 case first =>
  have zb:=b1.out.lt;refine wp_region_any (by kernel_rfl) ?_
  change wpAny _ _ _ _ _ _ _ (World.drew _)
  refine Za (i:=0) (op:=Op.fieldAddr 25 (Operand.tmp 1) 5) (t:=0) (d:=some 18) (v:=?_) rfl (by decide +kernel) (by decide +kernel) (by decide +kernel) (fun _ _ _ h=>h) ?_ ?_
  case refine_2=>(intro _;unfold Zd;go_simp;try with_reducible rfl)
  try simp only[lay]
  refine Za (i:=2) (op:=Op.move (Operand.tmp 6)) (t:=3) (d:=some 20) (v:=?_) rfl (by decide +kernel) (by decide +kernel) (by decide +kernel) (fun _ _ _ h=>h) ?_ ?_
  case refine_2=>(intro _;unfold Zd;go_simp;try with_reducible rfl)
  try simp only[lay]
  refine Za (i:=3) (op:=Op.binOp BinOp.add 3 (Operand.tmp 20) (Operand.const (Value.int IntKind.i64 1)) 3) (t:=3) (d:=some 21) (v:=?_) rfl (by decide +kernel) (by decide +kernel) (by decide +kernel) (fun _ _ _ h=>h) ?_ ?_
  case refine_2=>(intro _;unfold Zd;go_simp;try with_reducible rfl)
  try simp only[lay]
  refine Za (i:=5) (op:=Op.move (Operand.tmp 6)) (t:=3) (d:=some 23) (v:=?_) rfl (by decide +kernel) (by decide +kernel) (by decide +kernel) (fun _ _ _ h=>h) ?_ ?_
  case refine_2=>(intro _;unfold Zd;go_simp;try with_reducible rfl)
  try simp only[lay]
  refine Za (i:=6) (op:=Op.binOp BinOp.add 3 (Operand.tmp 23) (Operand.const (Value.int IntKind.i64 1)) 3) (t:=3) (d:=some 24) (v:=?_) rfl (by decide +kernel) (by decide +kernel) (by decide +kernel) (fun _ _ _ h=>h) ?_ ?_
  case refine_2=>(intro _;unfold Zd;go_simp;try with_reducible rfl)
  try simp only[lay]
  refine Za (i:=8) (op:=Op.move (Operand.tmp 6)) (t:=3) (d:=some 26) (v:=?_) rfl (by decide +kernel) (by decide +kernel) (by decide +kernel) (fun _ _ _ h=>h) ?_ ?_
  case refine_2=>(intro _;unfold Zd;go_simp;try with_reducible rfl)
  try simp only[lay]
  refine Za (i:=9) (op:=Op.binOp BinOp.add 3 (Operand.tmp 26) (Operand.const (Value.int IntKind.i64 1)) 3) (t:=3) (d:=some 27) (v:=?_) rfl (by decide +kernel) (by decide +kernel) (by decide +kernel) (fun _ _ _ h=>h) ?_ ?_
  case refine_2=>(intro _;unfold Zd;go_simp;try with_reducible rfl)
  try simp only[lay]
  refine Za (i:=11) (op:=Op.move (Operand.tmp 6)) (t:=3) (d:=some 29) (v:=?_) rfl (by decide +kernel) (by decide +kernel) (by decide +kernel) (fun _ _ _ h=>h) ?_ ?_
  case refine_2=>(intro _;unfold Zd;go_simp;try with_reducible rfl)
  try simp only[lay]
  refine Za (i:=12) (op:=Op.binOp BinOp.add 3 (Operand.tmp 29) (Operand.const (Value.int IntKind.i64 1)) 3) (t:=3) (d:=some 30) (v:=?_) rfl (by decide +kernel) (by decide +kernel) (by decide +kernel) (fun _ _ _ h=>h) ?_ ?_
  case refine_2=>(intro _;unfold Zd;go_simp;try with_reducible rfl)
  try simp only[lay]
  refine Wl (n:=3) (σ:=Nat->Nat) [(1,some 19),(4,some 22),(7,some 25),(10,some 28),(13,some 31)] (fun _ W=>Ext w1 W)
   (fun i v T W=>(i=1->v=.slice D n d)/\(i≠1->∃ h,v=.slice (some ⟨h,0,none⟩) N N/\Arr W h N (fun _=>0)/\w1.heap.size<=h/\T h=i))
   (fun T W T' W'=>Ext W W'/\∀ h,h<W.heap.size->T' h=T h) #[true,true,true,true,true,true,true,true,true,true,true,true,true,true,false,false,false] (by decide +kernel) ?_ ?_ ?_ (s0:=fun _=>0) ((Ext.rf _).drew)
  ·rintro j v T W T' W' ⟨h1,h2⟩ ⟨hx,hT⟩
   refine⟨h1,fun hj=>?_⟩;obtain⟨h,k1,k2,k3,k4⟩:=h2 hj;exact⟨h,k1,k2.ext hx,k3,by rw[hT h k2.lt];exact k4⟩
  ·intro pq hpm u T W hRW hD K hK
   have r5:W.cell? ⟨w.heap.size,5,none⟩=some (.slice D n d):=(b1.out.ext hRW).cell 5;have MK:∀ (i:Nat) (W':World),i≠1->Arr W' W.heap.size N (fun _=>0)->Ext W W'->((i=1->Value.slice (some ⟨W.heap.size,0,none⟩) N N=.slice D n d)/\(i≠1->∃ h,Value.slice (some ⟨W.heap.size,0,none⟩) N N=.slice (some ⟨h,0,none⟩) N N/\Arr W' h N (fun _=>0)/\w1.heap.size<=h/\(fun x=>if x=W.heap.size then i else T x) h=i))/\Ext w1 W'/\(Ext W W'/\∀ h,h<W.heap.size->(fun x=>if x=W.heap.size then i else T x) h=T h):=fun i W' hi a x =>
    ⟨⟨fun h=>absurd h hi,fun _=>⟨_,rfl,a,hRW.size,if_pos rfl⟩⟩,hRW.tr x,x,fun h hh=>if_neg (by omega)⟩
   simp only[List.mem_cons,List.not_mem_nil,or_false] at hpm;rcases hpm with rfl | rfl | rfl | rfl | rfl
   ·exact Zp (T:=23) rfl (.pointer (some ⟨w.heap.size,5,none⟩)) (by kernel_rfl) (.slice D n d) (by go_simp) (hK _ T W ⟨fun _=>rfl,fun h=>absurd rfl h⟩ hRW ⟨Ext.rf _,fun _ _=>rfl⟩)
   ·exact XJ rfl N (N:Int) (by kernel_rfl) (by kernel_rfl) rfl (by omega) fun W' a x=>hK _ _ _ (MK 4 W' (by decide) a x).1 (MK 4 W' (by decide) a x).2.1 (MK 4 W' (by decide) a x).2.2
   ·exact XJ rfl N (N:Int) (by kernel_rfl) (by kernel_rfl) rfl (by omega) fun W' a x=>hK _ _ _ (MK 7 W' (by decide) a x).1 (MK 7 W' (by decide) a x).2.1 (MK 7 W' (by decide) a x).2.2
   ·exact XJ rfl N (N:Int) (by kernel_rfl) (by kernel_rfl) rfl (by omega) fun W' a x=>hK _ _ _ (MK 10 W' (by decide) a x).1 (MK 10 W' (by decide) a x).2.1 (MK 10 W' (by decide) a x).2.2
   ·exact XJ rfl N (N:Int) (by kernel_rfl) (by kernel_rfl) rfl (by omega) fun W' a x=>hK _ _ _ (MK 13 W' (by decide) a x).1 (MK 13 W' (by decide) a x).2.1 (MK 13 W' (by decide) a x).2.2
  ·intro u T W hRW hV
   have h1:=(hV (1,some 19) (by simp)).1 rfl;obtain⟨gu,h4,a4,z4,e4⟩:=(hV (4,some 22) (by simp)).2 (by decide);obtain⟨gv,h7,a7,z7,e7⟩:=(hV (7,some 25) (by simp)).2 (by decide);obtain⟨gh,h10,a10,z10,e10⟩:=(hV (10,some 28) (by simp)).2 (by decide);obtain⟨gf,h13,a13,z13,e13⟩:=(hV (13,some 31) (by simp)).2 (by decide);have ND:Hid ([gu,gv,gh,gf].Nodup/\∀ k,k<w1.heap.size->¬PS gu gv gh gf k):=by
    refine⟨?_,fun k hk=>?_⟩
    ·simp only[List.nodup_cons,List.mem_cons,List.not_mem_nil,or_false,not_or,not_false_eq_true,List.nodup_nil,and_true]
     refine⟨⟨?_,?_,?_⟩,⟨?_,?_⟩,?_⟩<;>(rintro rfl;omega)
    ·rintro (h | h | h | h)<;>omega
   simp only[Zk,h1,h4,h7,h10,h13];clear hV h1 h4 h7 h10 h13 e4 e7 e10 e13 z4 z7 z10 z13
   try simp only[lay]
   refine Za (i:=14) (op:=Op.build 131 #[(0,Operand.tmp 19),(1,Operand.tmp 22),(2,Operand.tmp 25),(3,Operand.tmp 28),(4,Operand.tmp 31)]) (t:=131) (d:=some 32) (v:=?_) rfl (by decide +kernel) (by decide +kernel) (by decide +kernel) (fun _ _ _ h=>h) ?_ ?_
   case refine_2=>(intro _;unfold Zd;go_simp;try with_reducible rfl)
   try simp only[lay]
   refine Zi 15 (by decide +kernel) (ZM (op:=.box 131 (.tmp 32)) rfl (.pointer (some ⟨W.heap.size,0,none⟩)) (w':=W.alloc (.cells #[.slice D n d,.slice (some ⟨gu,0,none⟩) N N,.slice (some ⟨gv,0,none⟩) N N,.slice (some ⟨gh,0,none⟩) N N,.slice (some ⟨gf,0,none⟩) N N] 131)) (by unfold Zd;go_simp) ?_)
   try simp only[lay]
   refine Za (i:=16) (op:=Op.assign (Operand.tmp 33)) (t:=129) (d:=some 7) (v:=?_) rfl (by decide +kernel) (by decide +kernel) (by decide +kernel) (fun _ _ _ h=>h) ?_ ?_
   case refine_2=>(intro _;unfold Zd;go_simp;try with_reducible rfl)
   try simp only[lay]
   refine wpAny_done (by kernel_rfl) ?_ _;have xa:Ext W (W.alloc (.cells #[.slice D n d,.slice (some ⟨gu,0,none⟩) N N,.slice (some ⟨gv,0,none⟩) N N,.slice (some ⟨gh,0,none⟩) N N,.slice (some ⟨gf,0,none⟩) N N] 131)):=(Ext.rf _).alloc _;go_simp;go_wp2_with (fail);go_meet;exact⟨W.heap.size,gu,gv,gh,gf,rfl,.new rfl,ND.out.1,ND.out.2,a4.ext xa,a7.ext xa,a10.ext xa,a13.ext xa,hRW.tr xa⟩
 case rest =>
 obtain⟨gp,gu,gv,gh,gf,rfl,hP,hd,hb,aU,aV,aH,aF,x5⟩:=hcut;obtain⟨w5,rfl⟩:∃ w5:World,w5=wc:=⟨_,rfl⟩;have X5:=Hd (X1.out.tr x5);have b5:=Hd (b1.out.ext x5);have hbw:∀ k,k<w.heap.size->¬PS gu gv gh gf k:=fun k hk=>hb k (by have:=X1.out.size;omega)
 have gpn:¬PS gu gv gh gf gp:=by
  rintro (h | h | h | h)
  ·exact aU.ne hP (by decide) h.symm
  ·exact aV.ne hP (by decide) h.symm
  ·exact aH.ne hP (by decide) h.symm
  ·exact aF.ne hP (by decide) h.symm
 have PM:=Hd (fun(W:World) (m:Mod (PS gu gv gh gf) w5 W)=>(show PB W gp D d n N gu gv gh gf from hP.mod m gpn));have XM:=Hd (fun(W:World) (m:Mod (PS gu gv gh gf) w5 W)=>X5.out.mod m hbw);have GS:Hid (HI n (Vp co) 0 (fun _=>0) (fun _=>0) (fun _=>0)/\Arr w5 gu N (fun _=>0)/\Arr w5 gv N (fun _=>0)/\Arr w5 gh N (fun c=>(((fun _=>0) c:Nat):Int))/\Arr w5 gf N (fun c=>(((fun _=>0) c:Nat):Int))):=⟨HI.start num.out,aU,aV,aH,aF⟩;have hne:gh≠gf:=by
  simp only[List.nodup_cons,List.mem_cons,List.not_mem_nil,or_false,not_or] at hd;exact hd.2.2.1
 have nbx:¬PS gu gv gh gf w.heap.size:=hb _ b1.out.lt;replace hd:=Hd hd;replace hbw:=Hd hbw;replace hne:=Hd hne;clear hP aU aV aH aF x5 hb gpn t1;go_wp2_with (fail);go_loopw [8] (fun v8 wr=>∃ (r k:Nat) (u v:Nat->Int) (has frm:Nat->Nat),v8=.int .i64 r/\Hid (r=k+1)/\r<=n+1/\Hid (HI n (Vp co) k u v has/\Arr wr gu N u/\Arr wr gv N v/\Arr wr gh N (fun c=>(has c:Int))/\Arr wr gf N (fun c=>(frm c:Int)))/\Hid (Mod (PS gu gv gh gf) w5 wr)) (fun v8 _=>n+1-(intOf v8).toNat)
 case atStart=>exact⟨1,0,fun _=>0,fun _=>0,fun _=>0,fun _=>0,rfl,rfl,by omega,GS,Mod.rf _⟩
 case round =>
  clear GS;obtain⟨wo,rfl⟩:∃ wo:World,wo=wr:=⟨_,rfl⟩;obtain⟨r,k,u,v,has,frm,rfl,hrk,hr,GS,HM⟩:=hrel
  by_cases hrn:r<=n
  ·have q1:(r:Int)<=(n:Int):=by omega
   have wr1:IntKind.i64.wrap ((r:Int)+1)=((r+1:Nat):Int):=IntWalk.i64_in _ (by omega);obtain⟨hI,aU,aV,aH,aF⟩:=GS.out;have G:=Hd (GR.out wo gp gu gv gh gf k r u v has frm (PM.out _ HM.out) aU aV aH aF hd.out (XM.out _ HM.out) hbw.out hI (by have:=hrk.out;omega) hrk.out);clear hI aU aV aH aF GS;go_wp2_with (fail);refine G.out.mono ?_;rintro e W1 ⟨a1,L,u2,v2,least,has2,frm2,rfl,ha,cU,cV,cH,cF,hG,hO,hM⟩;have HM1:=Hd (HM.out.tr hM);have hI2:=And.intro hG.slack (And.intro hG.neg (And.intro hG.pos hG.fresh));have T:=Hd (Ze7 (PM.out _ HM1.out) cH cF hne.out hN.out (by omega) hG hO ha);have FIN:=Hd (And.intro cU (And.intro cV cF));clear G hM hG hO ha cU cV cH cF hI2 HM;go_wp2_with (fail);refine T.out.mono ?_;rintro e W2 ⟨rfl,⟨hs,dH,hI3⟩,hM2⟩;obtain⟨cU,cV,cF⟩:=FIN.out;have nd:=hd.out;simp only[List.nodup_cons,List.mem_cons,List.not_mem_nil,or_false,not_or] at nd;have HM3:=Hd (HM1.out.tr (hM2.mono fun k _ hk=>Or.inr (Or.inr (Or.inl hk))));have GS3:Hid (HI n (Vp co) r u2 v2 hs/\Arr W2 gu N u2/\Arr W2 gv N v2/\Arr W2 gh N (fun c=>(hs c:Int))/\Arr W2 gf N (fun c=>(frm2 c:Int))) :=
    ⟨hI3,cU.mod hM2 nd.1.2.1,cV.mod hM2 nd.2.1.1,dH,cF.mod hM2 (fun e=>nd.2.2.1 e.symm)⟩
   clear T dH hI3 hM2 cU cV cF nd HM1 FIN;go_wp2_with (fail);go_roundw
   case rel=>exact⟨r+1,r,_,_,_,_,by go_num,rfl,by omega,GS3,HM3⟩
   case measure=>simp[intOf];omega
  ·obtain rfl:r=n+1:=by omega
   obtain rfl:k=n:=by have:=hrk.out;omega
   clear hrk hrn hr;obtain⟨hI,-,-,aH,-⟩:=GS.out;have q1:¬(((k+1:Nat):Int)<=(k:Int)):=by omega
   have PH:Hid (PB wo gp D d k N gu gv gh gf):=PM.out _ HM.out;have XX:=Hd (XM.out _ HM.out);have BX:=Hd (b5.out.mod HM.out nbx);have FU:=Hd (fun c (c1:1<=c) (c2:c<=k)=>hI.full c1 c2);have INJ:=Hd (fun c c' (c1:1<=c) (c2:c<=k) (d1:1<=c') (d2:c'<=k) (e:has c=has c')=>hI.inj c c' c1 c2 d1 d2 e (by have:=hI.full c1 c2;omega));replace hI:=Hd hI;replace aH:=Hd aH;clear GS HM PM XM b5 X5 b1 X1;go_wp2_with (at_make;refine Xd _ rfl _ _ rfl wo.heap.size _ _ k rfl rfl rfl rfl (by omega) (Nat.le_refl _) ?_;rintro w6 o6 g6;replace o6:=Hd o6;replace g6:=Hd g6);have x6:=Hd ((Ext.rf wo).grownNone g6.out);have a6:=Hd (Arr.of_own o6.out);have PH6:=Hd (Blk.ext PH.out x6.out);have aH6:=Hd (aH.out.ext x6.out);have zx:wo.heap.size≠gh/\wo.heap.size≠gp:=by
    have:=aH.out.lt;have:=Blk.lt PH.out;omega
   generalize hgx:wo.heap.size=gx at *;replace hgx:=Hd hgx;clear o6 g6 PH aH;go_loopw [10] (fun v10 wr=>∃ (c:Nat) (xf:Nat->Nat),v10=.int .i64 c/\1<=c/\c<=k+1/\Hid (∀ j,1<=j->j<c->xf (has j-1)=j-1)/\Hid (Arr wr gx k fun i=>(xf i:Int))/\Hid (Mod (fun b=>b=gx) w6 wr)) (fun v10 _=>k+1-(intOf v10).toNat)
   case atStart=>exact⟨1,fun _=>0,rfl,by omega,by omega,fun j h1 h2=>by omega,a6.out,Mod.rf _⟩
   case round =>
    clear a6;obtain⟨wp,rfl⟩:∃ wp:World,wp=wr:=⟨_,rfl⟩;obtain⟨c,xf,rfl,hc1,hck,HX,aX,HM⟩:=hrel
    by_cases hcn:c<=k
    ·have q2:(c:Int)<=(k:Int):=by omega
     have wc1:IntKind.i64.wrap ((c:Int)+1)=((c+1:Nat):Int):=IntWalk.i64_in _ (by omega);have fu:=FU.out c hc1 hcn;obtain⟨h,hh⟩:∃ h,Hid (has c=h):=⟨_,rfl⟩;rw[hh.out] at fu;obtain⟨h1,hh1⟩:∃ h1,Hid (h-1=h1):=⟨_,rfl⟩;obtain⟨c1,hhc⟩:∃ c1,Hid (c-1=c1):=⟨_,rfl⟩;have w2:IntKind.i64.wrap ((h:Int)-1)=(h1:Int):=by
      have:=hh1.out;rw[show (h:Int)-1=(h1:Int) by omega];exact IntWalk.i64_in _ (by omega)
     have w3:IntKind.i64.wrap ((c:Int)-1)=(c1:Int):=by
      have:=hhc.out;rw[show (c:Int)-1=(c1:Int) by omega];exact IntWalk.i64_in _ (by omega)
     have p3:wp.cell? ⟨gp,3,none⟩=some (.slice (some ⟨gh,0,none⟩) N N):=(Blk.mod PH6.out HM.out zx.2.symm).cell 3;have kh:=(aH6.out.mod HM.out zx.1.symm).cell (k:=c) (by have:=hN.out;omega);simp only[hh.out] at kh;have qh:(h1:Int)<(k:Int):=by have:=hh1.out;omega
     have qh':h1<k:=by have:=hh1.out;omega
     have qc:(c:Int)<(N:Int):=by have:=hN.out;omega
     have kx:=aX.out.cell qh';have fx:=aX.out.free h1;have aX2:Hid (Arr (wp.setCell ⟨gx,h1,none⟩ (.int .i64 c1)) gx k fun i=>((if i=h1 then c1 else xf i:Nat):Int)):=(aX.out.set h1 (c1:Int)).congr fun i _=>by split<;>rfl
     have HM2:=Hd (HM.out.set (p:=⟨gx,h1,none⟩) (.inl rfl) (.int .i64 c1));have HX2:Hid (∀ j,1<=j->j<c+1->(fun i=>if i=h1 then c1 else xf i) (has j-1)=j-1):=fun j j1 j2=>by
      simp only
      by_cases e:j=c
      ·subst e
       rw[hh.out,hh1.out,if_pos rfl,hhc.out]
      ·have h3:=FU.out j j1 (by omega)
       have h4:=hh.out;have h5:=hh1.out;rw[if_neg (fun e2=>e (INJ.out j c j1 (by omega) hc1 hcn (by omega)))];exact HX.out j j1 (by omega)
     clear HX aX HM fu;go_wp2_with (fail);go_roundw
     case rel=>exact⟨c+1,_,by go_num,by omega,by omega,HX2,aX2,HM2⟩
     case measure=>simp[intOf];omega
    ·obtain rfl:c=k+1:=by omega
     have HU:=Ze6 (x:=(List.range k).map xf) hn.out hI.out (by simp) (fun j j1 j2=>by
      have h3:=FU.out j j1 j2;rw[List.getElem?_map,List.getElem?_range (by omega),Option.map_some,HX.out j j1 (by omega)])
     have RD:RdI wp (some ⟨gx,0,none⟩) (Ze ((List.range k).map xf)):=by
      have:=aX.out.rdI
      simpa [Ze,Function.comp_def] using this
     have XW:Ext w wp:=(XX.out.tr x6.out).mod HM.out (fun b hb e=>by
      have h1:=hgx.out;have h2:=XX.out.size;omega)
     have LE:Hid (Least co k (Zs co (Ze ((List.range k).map xf)))):=⟨⟨_,HU.1,rfl⟩,HU.2⟩;have TT:=Hd (TO.out (some ⟨gx,0,none⟩) k ((List.range k).map xf) wp XW RD HU.1);have FIN:=Hd (And.intro HU.1 (And.intro RD XW));have BXp:=(BX.out.ext x6.out).mod HM.out (fun e=>by
      have h1:=hgx.out;have h2:=BX.out.lt;omega)
     have t0:=BXp.c0;have t1:=BXp.c1;have t2:=BXp.c2;have t3:=BXp.c3;have t4:=BXp.c4;have t5:=BXp.c5;have q2:¬(((k+1:Nat):Int)<=(k:Int)):=by omega
     have mk:k<=maxLen:=by simp only[maxLen];omega
     clear HU RD XW BXp HX aX HM BX XX INJ FU hI;generalize (List.range k).map xf=l at *;go_wp2_with (fail);refine TT.out.mono ?_;rintro e W9 ⟨rfl,x9⟩;clear t0 t1 t2 t3 t4 t5 TT;go_wp2_with (fail);go_ret3;unfold ZcX;rw[hn.out];exact⟨_,_,l,rfl,FIN.out.2.1.ext x9,FIN.out.1,Nat.le_refl _,mk,LE.out,FIN.out.2.2.tr x9⟩
def ZH (i:InstP)(k:Int) : Int:=if Zf i≠0 then Zf i else if i.kind≠k then 14 else if (k=1/\18<i.n)\/(k=3/\12<i.n) then 5 else 0
def VG (i:InstP)(k:Int) : Int:=if Zf i≠0 then Zf i else if k≠0/\i.kind≠k then 14 else if (i.kind=1/\18<i.n)\/(i.kind=3/\12<i.n) then 5 else 0
theorem V7 {i:InstP}{k:Int}(h:ZH i k=0) : Zf i=0/\i.kind=k/\(k=1->i.n<=18)/\(k=3->i.n<=12):=by
 unfold ZH at h
 by_cases hc:Zf i=0
 ·by_cases e:i.kind=k
  ·by_cases h2:(k=1/\18<i.n)\/(k=3/\12<i.n)
   ·simp[hc,e,h2] at h
   ·exact⟨hc,e,fun h3=>by omega,fun h3=>by omega⟩
  ·simp[hc,e] at h
 ·simp[hc] at h
theorem U5 (i:InstP)(us:List Value)(k:Int)(w:World)(H:RInst w us i)(lw:i.weight.length<=1000000000)(lv:i.value.length<=1000000000) :
  Calls Tryz.prog 80 #[.agg (List.toArray us),.int .i64 k] w fun e w'=>e=.returned (.int .i64 (ZH i k))/\Ext w w':=by
 have CH:=fun(W:World) (x:Ext w W)=>ZC i us W (H.ext x) lw lv
 obtain⟨c,hcc⟩:∃ c,Hid (Zf i=c):=⟨_,rfl⟩;have TP:Hid (∀ v,(if c≠0 then c else if i.kind≠k then 14 else if (k=1/\18<i.n)\/(k=3/\12<i.n) then 5 else 0)=v->ZH i k=v):=fun v h=>by
  unfold ZH;rw[hcc.out];exact h
 generalize ZH i k=tp at *;rw[hcc.out] at CH;obtain⟨kind,nn,cap,xw,xv,co⟩:=i;obtain⟨A,a,B,b,D,d,rfl,-,-,-⟩:=H;simp only at *;have B1:Hid (Blk (w.alloc (.cells #[.int .i64 kind,.int .i64 nn,.int .i64 cap,.slice A xw.length a,.slice B xv.length b,.slice D co.length d] 25)) w.heap.size 25 #[.int .i64 kind,.int .i64 nn,.int .i64 cap,.slice A xw.length a,.slice B xv.length b,.slice D co.length d]):=.new rfl;replace CH:=Hd CH;clear hcc lw lv;go_enter Tryz.func80,Tryz.ntmps80;go_wp2_with (fail);refine(CH.out _ (by(repeat (first | assumption | exact Ext.rf _ | apply Ext.drew | apply Ext.drewN | apply Ext.alloc)))).mono ?_;rintro e w1 ⟨rfl,x1⟩;have X1:=Hd (Ext.tr (a:=w) (by(repeat (first | assumption | exact Ext.rf _ | apply Ext.drew | apply Ext.drewN | apply Ext.alloc))) x1);have b1:=Hd (B1.out.ext x1);have t0:=b1.out.c0;have t1:=b1.out.c1;clear x1 B1
 by_cases hc:c=0
 ·subst hc
  by_cases hk:kind=k
  ·subst hk
   have kk:(kind != kind)=false:=by simp
   by_cases k1:kind=1
   ·subst k1
    by_cases hn:18<nn
    ·have T5:=TP.out 5 (by simp[hn])
     clear TP;go_wp2_with (fail);go_ret;exact⟨by rw[T5];rfl,X1.out.tr (by(repeat (first | assumption | exact Ext.rf _ | apply Ext.drew | apply Ext.drewN | apply Ext.alloc)))⟩
    ·have T5:=TP.out 0 (by simp[hn])
     clear TP;go_wp2_with (fail);go_ret;exact⟨by rw[T5];rfl,X1.out.tr (by(repeat (first | assumption | exact Ext.rf _ | apply Ext.drew | apply Ext.drewN | apply Ext.alloc)))⟩
   ·by_cases k3:kind=3
    ·subst k3
     by_cases hn:12<nn
     ·have T5:=TP.out 5 (by simp[hn])
      clear TP;go_wp2_with (fail);go_ret;exact⟨by rw[T5];rfl,X1.out.tr (by(repeat (first | assumption | exact Ext.rf _ | apply Ext.drew | apply Ext.drewN | apply Ext.alloc)))⟩
     ·have T5:=TP.out 0 (by simp[hn])
      clear TP;go_wp2_with (fail);go_ret;exact⟨by rw[T5];rfl,X1.out.tr (by(repeat (first | assumption | exact Ext.rf _ | apply Ext.drew | apply Ext.drewN | apply Ext.alloc)))⟩
    ·have T5:=TP.out 0 (by simp[k1,k3])
     have e1:(kind==1)=false:=by simpa using k1
     have e3:(kind==3)=false:=by simpa using k3
     clear TP;go_wp2_with (fail);go_ret;exact⟨by rw[T5];rfl,X1.out.tr (by(repeat (first | assumption | exact Ext.rf _ | apply Ext.drew | apply Ext.drewN | apply Ext.alloc)))⟩
  ·have T5:=TP.out 14 (by simp[hk])
   have e1:(kind != k)=true:=by simpa using hk
   clear TP;go_wp2_with (fail);go_ret;exact⟨by rw[T5];rfl,X1.out.tr (by(repeat (first | assumption | exact Ext.rf _ | apply Ext.drew | apply Ext.drewN | apply Ext.alloc)))⟩
 ·have T5:=TP.out c (by simp[hc])
  have e1:(c != 0)=true:=by simpa using hc
  clear TP;go_wp2_with (fail);go_ret;exact⟨by rw[T5];rfl,X1.out.tr (by(repeat (first | assumption | exact Ext.rf _ | apply Ext.drew | apply Ext.drewN | apply Ext.alloc)))⟩
attribute [local go_sem] Oper.semAt_some
def J5 (i:InstP)(x:List Int)(v:Int) : Prop :=
 (i.kind=1/\∃ n m:Nat,i.n=n/\x=xB m n/\m<2^n/\ZY (atF i.weight) n m<=i.cap/\v=Y5 (atF i.value) n m/\∀ s,s<2^n->ZY (atF i.weight) n s<=i.cap->v<=Y5 (atF i.value) n s) ∨
 (i.kind=2/\∃ l:List Nat,x=Ze l/\l.Perm (List.range i.cost.length)/\v=Zs i.cost (Ze l)/\Least i.cost i.cost.length v) ∨
 (i.kind=3/\∃ q:List Nat,x=Ze (0::q)/\(0::q).Perm (List.range i.cost.length)/\v=Zy i.cost 0 q/\LeastT i.cost i.cost.length v)
def V8 (i:InstP)(t:Int)(w:World)(e:Ending)(w':World) : Prop :=
 (t≠0/\e=.returned (.tuple #[.slice none 0 0,.int .i64 0,.int .i64 t])/\Ext w w') ∨
 (t=0/\∃ A x c v,e=.returned (.tuple #[.slice A x.length c,.int .i64 v,.int .i64 0])/\RdI w' A x/\J5 i x v/\x.length<=c/\c<=maxLen/\Ext w w')
section
variable (i:InstP) (us:List Value) (w:World) (H:RInst w us i) (lw:i.weight.length<=1000000000) (lv:i.value.length<=1000000000)
include H lw lv
theorem ZfH (h:ZH i 1≠0) : CallsIn Fence.wide 3 Tryz.prog 44 #[.agg (List.toArray us)] w fun e w'=>e=.returned (.tuple #[.slice none 0 0,.int .i64 0,.int .i64 (ZH i 1)])/\Ext w w':=by
 have TK:=fun(W:World) (x:Ext w W)=>U5 i us 1 W (H.ext x) lw lv
 generalize ZH i 1=tp at *;have e1:(tp != 0)=true:=by simpa using h
 obtain⟨kind,nn,cap,xw,xv,co⟩:=i;obtain⟨A,a,B,b,D,d,rfl,-,-,-⟩:=H;simp only at *;replace TK:=Hd TK;clear h lw lv;refine callsIn_of_wp_marks Tryz.func44 rfl trivial ?_ rfl;simp only[Tryz.ntmps44,List.size_toArray,List.length_cons,List.length_nil,Nat.reduceAdd,Nat.reduceSub,Array.replicate_succ,Array.replicate_zero,List.push_toArray,List.append_toArray,List.nil_append,List.cons_append];refine wpIn_wide.2 (wp_mono ?_ UE);go_wp2_with (fail);refine(TK.out _ (by(repeat (first | assumption | exact Ext.rf _ | apply Ext.drew | apply Ext.drewN | apply Ext.alloc)))).mono ?_;rintro e w1 ⟨rfl,x1⟩;have X1:=Hd (Ext.tr (a:=w) (by(repeat (first | assumption | exact Ext.rf _ | apply Ext.drew | apply Ext.drewN | apply Ext.alloc))) x1);clear x1;go_wp2_with (fail);refine⟨.tuple #[.slice none 0 0,.int .i64 0,.int .i64 tp],by simp[results,Tryz.results44,go_sem],rfl,X1.out.tr (by(repeat (first | assumption | exact Ext.rf _ | apply Ext.drew | apply Ext.drewN | apply Ext.alloc)))⟩
theorem Zf9 (h:ZH i 2≠0) : Calls Tryz.prog 42 #[.agg (List.toArray us)] w fun e w'=>e=.returned (.tuple #[.slice none 0 0,.int .i64 0,.int .i64 (ZH i 2)])/\Ext w w':=by
 have TK:=fun(W:World) (x:Ext w W)=>U5 i us 2 W (H.ext x) lw lv
 generalize ZH i 2=tp at *;have e1:(tp != 0)=true:=by simpa using h
 obtain⟨kind,nn,cap,xw,xv,co⟩:=i;obtain⟨A,a,B,b,D,d,rfl,-,-,-⟩:=H;simp only at *;replace TK:=Hd TK;clear h lw lv;go_enter Tryz.func42,Tryz.ntmps42;go_wp2_with (fail);refine(TK.out _ (by(repeat (first | assumption | exact Ext.rf _ | apply Ext.drew | apply Ext.drewN | apply Ext.alloc)))).mono ?_;rintro e w1 ⟨rfl,x1⟩;have X1:=Hd (Ext.tr (a:=w) (by(repeat (first | assumption | exact Ext.rf _ | apply Ext.drew | apply Ext.drewN | apply Ext.alloc))) x1);clear x1;go_wp2_with (fail);go_ret3;exact⟨rfl,X1.out.tr (by(repeat (first | assumption | exact Ext.rf _ | apply Ext.drew | apply Ext.drewN | apply Ext.alloc)))⟩
theorem ZfI (h:ZH i 3≠0) : Calls Tryz.prog 43 #[.agg (List.toArray us)] w fun e w'=>e=.returned (.tuple #[.slice none 0 0,.int .i64 0,.int .i64 (ZH i 3)])/\Ext w w':=by
 have TK:=fun(W:World) (x:Ext w W)=>U5 i us 3 W (H.ext x) lw lv
 generalize ZH i 3=tp at *;have e1:(tp != 0)=true:=by simpa using h
 obtain⟨kind,nn,cap,xw,xv,co⟩:=i;obtain⟨A,a,B,b,D,d,rfl,-,-,-⟩:=H;simp only at *;replace TK:=Hd TK;clear h lw lv;go_enter Tryz.func43,Tryz.ntmps43;go_wp2_with (fail);refine(TK.out _ (by(repeat (first | assumption | exact Ext.rf _ | apply Ext.drew | apply Ext.drewN | apply Ext.alloc)))).mono ?_;rintro e w1 ⟨rfl,x1⟩;have X1:=Hd (Ext.tr (a:=w) (by(repeat (first | assumption | exact Ext.rf _ | apply Ext.drew | apply Ext.drewN | apply Ext.alloc))) x1);clear x1;go_wp2_with (fail);go_ret3;exact⟨rfl,X1.out.tr (by(repeat (first | assumption | exact Ext.rf _ | apply Ext.drew | apply Ext.drewN | apply Ext.alloc)))⟩
theorem ZfJ (hT:Tab w) : Calls Tryz.prog 44 #[.agg (List.toArray us)] w (V8 i (ZH i 1) w):=by
 by_cases h:ZH i 1=0
 ·obtain⟨hc,hk,h18,-⟩:=V7 h
  have ok:=ZD hc hk;have n1:=ok.n1;obtain⟨n,hn⟩:∃ n:Nat,i.n=n:=⟨i.n.toNat,by omega⟩;refine(Zax i us n w H hT hc hk hn (by have:=h18 rfl;omega)).mono ?_;rintro e w' ⟨A,c,m,rfl,h1,h2,h3,h4,h5,h6,h7⟩;exact .inr ⟨h,A,xB m n,c,_,by rw[WR],h1,.inl ⟨hk,n,m,hn,rfl,h2,h3,rfl,h6⟩,by rw[WR];exact h4,h5,h7⟩
 ·refine(callsIn_wide.1 (ZfH i us w H lw lv h)).mono ?_
  rintro e w' ⟨rfl,x⟩;exact .inl ⟨h,rfl,x⟩
theorem Zga : Calls Tryz.prog 42 #[.agg (List.toArray us)] w (V8 i (ZH i 2) w):=by
 by_cases h:ZH i 2=0
 ·obtain⟨hc,hk,-⟩:=V7 h
  refine(ZfG i us w H hc hk).mono ?_;rintro e w' ⟨A,c,l,rfl,h1,h2,h3,h4,h5,h6⟩;have hl:(Ze l).length=i.cost.length:=by rw[Zm,h2.length_eq,List.length_range]
  exact .inr ⟨h,A,Ze l,c,_,by rw[hl],h1,.inr (.inl ⟨hk,l,rfl,h2,rfl,h5⟩),by rw[hl];exact h3,h4,h6⟩
 ·refine(Zf9 i us w H lw lv h).mono ?_
  rintro e w' ⟨rfl,x⟩;exact .inl ⟨h,rfl,x⟩
theorem ZfK : Calls Tryz.prog 43 #[.agg (List.toArray us)] w (V8 i (ZH i 3) w):=by
 by_cases h:ZH i 3=0
 ·obtain⟨hc,hk,-,h12⟩:=V7 h
  refine(ZeZ i us w H hc hk (h12 rfl)).mono ?_;rintro e w' ⟨A,c,q,rfl,h1,h2,h3,h4,h5,h6⟩;have hl:(Ze (0::q)).length=i.cost.length:=by rw[Zm,h2.length_eq,List.length_range]
  exact .inr ⟨h,A,Ze (0::q),c,_,by rw[hl],h1,.inr (.inr ⟨hk,q,rfl,h2,rfl,h5⟩),by rw[hl];exact h3,h4,h6⟩
 ·refine(ZfI i us w H lw lv h).mono ?_
  rintro e w' ⟨rfl,x⟩;exact .inl ⟨h,rfl,x⟩
end
end Go.Proofs.YtmojhhlcocjoaaaGreatDoor
namespace Go.Proofs.YtmojhhlcocjoaaaGreatDoor
open Go.RowKit Go.ChangeShapes Go.WideShapes Go.ChangeAt Go.Deep
theorem Zbv {i:InstP} : VG i 0=if i.kind=2 then ZH i 2 else if i.kind=3 then ZH i 3 else if Zf i≠0 then Zf i else ZH i 1:=by
 unfold VG ZH
 by_cases hc:Zf i=0
 ·rcases ZX hc with h | h | h<;>simp[hc,h]
 ·by_cases h2:i.kind=2
  ·simp[hc,h2]
  ·by_cases h3:i.kind=3<;>simp[hc,h2,h3]
theorem ZfL (i:InstP)(us:List Value)(w:World)(H:RInst w us i)(lw:i.weight.length<=1000000000)(lv:i.value.length<=1000000000)(hT:Tab w) :
  Calls Tryz.prog 13 #[.agg (List.toArray us)] w (V8 i (VG i 0) w):=by
 have CH:=fun(W:World) (x:Ext w W)=>ZC i us W (H.ext x) lw lv
 have KX:=fun(W:World) (x:Ext w W)=>ZfJ i us W (H.ext x) lw lv (hT.ext x)
 have AX:=fun(W:World) (x:Ext w W)=>Zga i us W (H.ext x) lw lv
 have TX:=fun(W:World) (x:Ext w W)=>ZfK i us W (H.ext x) lw lv
 have RK:=Zbv (i:=i);have PK:∀ (t:Int) (W W':World) (e:Ending),Ext w W->V8 i t W e W'->∃ A n c v r,e=.returned (.tuple #[.slice A n c,.int .i64 v,.int .i64 r])/\(∀ W2,Ext W' W2->V8 i t w e W2):=by
  rintro t W W' e X (⟨h,rfl,x⟩ | ⟨h,A,xs,c,v,rfl,h1,h2,h3,h4,x⟩)
  ·exact⟨none,0,0,0,t,rfl,fun W2 y=>.inl ⟨h,rfl,(X.tr x).tr y⟩⟩
  ·exact⟨A,xs.length,c,v,0,rfl,fun W2 y=>.inr ⟨h,A,xs,c,v,rfl,h1.ext y,h2,h3,h4,(X.tr x).tr y⟩⟩
 generalize VG i 0=t0 at *;obtain⟨t1,ht1⟩:∃ t1,Hid (ZH i 1=t1):=⟨_,rfl⟩;obtain⟨t2,ht2⟩:∃ t2,Hid (ZH i 2=t2):=⟨_,rfl⟩;obtain⟨t3,ht3⟩:∃ t3,Hid (ZH i 3=t3):=⟨_,rfl⟩;obtain⟨cc,hcc⟩:∃ cc,Hid (Zf i=cc):=⟨_,rfl⟩;rw[ht1.out] at KX;rw[ht2.out] at AX;rw[ht3.out] at TX;rw[hcc.out] at CH;rw[ht1.out,ht2.out,ht3.out,hcc.out] at RK;obtain⟨P,hP⟩:∃ P:Int->World->Ending->World->Prop,P=V8 i:=⟨_,rfl⟩;rw[<-hP] at KX AX TX PK ⊢;have BAD:Hid (∀ t W,t≠0->Ext w W->P t w (.returned (.tuple #[.slice none 0 0,.int .i64 0,.int .i64 t])) W):=fun t W h x=>by rw[hP];exact .inl ⟨h,rfl,x⟩
 clear ht1 ht2 ht3 hcc hP lw lv hT;obtain⟨kind,nn,cap,xw,xv,co⟩:=i;obtain⟨A,a,B,b,D,d,rfl,-,-,-⟩:=H;simp only at *;have B1:Hid (Blk (w.alloc (.cells #[.int .i64 kind,.int .i64 nn,.int .i64 cap,.slice A xw.length a,.slice B xv.length b,.slice D co.length d] 25)) w.heap.size 25 #[.int .i64 kind,.int .i64 nn,.int .i64 cap,.slice A xw.length a,.slice B xv.length b,.slice D co.length d]):=.new rfl;replace CH:=Hd CH;replace KX:=Hd KX;replace AX:=Hd AX;replace TX:=Hd TX;replace PK:=Hd PK;go_enter Tryz.func13,Tryz.ntmps13
 by_cases h2:kind=2
 ·rw[if_pos h2] at RK
  subst RK;have e2:(kind==2)=true:=by simpa using h2
  clear h2;go_wp2_with (fail);refine(AX.out _ (by(repeat (first | assumption | exact Ext.rf _ | apply Ext.drew | apply Ext.drewN | apply Ext.alloc)))).mono ?_;intro e w1 hp;obtain⟨A9,n9,c9,v9,r9,rfl,hq⟩:=PK.out _ _ _ _ (by(repeat (first | assumption | exact Ext.rf _ | apply Ext.drew | apply Ext.drewN | apply Ext.alloc))) hp;replace hq:=Hd hq;clear hp;go_wp2_with (fail);go_ret3;exact hq.out _ (by(repeat (first | assumption | exact Ext.rf _ | apply Ext.drew | apply Ext.drewN | apply Ext.alloc)))
 ·rw[if_neg h2] at RK
  have e2:(kind==2)=false:=by simpa using h2
  clear h2
  by_cases h3:kind=3
  ·rw[if_pos h3] at RK
   subst RK;have e3:(kind==3)=true:=by simpa using h3
   clear h3;go_wp2_with (fail);refine(TX.out _ (by(repeat (first | assumption | exact Ext.rf _ | apply Ext.drew | apply Ext.drewN | apply Ext.alloc)))).mono ?_;intro e w1 hp;obtain⟨A9,n9,c9,v9,r9,rfl,hq⟩:=PK.out _ _ _ _ (by(repeat (first | assumption | exact Ext.rf _ | apply Ext.drew | apply Ext.drewN | apply Ext.alloc))) hp;replace hq:=Hd hq;clear hp;go_wp2_with (fail);go_ret3;exact hq.out _ (by(repeat (first | assumption | exact Ext.rf _ | apply Ext.drew | apply Ext.drewN | apply Ext.alloc)))
  ·rw[if_neg h3] at RK
   have e3:(kind==3)=false:=by simpa using h3
   clear h3;replace RK:=Hd RK;go_wp2_with (fail);refine(CH.out _ (by(repeat (first | assumption | exact Ext.rf _ | apply Ext.drew | apply Ext.drewN | apply Ext.alloc)))).mono ?_;rintro e w1 ⟨rfl,x1⟩;replace RK:=RK.out;have X1:=Hd (Ext.tr (a:=w) (by(repeat (first | assumption | exact Ext.rf _ | apply Ext.drew | apply Ext.drewN | apply Ext.alloc))) x1);have b1:=Hd (B1.out.ext x1)
   by_cases hc:cc=0
   ·rw[if_neg (by simpa using hc)] at RK
    subst RK hc;have y0:=b1.out.c0;have y1:=b1.out.c1;have y2:=b1.out.c2;have y3:=b1.out.c3;have y4:=b1.out.c4;have y5:=b1.out.c5;clear x1 B1;go_wp2_with (fail);refine(KX.out _ (X1.out.tr (by(repeat (first | assumption | exact Ext.rf _ | apply Ext.drew | apply Ext.drewN | apply Ext.alloc))))).mono ?_;intro e w2 hp;obtain⟨A9,n9,c9,v9,r9,rfl,hq⟩:=PK.out _ _ _ _ (X1.out.tr (by(repeat (first | assumption | exact Ext.rf _ | apply Ext.drew | apply Ext.drewN | apply Ext.alloc)))) hp;replace hq:=Hd hq;clear hp y0 y1 y2 y3 y4 y5;go_wp2_with (fail);go_ret3;exact hq.out _ (by(repeat (first | assumption | exact Ext.rf _ | apply Ext.drew | apply Ext.drewN | apply Ext.alloc)))
   ·rw[if_pos hc] at RK
    subst RK;have e4:(t0 != 0)=true:=by simpa using hc
    clear x1 B1;replace hc:=Hd hc;go_wp2_with (fail);go_ret3;exact BAD.out _ _ hc.out (X1.out.tr (by(repeat (first | assumption | exact Ext.rf _ | apply Ext.drew | apply Ext.drewN | apply Ext.alloc))))
theorem U6 (n m:Nat)(ws:List Int)(h:ws.length=n) : Zw (xB m n) ws=ZY (atF ws) n m:=by
 unfold Zw;rw[YS _ _ _ (by rw[WR,h]),WR];unfold ZY
 congr 1
 refine List.map_congr_left fun j hj=>?_
 have hj':=List.mem_range.1 hj;rw[getD_some (Zcd hj')];unfold atF
 by_cases hb:m.testBit j=true<;>simp[hb]
theorem Jh (n m:Nat)(vs:List Int)(h:vs.length=n) : ZI (xB m n) vs=Y5 (atF vs) n m:=by
 unfold ZI;rw[YS _ _ _ (by rw[WR,h]),WR];unfold Y5
 congr 1
 refine List.map_congr_left fun j hj=>?_
 have hj':=List.mem_range.1 hj;rw[getD_some (Zcd hj')];unfold atF
 by_cases hb:m.testBit j=true<;>simp[hb]
theorem ZdX {i:InstP}(hc:Zf i=0)(hk:i.kind=1){x:List Int}{v:Int}(ha:J5 i x v) : ∃ n:Nat,i.n=n/\XA i.cap i.weight i.value n []=v:=by
 rcases ha with⟨-,n,m,hn,rfl,h1,h2,rfl,h3⟩ | ⟨hk2,_⟩ | ⟨hk2,_⟩
 ·have ok:=ZD hc hk
  have hw:i.weight.length=n:=by have:=ok.w;omega
  have hv:i.value.length=n:=by have:=ok.v;omega
  refine⟨n,hn,?_⟩;obtain⟨b1,b2⟩:=Wv (cap:=i.cap) (ws:=i.weight) (vs:=i.value) (n:=n) (fun z hz=>(ok.sv z hz).1) n [] (by simp) (by simp);have hx01:∀ m',∀ y∈xB m' n,y=0\/y=1:=fun m' y hy=>by
   unfold xB at hy;obtain⟨j,_,rfl⟩:=List.mem_map.1 hy;split<;>simp
  have h4:=b2 (xB m n) ⟨⟨xB m n,rfl⟩,WR m n,hx01 m⟩ (by rw[U6 n m _ hw];exact h2);rw[Jh n m _ hv] at h4;rcases b1 with h5 | ⟨y,⟨_,hy1,hy2⟩,h6,h7⟩
  ·omega
  ·obtain⟨s,hs,rfl⟩:=ZcT n y hy1 hy2
   rw[U6 n s _ hw] at h6;rw[Jh n s _ hv] at h7;have:=h3 s hs h6;omega
 ·omega
 ·omega
theorem J6 {n:Nat}(h24:n<=24){m:Nat}(h:ZW n []=some m) : ∀ q:List Nat,q.Perm (Zc m)↔q.Perm (List.range n):=by
 obtain⟨l,e,h1,h2,h3⟩:=QX h24 h;have e0:l=[]:=List.eq_nil_of_length_eq_zero (by have:=congrArg List.length e;rw[Zm] at this;exact this.symm);subst e0;have hp:(Zc m).Perm (List.range n):=(List.perm_ext_iff_of_nodup ((Zu m).imp fun h=>Nat.ne_of_lt h) List.nodup_range).2 fun x=>by rw[h3,List.mem_range];simp
 exact fun q=>⟨fun hq=>hq.trans hp,fun hq=>hq.trans hp.symm⟩
theorem ZdY {i:InstP}(hc:Zf i=0)(hk:i.kind=2){x:List Int}{v:Int}(ha:J5 i x v) : YN i.cost i.cost.length i.cost.length []=v:=by
 have rok:=ZF (Zo hc (by omega));have h24:=rok.n2;have num:∀ row∈i.cost,∀ c,c<i.cost.length->0<=row.getD c 0:=fun row hr c hc=>(rok.get hr hc).1
 rcases ha with⟨hk2,_⟩ | ⟨-,l,-,-,-,hL⟩ | ⟨hk2,_⟩
 ·omega
 ·obtain⟨q,h1,h2⟩:=Vy h24 num i.cost.length [] _ Xg (by simp)
  rw[J6 h24 Xg] at h1;refine Least.one (n:=i.cost.length) ⟨⟨q,h1,by rw[h2];rfl⟩,fun q' hq'=>?_⟩ hL;exact Jd h24 num i.cost.length [] _ Xg (by simp) q' ((J6 h24 Xg q').2 hq')
 ·omega
theorem LeastT.one {rows:List (List Int)}{n:Nat}{c d:Int}(h:LeastT rows n c)(k:LeastT rows n d) : c=d:=by
 obtain⟨x,h1,h2⟩:=h.1;obtain⟨y,k1,k2⟩:=k.1;have a:=h.2 y k1;have b:=k.2 x h1;omega
theorem J7 {n:Nat}(h1:1<=n)(h24:n<=24)(q:List Nat) : q.Perm (Zc (WW n))↔(0::q).Perm (List.range n):=by
 have hp:(0::Zc (WW n)).Perm (List.range n):=by
  refine(List.perm_ext_iff_of_nodup (List.nodup_cons.2 ⟨fun h=>((VD h24).1 h).2 rfl,(Zu _).imp fun h=>Nat.ne_of_lt h⟩) List.nodup_range).2 fun x=>?_
  rw[List.mem_cons,VD h24,List.mem_range]
  by_cases e:x=0
  ·subst e
   simp;omega
  ·simp[e]
 exact⟨fun h=>(h.cons 0).trans hp,fun h=>((List.perm_cons 0).1 (h.trans hp.symm))⟩
theorem ZdZ {i:InstP}(hc:Zf i=0)(hk:i.kind=3){x:List Int}{v:Int}(ha:J5 i x v) : YW i.cost (i.cost.length-1) []=v/\0<=v:=by
 have rok:=ZF (Zo hc (by omega));have h24:=rok.n2;have h1:=rok.n1;have num:∀ a b,a<i.cost.length->b<i.cost.length->0<=Zb i.cost a b:=fun a b ha hb=>(Y0 rok a b ha hb).1
 obtain⟨l,W⟩:=YV h1 h24 (Xh (rows:=i.cost));have hl:l=[]:=List.eq_nil_of_length_eq_zero (by have:=congrArg List.length W.eq;rw[Zm] at this;exact this.symm);subst hl;rcases ha with⟨hk2,_⟩ | ⟨hk2,_⟩ | ⟨-,q0,-,h3,h4,hL⟩
 ·omega
 ·omega
 ·obtain⟨q,a1,a2⟩:=WN h1 h24 num (i.cost.length-1) [] _ _ _ [] Xh W (by simp)
  rw[J7 h1 h24] at a1;refine⟨LeastT.one (n:=i.cost.length) ⟨⟨q,a1,by rw[a2];rfl⟩,fun q' hq'=>?_⟩ hL,?_⟩
  ·exact Je h1 h24 num (i.cost.length-1) [] _ _ _ [] Xh W (by simp) q' ((J7 h1 h24 q').2 hq')
  ·rw[h4]
   exact VE num _ _ (by omega) fun y hy=>List.mem_range.1 (h3.mem_iff.1 (by simp[hy]))
theorem Zfa {i:InstP}(hc:Zf i=0){x:List Int}{v:Int}(ha:J5 i x v) : ZA i x=(v,0)/\v=XB i:=by
 rcases ZX hc with hk | hk | hk
 ·obtain⟨n0,hn0,hb⟩:=ZdX hc hk ha
  have hbI:v=XB i:=by
   unfold XB;rw[if_pos hk,<-hb]
   congr 1
   omega
  refine⟨?_,hbI⟩;rcases ha with⟨-,n,m,hn,rfl,h1,h2,rfl,h3⟩ | ⟨hk2,_⟩ | ⟨hk2,_⟩
  ·have ok:=ZD hc hk
   have hw:i.weight.length=n:=by have:=ok.w;omega
   have hv:i.value.length=n:=by have:=ok.v;omega
   unfold ZA;rw[if_neg (fun e=>e hc),if_pos hk,if_pos ⟨by rw[WR];exact hn.symm,fun y hy=>by
    unfold xB at hy;obtain⟨j,_,rfl⟩:=List.mem_map.1 hy;split<;>simp⟩]
   unfold Xp;rw[U6 n m _ hw,if_neg (by omega),Jh n m _ hv]
  ·omega
  ·omega
 ·have hb:=ZdY hc hk ha
  have hbI:v=XB i:=by
   unfold XB bxI;rw[if_neg (by omega),if_neg (by omega),if_pos hk,<-hb]
   rfl
  refine⟨?_,hbI⟩;rcases ha with⟨hk2,_⟩ | ⟨-,l,rfl,hp,rfl,hL⟩ | ⟨hk2,_⟩
  ·omega
  ·unfold ZA
   rw[if_neg (fun e=>e hc),if_neg (by omega),if_pos ⟨Yj.2 ⟨l,rfl,hp⟩,fun h=>by omega⟩,if_pos hk]
  ·omega
 ·obtain⟨hb,-⟩:=ZdZ hc hk ha
  have hbI:v=XB i:=by
   unfold XB bxI;rw[if_neg (by omega),if_neg (by omega),if_neg (by omega),<-hb]
   rfl
  refine⟨?_,hbI⟩;rcases ha with⟨hk2,_⟩ | ⟨hk2,_⟩ | ⟨-,q,rfl,hp,rfl,hL⟩
  ·omega
  ·omega
  ·unfold ZA
   rw[if_neg (fun e=>e hc),if_neg (by omega),if_pos ⟨Yj.2 ⟨0::q,rfl,hp⟩,fun _=>rfl⟩,if_neg (by omega)]
   congr 1
   simp[Ze,List.map_map,Function.comp_def]
section
variable {D:Nat} {kids:List Int->List Int} {bound:List Int->Int} {okp:List Int->Prop} {bx:List Int->Int}
end
theorem Zgb {i:InstP}(hc:Zf i=0) : KrnOk (ZB i) (fun p=>(XU i p).1) (fun p=>(Yv i p).1) (okI i) (bxI i):=by
 rcases ZX hc with h | h | h
 ·have ok:=ZD hc h
  obtain⟨f1,f2,f3,f4,f5⟩:=Q5 ok;have K:=ZeM ok.cap.1 f3 f4 f1 f5;have hd:ZB i=(wsP i).length:=by unfold ZB;rw[if_neg (by omega)];omega
  have e1:(fun p=>(XU i p).1)=fun p=>(WT i.cap (wsP i) (vsP i) p).1:=by funext p;unfold XU;rw[if_pos h]
  have e2:(fun p=>(Yv i p).1)=fun p=>(YH i.cap (wsP i) (vsP i) p).1:=by funext p;unfold Yv;rw[if_pos h]
  have e3:okI i=fun p=>∃ q,stP i.cap 0 (wsP i) (vsP i) p=some q:=by funext p;unfold okI;rw[if_pos h]
  have e4:bxI i=Xy i.cap (wsP i) (vsP i):=by funext p;unfold bxI;rw[if_pos h]
  rw[hd,e1,e2,e3,e4];exact K
 ·have sq:=Zo hc (by omega)
  have rok:=ZF sq;have K:=Zb8 rok;have hd:ZB i=i.cost.length:=by unfold ZB;rw[if_neg (by omega)];have:=sq.len;omega
  have e1:(fun p=>(XU i p).1)=fun p=>(Wt i.cost p).1:=by funext p;unfold XU;rw[if_neg (by omega),if_pos h]
  have e2:(fun p=>(Yv i p).1)=fun p=>(Ys i.cost p).1:=by funext p;unfold Yv;rw[if_neg (by omega),if_pos h]
  have e3:okI i=fun p=>∃ m,ZW i.cost.length p=some m:=by funext p;unfold okI;rw[if_neg (by omega),if_pos h]
  have e4:bxI i=fun p=>YN i.cost i.cost.length (i.cost.length-p.length) p:=by funext p;unfold bxI;rw[if_neg (by omega),if_pos h]
  rw[hd,e1,e2,e3,e4];exact K
 ·have sq:=Zo hc (by omega)
  have rok:=ZF sq;have K:=ZeN (mi:=UP i.cost) rok (ZeO rok) (fun h=>Zet h);have hd:ZB i=i.cost.length-1:=by unfold ZB;rw[if_pos h];have:=sq.len;omega
  have e1:(fun p=>(XU i p).1)=fun p=>(Wu i.cost p).1:=by funext p;unfold XU;rw[if_neg (by omega),if_neg (by omega)]
  have e2:(fun p=>(Yv i p).1)=fun p=>(Yt i.cost (UP i.cost) p).1:=by funext p;unfold Yv;rw[if_neg (by omega),if_neg (by omega)]
  have e3:okI i=fun p=>∃ s,Z8 i.cost p=some s:=by funext p;unfold okI;rw[if_neg (by omega),if_neg (by omega)]
  have e4:bxI i=fun p=>YW i.cost (i.cost.length-1-p.length) p:=by funext p;unfold bxI;rw[if_neg (by omega),if_neg (by omega)]
  rw[hd,e1,e2,e3,e4];exact K
theorem Zd0 {i:InstP}(hc:Zf i=0) : ZB i<=64:=by
 rcases ZX hc with h | h | h
 ·have ok:=ZD hc h
  have:=ok.n2;unfold ZB;split<;>omega
 ·have sq:=Zo hc (by omega)
  have:=sq.n2;unfold ZB;split<;>omega
 ·have sq:=Zo hc (by omega)
  have:=sq.n2;unfold ZB;split<;>omega
def UH (i:InstP)(best:Int)(s:Nat) : StK×Bool:=Yh (ZB i) (fun p=>(XU i p).1) (fun p=>(Yv i p).1) (ZB i+1) [] (best,[],s)
end Go.Proofs.YtmojhhlcocjoaaaGreatDoor
namespace Go.Proofs.YtmojhhlcocjoaaaGreatDoor
open Go.RowKit Go.ChangeShapes Go.WideShapes Go.ChangeAt Go.Deep
theorem Zd1 (a b:Int)(ha:0<=a)(ha':a<=2147483647)(hb:0<=b)(hb':b<=2147483647)(w:World) : Calls Tryz.prog 33 #[.int .i64 a,.int .i64 b] w fun e w'=>e=.returned (.tuple #[.int .i64 (a+b),.bool true])/\Ext w w':=by
 have wr:∀ z:Int,0<=z->z<=4294967294->IntKind.u64.wrap z=z:=fun z h1 h2=>by
  simp only[IntKind.wrap,IntKind.signed,IntKind.bits];simp;omega
 have u1:=wr a ha (by omega);have u2:=wr b hb (by omega);have u3:=wr (a+b) (by omega) (by omega);have u4:IntKind.i64.wrap (a+b)=a+b:=IntWalk.i64_in _ (by omega);have e1:¬a<0:=by omega
 have e2:¬b<0:=by omega
 have e3:¬a+b<0:=by omega
 clear wr;go_enter Tryz.func33,Tryz.ntmps33;go_wp2;go_ret2;exact⟨rfl,by(repeat (first | assumption | exact Ext.rf _ | apply Ext.drew | apply Ext.drewN | apply Ext.alloc))⟩
theorem V9 (w:World) : Calls Tryz.prog 8 #[] w fun e w'=>e=.returned (.bool true)/\Ext w w':=by
 go_enter Tryz.func8,Tryz.ntmps8;go_wp2_with (fail);refine(Zd1 2 3 (by omega) (by omega) (by omega) (by omega) _).mono ?_;rintro e w1 ⟨rfl,x1⟩;go_wp2_with (fail);go_ret;exact⟨rfl,Ext.tr (a:=w) (by(repeat (first | assumption | exact Ext.rf _ | apply Ext.drew | apply Ext.drewN | apply Ext.alloc))) x1⟩
def Jo (i:InstP) : Bool:=decide (Zf i=0)&&decide (i.n<=if i.kind=1 then 8 else 5)
theorem Zd2 {i:InstP}(h:Jo i=true) : Zf i=0/\VG i 0=0/\i.n<=8:=by
 unfold Jo at h;simp only[Bool.and_eq_true,decide_eq_true_eq] at h;obtain⟨h1,h2⟩:=h;have h8:i.n<=8:=by split at h2<;>omega
 refine⟨h1,?_,h8⟩;unfold VG;rw[if_neg (by simpa using h1),if_neg (by simp),if_neg];rintro (⟨h3,h4⟩ | ⟨h3,h4⟩)<;>omega
theorem ZcY (i:InstP)(us:List Value)(w:World)(H:RInst w us i)(lw:i.weight.length<=maxLen)(lv:i.value.length<=maxLen)(lwv:i.weight.length+i.value.length<=maxLen) :
  Calls Tryz.prog 9 #[.agg (List.toArray us)] w fun e w'=>e=.returned (.bool (Jo i))/\Ext w w':=by
 have CH:=fun(W:World) (x:Ext w W)=>UX i us W (H.ext x) lw lv lwv
 obtain⟨c,hcc⟩:∃ c,Hid (Zf i=c):=⟨_,rfl⟩;have TP:Hid (∀ b,(decide (c=0)&&decide (i.n<=if i.kind=1 then 8 else 5))=b->Jo i=b):=fun b h=>by
  unfold Jo;rw[hcc.out];exact h
 generalize Jo i=tp at *;rw[hcc.out] at CH;obtain⟨kind,nn,cap,xw,xv,co⟩:=i;obtain⟨A,a,B,b,D,d,rfl,-,-,-⟩:=H;simp only at *;have B1:Hid (Blk (w.alloc (.cells #[.int .i64 kind,.int .i64 nn,.int .i64 cap,.slice A xw.length a,.slice B xv.length b,.slice D co.length d] 25)) w.heap.size 25 #[.int .i64 kind,.int .i64 nn,.int .i64 cap,.slice A xw.length a,.slice B xv.length b,.slice D co.length d]):=.new rfl;replace CH:=Hd CH;clear hcc lw lv lwv;go_enter Tryz.func9,Tryz.ntmps9;go_wp2_with (fail);refine(CH.out _ (by(repeat (first | assumption | exact Ext.rf _ | apply Ext.drew | apply Ext.drewN | apply Ext.alloc)))).mono ?_;rintro e w1 ⟨rfl,x1⟩;have X1:=Hd (Ext.tr (a:=w) (by(repeat (first | assumption | exact Ext.rf _ | apply Ext.drew | apply Ext.drewN | apply Ext.alloc))) x1);have b1:=Hd (B1.out.ext x1);have t0:=b1.out.c0;have t1:=b1.out.c1;clear x1 B1
 by_cases hc:c=0
 ·subst hc
  by_cases k1:kind=1
  ·subst k1
   by_cases h8:nn<=8
   ·have T5:=TP.out true (by simp[h8])
    clear TP;go_wp2_with (fail);go_ret;exact⟨by rw[T5];first | rfl | simp[*],X1.out.tr (by(repeat (first | assumption | exact Ext.rf _ | apply Ext.drew | apply Ext.drewN | apply Ext.alloc)))⟩
   ·have T5:=TP.out false (by simp[h8])
    have h5:¬nn<=5:=by omega
    clear TP;go_wp2_with (fail);go_ret;exact⟨by rw[T5];first | rfl | simp[*],X1.out.tr (by(repeat (first | assumption | exact Ext.rf _ | apply Ext.drew | apply Ext.drewN | apply Ext.alloc)))⟩
  ·have e1:(kind==1)=false:=by simpa using k1
   by_cases h5:nn<=5
   ·have T5:=TP.out true (by simp[k1,h5])
    clear TP;go_wp2_with (fail);go_ret;exact⟨by rw[T5];first | rfl | simp[*],X1.out.tr (by(repeat (first | assumption | exact Ext.rf _ | apply Ext.drew | apply Ext.drewN | apply Ext.alloc)))⟩
   ·have T5:=TP.out false (by simp[k1,h5])
    clear TP;go_wp2_with (fail);go_ret;exact⟨by rw[T5];first | rfl | simp[*],X1.out.tr (by(repeat (first | assumption | exact Ext.rf _ | apply Ext.drew | apply Ext.drewN | apply Ext.alloc)))⟩
 ·have T5:=TP.out false (by simp[hc])
  have e1:(c==0)=false:=by simpa using hc
  clear TP;go_wp2_with (fail);go_ret;exact⟨by rw[T5];first | rfl | simp[*],X1.out.tr (by(repeat (first | assumption | exact Ext.rf _ | apply Ext.drew | apply Ext.drewN | apply Ext.alloc)))⟩
theorem Zgf : ∀ D:Nat,D<9->Vh (fun _=>2) D<=1048576:=by decide +kernel
theorem Zgg : ∀ D:Nat,D<6->Vh (fun _=>5) D<=1048576:=by decide +kernel
theorem Zfb {i:InstP}(hc:Zf i=0)(h5:i.kind≠1->i.n<=5){p:List Int}(ho:okI i p) : (XU i p).1.length<=if i.kind=1 then 2 else 5:=by
 unfold XU;unfold okI at ho
 by_cases hk:i.kind=1
 ·rw[if_pos hk,if_pos hk]
  unfold WT
  cases stP i.cap 0 (wsP i) (vsP i) p with
  | none=>simp
  | some q =>
   obtain⟨room,o⟩:=q;simp only
   cases (wsP i).drop p.length with
   | nil=>simp
   | cons w l=>simp only;split<;>simp
 ·have sq:=Zo hc hk
  have rok:=ZF sq;have hn:=h5 hk;have hl:=sq.len;rw[if_neg hk] at ho ⊢;rw[if_neg hk]
  by_cases hk2:i.kind=2
  ·rw[if_pos hk2] at ho ⊢
   obtain⟨m,hm⟩:=ho;obtain⟨l,e1,e2,-⟩:=QY hm;obtain⟨-,-,hS⟩:=Xt rok.n2 hm;have:=Xw (n:=i.cost.length) ((Zu m).imp fun h=>Nat.ne_of_lt h) hS.2;rw[e1];unfold Ze;rw[List.length_map,e2.length_eq];omega
  ·rw[if_neg hk2] at ho ⊢
   obtain⟨⟨m,last,cost⟩,hm⟩:=ho;obtain⟨l,e1,e2,-⟩:=Q1 hm;obtain⟨pl,WO⟩:=YV rok.n1 rok.n2 hm;have hS:=WO.sub;have:=Xw (n:=i.cost.length) ((Zu m).imp fun h=>Nat.ne_of_lt h) hS.2;rw[e1];unfold Ze;rw[List.length_map,e2.length_eq];omega
theorem Zck {i:InstP}(hc:Zf i=0) : (Yv i []).2=0:=by
 have ho:=Qt hc;unfold okI at ho;unfold Yv
 by_cases hk:i.kind=1
 ·rw[if_pos hk] at ho ⊢
  obtain⟨q,hq⟩:=ho;unfold YH;rw[hq]
 ·rw[if_neg hk] at ho ⊢
  by_cases hk2:i.kind=2
  ·rw[if_pos hk2] at ho ⊢
   obtain⟨m,hm⟩:=ho;unfold Ys;rw[hm]
  ·rw[if_neg hk2] at ho ⊢
   obtain⟨s,hs⟩:=ho;unfold Yt;rw[hs]
theorem Zbw {i:InstP}(hc:Zf i=0)(hf:i.n<=if i.kind=1 then 8 else 5)(start:Int) : ∃ b f s,UH i start 1048576=((b,f,s),true)/\b=min start (bxI i [])/\(b<start->f.length=ZB i):=by
 have K:=Zgb hc;have h5:i.kind≠1->i.n<=5:=fun h=>by rw[if_neg h] at hf;exact hf
 have hcnt:Vh (fun _=>if i.kind=1 then 2 else 5) (ZB i-([]:List Int).length)<=1048576:=by
  rw[List.length_nil,Nat.sub_zero];have hd:ZB i<=i.n.toNat:=by unfold ZB;split<;>omega
  by_cases hk:i.kind=1
  ·simp only[hk,if_true] at hf ⊢
   exact Zgf (ZB i) (by omega)
  ·simp only[hk,if_false] at hf ⊢
   exact Zgg (ZB i) (by omega)
 obtain⟨b,f,s,h1,-,h3,h4,-⟩:=JM K (fun _=>if i.kind=1 then 2 else 5) (fun p ho _=>Zfb hc h5 ho) (ZB i+1) [] start [] 1048576 (Qt hc) (by simp) hcnt;exact⟨b,f,s,h1,h3,fun h=>(h4 h).2.1⟩
theorem Zcl {i:InstP}{x:List Int}(h:(ZA i x).2=0) : 0<=(ZA i x).1/\(ZA i x).1<=4611686018427387904:=by
 have A:=Zf7 h;have a1:=A.c0;have a2:=A.c1;omega
theorem Zcm (g o n cc c base:Nat)(xs:List Int)(w:World)(h:OwI w base (some ⟨g,0,none⟩) c xs)(hn:o+n<=xs.length)(hl:xs.length<=2^44) :
  Calls Tryz.prog 85 #[.slice (some ⟨g,o,none⟩) n cc] w fun e w'=>e=.returned (.tuple #[])/\(∃ ys:List Int,ys.length=xs.length/\OwI w' base (some ⟨g,0,none⟩) c ys)/\Mod (fun k=>k=g) w w':=by
 go_enter Tryz.func85,Tryz.ntmps85;go_wp2_with fail;go_loopw [2,3] (fun i j wr=>∃ (k:Nat) (ys:List Int),i=.int .i64 k/\j=.int .i64 ((n:Int)-1-k)/\k+k<=n/\ys.length=xs.length/\OwI wr base (some ⟨g,0,none⟩) c ys/\Mod (fun k=>k=g) w wr) (fun i _ _=>n-(intOf i).toNat)
 case atStart=>exact⟨0,xs,rfl,by simp,by omega,rfl,h,Mod.rf _⟩
 case round =>
  obtain⟨k,ys,rfl,rfl,hk,hly,ho,hm⟩:=hrel
  by_cases hlt:k+k+1<n
  ·obtain⟨x,hc1,hf1,_,hx,hs1⟩:=ho.cell (k:=o+k) (by omega)
   obtain⟨y,hc2,hf2,_,hy,_⟩:=ho.cell (k:=o+(n-1-k)) (by omega);obtain⟨_,_,_,_,_,hs2⟩:=(hs1.out y).cell (k:=o+(n-1-k)) (by rw[List.length_set];omega);have hr2:=Hd (show ((ys.set (o+k) y).set (o+(n-1-k)) x).length=xs.length by rw[List.length_set,List.length_set];exact hly);replace hly:=Hd hly;replace ho:=Hd ho;have hlt':(k:Int)<(n:Int)-1-k:=by omega
   have hej:(n:Int)-1-(k:Int)=((n-1-k:Nat):Int):=by omega
   rw[hej] at hlt' ⊢;generalize hj:n-1-k=j at *;have hkj:k<j:=by omega
   have hjl:j<n:=by omega
   have hne:o+k≠o+j:=by omega
   replace hj:=Hd hj;replace hej:=Hd hej;clear hx hy;go_wp2_with (go_region);go_roundw
   case rel=>exact⟨k+1,_,by go_num,by congr 1;have:=hej.out;omega,by omega,hr2.out,(hs2.out x).ext ((Ext.rf _).drew),((hm.set (p:=⟨g,o+k,none⟩) (.inl rfl) _).set (p:=⟨g,o+j,none⟩) (.inl rfl) _).drew⟩
   case measure=>simp[intOf];omega
  ·have hle:¬(k:Int)<(n:Int)-1-k:=by omega
   go_wp2;go_end0;exact⟨rfl,⟨ys,hly,ho⟩,hm⟩
def U7 (CG:List Int->Int×Int)(kind:Int)(v1 v2 v3 v4 v5:Value)(base gs L:Nat)(w:World)(e:Ending)(w':World) : Prop :=
 ∃ (ok:Bool) (A:Option Addr) (c:Nat) (x:List Int),e=.returned (.bool ok)/\Blk w' gs 127 #[.int .i64 kind,v1,v2,v3,v4,v5,.slice A L c,.int .i64 (CG x).1]/\OwI w' base A c x/\x.length=L/\(CG x).2=0/\Mod (fun z=>z=gs) w w'
theorem Zcn (CG:List Int->Int×Int)(kind:Int)(v1 v2 v3 v4 v5:Value)(w0:World)(gs L:Nat)
  (VC:∀ (W:World),Ext w0 W->∀ (P:Option Addr) (c:Nat) (x:List Int),RdI W P x->x.length<=1000->Calls Tryz.prog 41 #[.agg #[.int .i64 kind,v1,v2,v3,v4,v5],.slice P x.length c] W fun e w'=>e=.returned (.tuple #[.int .i64 (CG x).1,.int .i64 (CG x).2])/\Ext W w')
  (hL:L<=100) (hgs:w0.heap.size<=gs) (w:World) (A:Option Addr) (c a b:Nat) (x:List Int) (hX:Ext w0 w) (hB:Blk w gs 127 #[.int .i64 kind,v1,v2,v3,v4,v5,.slice A L c,.int .i64 (CG x).1]) (hO:OwI w w0.heap.size A c x) (hx:x.length=L) (h0:(CG x).2=0) (hab:a<b) (hb:b<L) :
  Calls Tryz.prog 132 #[.pointer (some ⟨gs,0,none⟩),.int .i64 (a:Int),.int .i64 (b:Int)] w (U7 CG kind v1 v2 v3 v4 v5 w0.heap.size gs L w):=by
 obtain⟨cx,hcx⟩:∃ cx,(CG x).1=cx:=⟨_,rfl⟩;rw[hcx] at hB;have CL:=Yw A c x w hO.read (by omega);rw[hx] at CL;have zg:=hB.lt;have zw:=hX.size;have c6:=hB.c6;replace CL:=Hd CL;replace VC:=Hd VC;replace hB:=Hd hB;replace hO:=Hd hO;replace h0:=Hd h0;replace hcx:=Hd hcx;replace hX:=Hd hX;go_enter Tryz.func132,Tryz.ntmps132;go_wp2_with (fail);refine CL.out.mono ?_;rintro e w2 ⟨A5,c5,rfl,o5,x2⟩;have B2:=Hd (hB.out.ext x2);have O2:=Hd (hO.out.ext x2);have X2:=Hd (hX.out.tr x2);have M2:Hid (Mod (fun z=>z=gs) w w2):=Mod.of_ext x2;have c0:=B2.out.c0;obtain⟨g5,rfl,hg5⟩:∃ g5,A5=some ⟨g5,0,none⟩/\w.heap.size<=g5:=by
  rcases o5.cases with⟨_,_,h⟩ | ⟨g,cur,h1,h2,_⟩
  ·rw[h] at hx;simp at hx;omega
  ·exact⟨g,h1,h2⟩
 have lc5:=o5.le;rw[hx] at lc5;have o5':=Hd (o5.more (base':=w0.heap.size) zw);clear o5 x2 c6 CL;have NEXT:∀ (w3:World) (ys:List Int),ys.length=L->OwI w3 w0.heap.size (some ⟨g5,0,none⟩) c5 ys->Mod (fun z=>z=g5) w2 w3->Hid (Ext w0 w3)/\Hid (Mod (fun z=>z=gs) w w3)/\Hid (Blk w3 gs 127 #[.int .i64 kind,v1,v2,v3,v4,v5,.slice A L c,.int .i64 cx])/\Hid (OwI w3 w0.heap.size A c x):=fun w3 ys _ _ hm=>by
  have z9:=M2.out.size;refine⟨X2.out.mod hm fun k hk h=>by omega,M2.out.tr' hm fun k hk h=>by omega,B2.out.mod hm (by omega),O2.out.mod hm fun k hk h=>?_⟩;have h9:=(hO.out.lt k hk).2;omega
 replace NEXT:=Hd NEXT
 by_cases k3:kind=3
 ·subst k3
  have RV:=Hd (Zcm g5 a (b+1-a) (c5-a) c5 w0.heap.size x w2 o5'.out (by omega) (by omega));go_wp2_with (fail);refine RV.out.mono ?_;rintro e w3 ⟨rfl,⟨ys,ly,oy⟩,m3⟩;rw[hx] at ly;obtain⟨X3,M3,B3,O3⟩:=NEXT.out w3 ys ly oy m3;replace oy:=Hd oy;clear m3 RV NEXT B2 O2 X2 M2 c0 o5';have c0:=B3.out.c0;have c1:=B3.out.c1;have c2:=B3.out.c2;have c3:=B3.out.c3;have c4:=B3.out.c4;have c9:=B3.out.c5;have VY:=Hd (fun(W:World) (y:Ext w3 W)=>VC.out W (X3.out.tr y) (some ⟨g5,0,none⟩) c5 ys (oy.out.read.ext y) (by omega));rw[ly] at VY;obtain⟨cy,hcy⟩:∃ cy,Hid ((CG ys).1=cy):=⟨_,rfl⟩;obtain⟨ey,hey⟩:∃ ey,Hid ((CG ys).2=ey):=⟨_,rfl⟩;rw[hcy.out,hey.out] at VY;go_wp2_with (fail);refine(VY.out _ (by(repeat (first | assumption | exact Ext.rf _ | apply Ext.drew | apply Ext.drewN | apply Ext.alloc)))).mono ?_;rintro e w4 ⟨rfl,x4⟩;have y4:=Ext.tr (a:=w3) (by(repeat (first | assumption | exact Ext.rf _ | apply Ext.drew | apply Ext.drewN | apply Ext.alloc))) x4;have B4:=Hd (B3.out.ext y4);have M4:=Hd (M3.out.ext y4);have O4:=Hd (O3.out.ext y4);have oy4:=Hd (oy.out.ext y4);have d7:=B4.out.c7;have POLD:Hid (U7 CG 3 v1 v2 v3 v4 v5 w0.heap.size gs L w (.returned (.bool false)) w4):=Hd ⟨false,A,c,x,rfl,by rw[hcx.out];exact B4.out,O4.out,hx,h0.out,M4.out⟩;clear x4 y4 c0 c1 c2 c3 c4 c9 VY B3 M3 O3 X3 oy
  by_cases he:ey=0
  ·subst he
   by_cases hlt:cx<=cy
   ·have g1:decide (cx<=cy)=true:=decide_eq_true hlt
    go_wp2_with (fail);go_ret;exact POLD.out
   ·have g1:decide (cx<=cy)=false:=decide_eq_false hlt
    have d6:=B4.out.c6;have f6:=B4.out.free 6;have f7:=B4.out.free 7;have PNEW:Hid (U7 CG 3 v1 v2 v3 v4 v5 w0.heap.size gs L w (.returned (.bool true)) ((w4.setCell ⟨gs,6,none⟩ (.slice (some ⟨g5,0,none⟩) L c5)).setCell ⟨gs,7,none⟩ (.int .i64 cy))) :=
     Hd ⟨true,some ⟨g5,0,none⟩,c5,ys,rfl,by rw[hcy.out];exact(B4.out.set 6 _).set 7 _,(oy4.out.far B4.out (by decide) 6 _).far (B4.out.set 6 _) (by decide) 7 _,ly,hey.out,(M4.out.set (.inl rfl) _).set (.inl rfl) _⟩
    clear POLD B4 M4 O4 oy4;go_wp2_with (fail);go_ret;exact PNEW.out
  ·have e1:(ey != 0)=true:=by simpa using he
   clear he;go_wp2_with (fail);go_ret;exact POLD.out
 ·have e3:(kind==3)=false:=by simpa using k3
  obtain⟨xa,ca,fa,_,hxa,hs1⟩:=o5'.out.cell (k:=a) (by omega);obtain⟨xb,cb,fb,_,hxb,_⟩:=o5'.out.cell (k:=b) (by omega);obtain⟨_,_,_,_,_,hs2⟩:=(hs1.out xb).cell (k:=b) (by rw[List.length_set];omega);have hne:a≠b:=by omega
  clear hxa hxb;have aL:(a:Int)<(L:Int):=by omega
  have bL:(b:Int)<(L:Int):=by omega
  go_upto_region 5 with(go_region);have oy0:=(hs2.out xa).ext ((Ext.rf _).drew);have m3:Mod (fun z=>z=g5) w2 ((w2.setCell ⟨g5,a,none⟩ (.int .i64 xb)).setCell ⟨g5,b,none⟩ (.int .i64 xa)).drew:=(((Mod.rf (S:=fun z=>z=g5) w2).set (p:=⟨g5,a,none⟩) (.inl rfl) _).set (p:=⟨g5,b,none⟩) (.inl rfl) _).drew;obtain⟨ys,hys⟩:∃ ys,(x.set a xb).set b xa=ys:=⟨_,rfl⟩;have ly:ys.length=L:=by rw[<-hys,List.length_set,List.length_set];exact hx
  rw[hys] at oy0;clear hys hs1 hs2 ca fa;generalize ((w2.setCell ⟨g5,a,none⟩ (.int .i64 xb)).setCell ⟨g5,b,none⟩ (.int .i64 xa)).drew=w3 at *;obtain⟨X3,M3,B3,O3⟩:=NEXT.out w3 ys ly oy0 m3;have oy:=Hd oy0;clear oy0 m3 NEXT B2 O2 X2 M2 c0 o5' cb fb;have c0:=B3.out.c0;have c1:=B3.out.c1;have c2:=B3.out.c2;have c3:=B3.out.c3;have c4:=B3.out.c4;have c9:=B3.out.c5;have VY:=Hd (fun(W:World) (y:Ext w3 W)=>VC.out W (X3.out.tr y) (some ⟨g5,0,none⟩) c5 ys (oy.out.read.ext y) (by omega));rw[ly] at VY;obtain⟨cy,hcy⟩:∃ cy,Hid ((CG ys).1=cy):=⟨_,rfl⟩;obtain⟨ey,hey⟩:∃ ey,Hid ((CG ys).2=ey):=⟨_,rfl⟩;rw[hcy.out,hey.out] at VY;go_wp2_with (fail);refine(VY.out _ (by(repeat (first | assumption | exact Ext.rf _ | apply Ext.drew | apply Ext.drewN | apply Ext.alloc)))).mono ?_;rintro e w4 ⟨rfl,x4⟩;have y4:=Ext.tr (a:=w3) (by(repeat (first | assumption | exact Ext.rf _ | apply Ext.drew | apply Ext.drewN | apply Ext.alloc))) x4;have B4:=Hd (B3.out.ext y4);have M4:=Hd (M3.out.ext y4);have O4:=Hd (O3.out.ext y4);have oy4:=Hd (oy.out.ext y4);have d7:=B4.out.c7;have POLD:Hid (U7 CG kind v1 v2 v3 v4 v5 w0.heap.size gs L w (.returned (.bool false)) w4):=Hd ⟨false,A,c,x,rfl,by rw[hcx.out];exact B4.out,O4.out,hx,h0.out,M4.out⟩;clear x4 y4 c0 c1 c2 c3 c4 c9 VY B3 M3 O3 X3 oy
  by_cases he:ey=0
  ·subst he
   by_cases hlt:cx<=cy
   ·have g1:decide (cx<=cy)=true:=decide_eq_true hlt
    go_wp2_with (fail);go_ret;exact POLD.out
   ·have g1:decide (cx<=cy)=false:=decide_eq_false hlt
    have d6:=B4.out.c6;have f6:=B4.out.free 6;have f7:=B4.out.free 7;have PNEW:Hid (U7 CG kind v1 v2 v3 v4 v5 w0.heap.size gs L w (.returned (.bool true)) ((w4.setCell ⟨gs,6,none⟩ (.slice (some ⟨g5,0,none⟩) L c5)).setCell ⟨gs,7,none⟩ (.int .i64 cy))) :=
     Hd ⟨true,some ⟨g5,0,none⟩,c5,ys,rfl,by rw[hcy.out];exact(B4.out.set 6 _).set 7 _,(oy4.out.far B4.out (by decide) 6 _).far (B4.out.set 6 _) (by decide) 7 _,ly,hey.out,(M4.out.set (.inl rfl) _).set (.inl rfl) _⟩
    clear POLD B4 M4 O4 oy4;go_wp2_with (fail);go_ret;exact PNEW.out
  ·have e1:(ey != 0)=true:=by simpa using he
   clear he;go_wp2_with (fail);go_ret;exact POLD.out
end Go.Proofs.YtmojhhlcocjoaaaGreatDoor
