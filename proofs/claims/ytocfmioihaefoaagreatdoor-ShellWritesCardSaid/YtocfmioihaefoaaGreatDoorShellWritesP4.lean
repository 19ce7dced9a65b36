/- parts, packed by a program -/
import Derived.Test.YtocfmioihaefoaaGreatDoorShellWritesP3
set_option maxRecDepth 100000
set_option maxHeartbeats 16000000
set_option linter.all false
namespace Go.Proofs.YtocfmioihaefoaaGreatDoor
section
open Go.RowKit Go.ChangeShapes Go.WideShapes Go.ChangeAt Go.Deep
theorem Zbp (l:Txt) : if (Yg l=l.length) then Lib.indexByte l 10=-1 else Lib.indexByte l 10=Yg l:=by
 induction l with
 | nil=>simp[Yg,Lib.indexByte]
 | cons b l ih =>
  by_cases hb:b=10
  ·subst hb
   have h0:Yg (10::l)=0:=by unfold Yg;rw[List.takeWhile_cons_of_neg (by decide)];rfl
   rw[h0,if_neg (by simp)];simp[Lib.indexByte]
  ·have h1:Yg (b::l)=Yg l+1:=by unfold Yg;rw[List.takeWhile_cons_of_pos (by simp[Zd7,hb])];rfl
   have e1:(b==10)=false:=by simpa using hb
   rw[h1,List.length_cons];unfold Lib.indexByte;rw[e1]
   by_cases h:Yg l=l.length
   ·rw[if_pos h] at ih
    rw[if_pos (by omega),ih]
    rfl
   ·rw[if_neg h] at ih
    have e2:((Yg l:Int)==-1)=false:=by rw[beq_eq_false_iff_ne];omega
    rw[if_neg (by omega),ih,e2];simp
def Zef (t:Tok) : List Value:=[.int .i64 t.kind,.string ⟨t.text.toArray⟩,.int .i64 t.num,.int .i64 t.at_]
def YS (l:List Tok) : List Value:=l.flatMap Zef
theorem Ql (l:List Tok)(t:Tok) : YS (l++[t])=YS l++Zef t:=by simp[YS]
theorem Qm : (Tryz.prog.info? 165).map (fun i=>(i.zero,i.size,i.bytes))=some (some (.agg #[.int .i64 0,.string ⟨#[]⟩,.int .i64 0,.int .i64 0]),4,40):=by kernel_rfl
abbrev TS : List TypeId:=[163,165]
def ScR (w:World)(base g:Nat)(s:Txt)(a:Nat)(l:List Tok) : Prop:=∃ L c,ScB w g s a L l.length c/\base<=g/\OwV w base 165 4 L l.length c (YS l)
theorem ScR.ext {w w':World}{base g a:Nat}{s:Txt}{l:List Tok}(h:ScR w base g s a l)(x:Ext w w') : ScR w' base g s a l:=by
 obtain⟨L,c,h1,h2,h3⟩:=h;exact⟨L,c,Blk.ext h1 x,h2,h3.ext x⟩
theorem ScR.set {w:World}{base g a:Nat}{s:Txt}{l:List Tok}(h:ScR w base g s a l)(b:Nat) : ScR (w.setCell ⟨g,1,none⟩ (.int .i64 (b:Int))) base g s b l/\ModT base TS w (w.setCell ⟨g,1,none⟩ (.int .i64 (b:Int))):=by
 obtain⟨L,c,h1,h2,h3⟩:=h;have M:=ModT.set (ts:=TS) (base:=base) w h1 (by simp) h2 1 (.int .i64 (b:Int));have M1:=ModT.set (ts:=[163]) (base:=base) w h1 (by simp) h2 1 (.int .i64 (b:Int));exact⟨⟨L,c,Blk.set h1 1 _,h2,h3.modT M1 (by decide)⟩,M⟩
def XJ (base g:Nat)(s:Txt)(r:Nat×Int×List Tok)(l:List Tok)(w:World)(e:Ending)(w':World) : Prop:=e=.returned (.int .i64 r.2.1)/\ScR w' base g s r.1 (l++r.2.2)/\ModT base TS w w'
theorem Zbq (base g:Nat)(s:Txt)(a:Nat)(l:List Tok)(w:World)(H:ScR w base g s a l)(ha:a<=s.length)(hs:s.length<=70000) :
  Calls Tryz.prog 142 #[.pointer (some ⟨g,0,none⟩)] w fun e w'=>e=.returned (.tuple #[])/\ScR w' base g s (a+Yg (s.drop a)) l/\ModT base TS w w':=by
 have HS:=Hd (fun(W:World) (x:Ext w W) (b:Nat)=>(H.ext x).set b);obtain⟨L,c,h1,h2,h3⟩:=H;have c0:w.cell? ⟨g,0,none⟩=some (.string ⟨s.toArray⟩):=Blk.cell h1 0;have c1:=Blk.c1 h1;have f1:=Blk.free h1 1;have zg:=Blk.lt h1;have hsz:=ZS s;have hx:=Xu s a;rw[hsz] at hx;have IX:=fun(W:World)=>Any.strings_IndexByte Zgo ⟨(s.drop a).toArray⟩ 10 W
 have hr:=Zbp (s.drop a);have hdl:(s.drop a).length=s.length-a:=List.length_drop;rw[hdl] at hr;have e10:(10:Int).toNat.toUInt8=10:=rfl;simp only[e10] at IX;have ltn:Yg (s.drop a)<=s.length-a:=by rw[<-hdl];exact WY _
 generalize Lib.indexByte (s.drop a) 10=ix at *;generalize Yg (s.drop a)=rn at *;replace IX:=Hd IX;clear h1 h3 hdl;have g0:(0:Int)<=(a:Int):=by omega
 have g1:(a:Int)<=(s.length:Int):=by omega
 go_enter Tryz.func142,Tryz.ntmps142;go_upto_region 0 with(fail);refine wp_region_any (by kernel_rfl) ?_
 change wpAny _ _ _ _ _ _ _ (World.drew _)
 refine Za 0 (.move (.tmp 0)) 161 (some 3) rfl (by kernel_rfl) Hq (by intro _;go_simp;try rfl) ?_;simp only[lay];refine Za 1 (.nilCheck (.tmp 3)) 0 (some 4) rfl (by kernel_rfl) Hq (by intro _;go_simp;try rfl) ?_;simp only[lay];refine Za 2 (.fieldAddr 163 (.tmp 4) 0) 0 (some 5) rfl (by kernel_rfl) Hq (by intro _;go_simp;try rfl) ?_;simp only[lay];refine Za 4 (.move (.tmp 0)) 161 (some 7) rfl (by kernel_rfl) Hq (by intro _;go_simp;try rfl) ?_;simp only[lay];refine Za 5 (.nilCheck (.tmp 7)) 0 (some 8) rfl (by kernel_rfl) Hq (by intro _;go_simp;try rfl) ?_;simp only[lay];refine Za 6 (.fieldAddr 163 (.tmp 8) 1) 0 (some 9) rfl (by kernel_rfl) Hq (by intro _;go_simp;try rfl) ?_;simp only[lay];refine Zm (n:=3) [(3,some 6),(7,some 10)] (fun | 3=>.string ⟨s.toArray⟩ | 7=>.int .i64 (a:Int) | _=>undef) #[true,true,true,true,true,true,true,true,false,false,false] (by decide +kernel) ?_ ?_
 ·intro pS hpm uS hD K hK
  simp only[List.mem_cons,List.not_mem_nil,or_false] at hpm;rcases hpm with rfl | rfl
  ·exact Ze (T:=9) (x:=Operand.tmp 5) (t:=9) (d:=some 6) rfl (.pointer (some ⟨g,0,none⟩)) (by kernel_rfl) (.string ⟨s.toArray⟩) (by go_simp) hK
  ·exact Ze (T:=3) (x:=Operand.tmp 9) (t:=3) (d:=some 10) rfl (.pointer (some ⟨g,1,none⟩)) (by kernel_rfl) (.int .i64 (a:Int)) (by go_simp) hK
 simp only[Zc,Act.put,List.setIfInBounds_toArray,List.set_cons_zero,List.set_cons_succ];refine Zu (i:=8) (op:=Op.slice 9 (Operand.tmp 6) (some (Operand.tmp 10)) none none) (t:=9) (d:=some 11) (v:=.string ⟨(s.drop a).toArray⟩) rfl (by decide +kernel) (by decide +kernel) (by decide +kernel) Hq ?_ ?_
 ·(intro _;unfold Zj;go_simp;skip)
 try simp only[lay]
 refine Zd 9 (by decide +kernel) (Zi (f:=213) (xs:=#[Operand.tmp 11,Operand.const (Value.int IntKind.u8 10)]) (ts:=#[9,5]) (t:=3) (d:=some 12) rfl #[.string ⟨(s.drop a).toArray⟩,.int .u8 10] (by go_simp) (by kernel_rfl) _ (IX.out _) ?_);rintro e w1 ⟨rfl,rfl⟩;refine⟨_,rfl,?_⟩
 try simp only[lay]
 refine Za 10 (.assign (.tmp 12)) 3 (some 2) rfl (by kernel_rfl) Hq (by intro _;go_simp;try rfl) ?_;simp only[lay];refine wpAny_done (by kernel_rfl) ?_ _;go_simp;have FIN:Hid (∀ v:Int,v=((a+rn:Nat):Int)->ScR ((w.setCell ⟨g,1,none⟩ (.int .i64 v)).drew) base g s (a+rn) l/\ModT base TS w ((w.setCell ⟨g,1,none⟩ (.int .i64 v)).drew)):=Hd fun v hv=>by
  subst hv;obtain⟨q1,q2⟩:=HS.out w (Ext.rf _) (a+rn);exact⟨q1.ext ((Ext.rf _).drew),q2.tr (ModT.of_ext ((Ext.rf _).drew))⟩
 by_cases h:rn=s.length-a
 ·rw[if_pos h] at hr
  subst hr;have e1:(-1:Int)<0:=by omega
  replace h:=Hd h;go_wp2_with (fail);obtain⟨q1,q2⟩:=FIN.out (s.length:Int) (by have:=h.out;omega);exact bodyPost_ret (v:=.tuple #[]) (by simp[results,Tryz.results142,go_sem]) rfl ⟨rfl,q1,q2⟩
 ·rw[if_neg h] at hr
  subst hr;have e1:¬(rn:Int)<0:=by omega
  clear h;go_wp2_with (fail);go_end0;obtain⟨q1,q2⟩:=FIN.out ((a:Int)+(rn:Int)) (by omega);exact⟨rfl,q1,q2⟩
theorem Zcs {w3:World}{base g a:Nat}{s:Txt}{l:List Tok}{L:Option Addr}{c:Nat}(hB:ScB w3 g s a L l.length c)(hg:base<=g)(ho:OwV w3 base 165 4 L l.length c (YS l))(t:Tok)(z:Nat)(hz:Blk w3 z 165 #[.int .i64 t.kind,.string ⟨t.text.toArray⟩,.int .i64 t.num,.int .i64 t.at_])(hb:base<=w3.heap.size)(hl:l.length<=100000) :
  ∃ A4 c4 w4,(Builtin.append_ #[97,97] 97 #[.slice L l.length c,.slice (some ⟨z,0,none⟩) 1 1]).run Tryz.prog w3=.ok (.slice A4 (l.length+1) c4) w4/\w4.cell? ⟨g,2,none⟩=some (.slice L l.length c)/\w4.frozen? ⟨g,2,none⟩=false /\
   Hid (ScR (w4.setCell ⟨g,2,none⟩ (.slice A4 (l.length+1) c4)) base g s a (l++[t]))/\Hid (ModT base TS w3 (w4.setCell ⟨g,2,none⟩ (.slice A4 (l.length+1) c4))):=by
 obtain⟨i0,hi,hz0,hz1,hz2⟩:=info_parts Qm;obtain⟨A4,c4,w4,hrun,o4,g4,_⟩:=Wa w3 (e:=165) Tryz.underlying97 hi hz0 hz1 hz2 (by simp[Value.cells]) (by omega) base 97 L l.length c (YS l) (some ⟨z,0,none⟩) 1 1 [.int .i64 t.kind,.string ⟨t.text.toArray⟩,.int .i64 t.num,.int .i64 t.at_] ho ((RdV.blk hz).rdC) (by simp) (by simp[Value.oneCell']) (by simp only[maxLen];omega) (by omega) hb;have M4:=ho.grownT g4;have hb4:ScB w4 g s a L l.length c:=Blk.modT hB M4 (by decide);have M5:ModT base [163] w4 (w4.setCell ⟨g,2,none⟩ (.slice A4 (l.length+1) c4)):=ModT.set w4 hb4 (by simp) hg 2 _;have hlen:(l++[t]).length=l.length+1:=by simp
 refine⟨A4,c4,w4,hrun,Blk.cell hb4 2,Blk.free hb4 2,Hd ⟨A4,c4,?_,hg,?_⟩,Hd ((M4.more (Nat.le_refl _) (by simp)).tr (M5.more (Nat.le_refl _) (by simp)))⟩
 ·rw[hlen]
  exact Blk.set hb4 2 _
 ·rw[hlen,Ql]
  exact o4.modT M5 (by decide)
theorem Qn {p:UInt8->Bool} : ∀ (k:Nat) (s:Txt),(∀ j,j<k->∀ c,s[j]?=some c->p c=true)->k<=s.length->(∀ c,s[k]?=some c->p c=false)->(s.takeWhile p).length=k
 | 0,[],_,_,_=>rfl
 | 0,b::s,_,_,h=>by rw[List.takeWhile_cons_of_neg (by simp[h b rfl])];rfl
 | k+1,[],_,h,_=>by simp at h
 | k+1,b::s,h1,h2,h3=>by
  rw[List.takeWhile_cons_of_pos (h1 0 (by omega) b rfl),List.length_cons,Qn k s (fun j hj c hc=>h1 (j+1) (by omega) c (by simpa using hc)) (by simpa using h2) (fun c hc=>h3 c (by simpa using hc))]
theorem Zbr (base g:Nat)(s:Txt)(a:Nat)(l:List Tok)(w:World)(H:ScR w base g s a l)(hb:base<=w.heap.size)(hl:l.length<=70000)(ha:a<s.length)(hs:s.length<=70000)(w0:World)(hU:UT w0)(X0:Ext w0 w)(h0:w0.heap.size<=base)(h2:Zv s a=2) :
  Calls Tryz.prog 144 #[.pointer (some ⟨g,0,none⟩)] w (XJ base g s (Yo s a) l w):=by
 have RA:=Hd (fun(W:World)=>Vl s a W (by omega) hs);have HS:=Hd (fun(W:World) (lq:List Tok) (h:ScR W base g s a lq) (b:Nat)=>h.set b);have KQ:=Hd (fun(W:World) (b:Nat) (lq:List Tok) (hB:b<=s.length) (hU:UT W) (h:ScR W base g s b lq)=>(show Calls Tryz.prog 141 #[.pointer (some ⟨g,0,none⟩)] W fun e w'=>e=.returned (.int .i64 (Zv s b))/\Ext W w' by obtain⟨L,c,q1,q2,q3⟩:=h;exact VV g s b L lq.length c W q1 hB hs hU));have OB:(ZJ s a).2.2≠0->Yo s a=(a,(ZJ s a).2.2,[]):=fun h=>by unfold Yo;rw[h2,if_neg (by decide),if_neg (by decide),if_neg (by decide),if_pos rfl,if_pos h]
 have OG:(ZJ s a).2.2=0->Yo s a=((ZJ s a).2.1.toNat,if Zv s (ZJ s a).2.1.toNat=3 then 2 else 0,[⟨2,[],(ZJ s a).1,a⟩]):=fun h=>by unfold Yo;rw[h2,if_neg (by decide),if_neg (by decide),if_neg (by decide),if_pos rfl,if_neg (by simp[h])]
 have RB:(ZJ s a).2.2=0->∃ nx:Nat,(ZJ s a).2.1=nx/\nx<=s.length:=fun h=>by
  have h8:(YB (Yr (s.drop a))).2.2=0:=by simpa [ZJ] using h
  obtain⟨q1,q2⟩:=Q7 h8;have h6:=Vt (s.drop a);rw[List.length_drop] at h6;refine⟨a+(Yr (s.drop a)).length,?_,by omega⟩;unfold ZJ;simp only;rw[if_pos h8,q2];simp
 have HH:=Hd H;obtain⟨L,c,h1,hg,h3⟩:=H;have c0:w.cell? ⟨g,0,none⟩=some (.string ⟨s.toArray⟩):=Blk.cell h1 0;have c1:=Blk.c1 h1;have c2:=Blk.c2 h1;have zg:=Blk.lt h1;have TA:=Hd (fun(W:World) (x:Ext w W) (t:Tok) (z:Nat) (hz:Blk W z 165 #[.int .i64 t.kind,.string ⟨t.text.toArray⟩,.int .i64 t.num,.int .i64 t.at_])=>Zcs (Blk.ext h1 x) hg (h3.ext x) t z hz (by have:=x.size;omega) (by omega));generalize ZJ s a=RR at *;obtain⟨rv,rn,re⟩:=RR;simp only at OB OG RB;clear h1 h3;obtain⟨ln,hln⟩:∃ ln,l.length=ln:=⟨_,rfl⟩;rw[hln] at c2 TA hl;replace hln:=Hd hln;unfold XJ
 by_cases he:re=0
 ·subst he
  obtain⟨nx,rfl,hnx⟩:=RB rfl;rw[OG rfl];simp only[Int.toNat_natCast];obtain⟨er,her⟩:∃ er:Int,Hid ((if Zv s nx=3 then(2:Int) else 0)=er):=⟨_,Hd rfl⟩;rw[her.out];clear OB OG RB h2;go_enter Tryz.func144,Tryz.ntmps144;go_upto_region 1 with(fail);refine wp_region_any (by kernel_rfl) ?_
  change wpAny _ _ _ _ _ _ _ (World.drew _)
  refine Za 0 (.move (.tmp 0)) 161 (some 7) rfl (by kernel_rfl) Hq (by intro _;go_simp;try rfl) ?_;simp only[lay];refine Za 1 (.nilCheck (.tmp 7)) 0 (some 8) rfl (by kernel_rfl) Hq (by intro _;go_simp;try rfl) ?_;simp only[lay];refine Za 2 (.fieldAddr 163 (.tmp 8) 0) 0 (some 9) rfl (by kernel_rfl) Hq (by intro _;go_simp;try rfl) ?_;simp only[lay];refine Za 4 (.move (.tmp 0)) 161 (some 11) rfl (by kernel_rfl) Hq (by intro _;go_simp;try rfl) ?_;simp only[lay];refine Za 5 (.nilCheck (.tmp 11)) 0 (some 12) rfl (by kernel_rfl) Hq (by intro _;go_simp;try rfl) ?_;simp only[lay];refine Za 6 (.fieldAddr 163 (.tmp 12) 1) 0 (some 13) rfl (by kernel_rfl) Hq (by intro _;go_simp;try rfl) ?_;simp only[lay];refine Zm (n:=8) [(3,some 10),(7,some 14)] (fun | 3=>.string ⟨s.toArray⟩ | 7=>.int .i64 (a:Int) | _=>undef) #[true,true,true,true,true,true,true,true,false,false,false,false,false,false,false,false] (by decide +kernel) ?_ ?_
  ·intro pS hpm uS hD K hK
   simp only[List.mem_cons,List.not_mem_nil,or_false] at hpm;rcases hpm with rfl | rfl
   ·exact Ze (T:=9) (x:=Operand.tmp 9) (t:=9) (d:=some 10) rfl (.pointer (some ⟨g,0,none⟩)) (by kernel_rfl) (.string ⟨s.toArray⟩) (by go_simp) hK
   ·exact Ze (T:=3) (x:=Operand.tmp 13) (t:=3) (d:=some 14) rfl (.pointer (some ⟨g,1,none⟩)) (by kernel_rfl) (.int .i64 (a:Int)) (by go_simp) hK
  simp only[Zc,Act.put,List.setIfInBounds_toArray,List.set_cons_zero,List.set_cons_succ];refine Zd 8 (by decide +kernel) (Zi (f:=139) (xs:=#[Operand.tmp 10,Operand.tmp 14]) (ts:=#[9,3]) (t:=95) (d:=some 15) rfl #[.string ⟨s.toArray⟩,.int .i64 (a:Int)] (by go_simp) (by kernel_rfl) _ (RA.out _) ?_);rintro e w1 ⟨rfl,x1⟩;have X1:=Hd (Ext.tr (a:=w) XI x1);clear x1;refine⟨_,rfl,?_⟩
  try simp only[lay]
  refine Za 9 (.move (.tmp 15)) 95 (some 6) rfl (by kernel_rfl) Hq (by intro _;go_simp;try rfl) ?_;simp only[lay];refine Za 10 (.extract (.tmp 6) 0) 3 (some 16) rfl (by kernel_rfl) Hq (by intro _;go_simp;try rfl) ?_;simp only[lay];refine Za 11 (.extract (.tmp 6) 1) 3 (some 17) rfl (by kernel_rfl) Hq (by intro _;go_simp;try rfl) ?_;simp only[lay];refine Za 12 (.extract (.tmp 6) 2) 27 (some 18) rfl (by kernel_rfl) Hq (by intro _;go_simp;try rfl) ?_;simp only[lay];refine Za 13 (.assign (.tmp 16)) 3 (some 3) rfl (by kernel_rfl) Hq (by intro _;go_simp;try rfl) ?_;simp only[lay];refine Za 14 (.assign (.tmp 17)) 3 (some 4) rfl (by kernel_rfl) Hq (by intro _;go_simp;try rfl) ?_;simp only[lay];refine Za 15 (.assign (.tmp 18)) 27 (some 5) rfl (by kernel_rfl) Hq (by intro _;go_simp;try rfl) ?_;simp only[lay];refine wpAny_done (by kernel_rfl) ?_ _;go_simp;have d1:=Zb X1.out zg c1;have d2:=Zb X1.out zg c2;have zg1:g<w1.heap.size:=by have:=X1.out.size;omega
  clear c0 c1 c2;go_upto_region 4 with(fail);refine wp_region_any (by kernel_rfl) ?_
  change wpAny _ _ _ _ _ _ _ (World.drew _)
  refine Za 0 (.move (.tmp 0)) 161 (some 22) rfl (by kernel_rfl) Hq (by intro _;go_simp;try rfl) ?_;simp only[lay];refine Za 1 (.move (.tmp 0)) 161 (some 23) rfl (by kernel_rfl) Hq (by intro _;go_simp;try rfl) ?_;simp only[lay];refine Za 2 (.nilCheck (.tmp 23)) 0 (some 24) rfl (by kernel_rfl) Hq (by intro _;go_simp;try rfl) ?_;simp only[lay];refine Za 3 (.fieldAddr 163 (.tmp 24) 2) 0 (some 25) rfl (by kernel_rfl) Hq (by intro _;go_simp;try rfl) ?_;simp only[lay];refine Za 5 (.move (.tmp 3)) 3 (some 27) rfl (by kernel_rfl) Hq (by intro _;go_simp;try rfl) ?_;simp only[lay];refine Za 6 (.move (.tmp 0)) 161 (some 28) rfl (by kernel_rfl) Hq (by intro _;go_simp;try rfl) ?_;simp only[lay];refine Za 7 (.nilCheck (.tmp 28)) 0 (some 29) rfl (by kernel_rfl) Hq (by intro _;go_simp;try rfl) ?_;simp only[lay];refine Za 8 (.fieldAddr 163 (.tmp 29) 1) 0 (some 30) rfl (by kernel_rfl) Hq (by intro _;go_simp;try rfl) ?_;simp only[lay];refine Zh (n:=4) [(4,some 26),(9,some 31),(10,some 32),(11,some 33)] (Ext w1) (VF (fun | 4=>some (.slice L ln c) | 9=>some (.int .i64 (a:Int)) | 10=>some (.agg #[.int .i64 2,.string ⟨#[]⟩,.int .i64 rv,.int .i64 (a:Int)]) | _=>none) (fun i v W=>(i=11->∃ z,v=.slice (some ⟨z,0,none⟩) 1 1/\Blk W z 165 #[.int .i64 2,.string ⟨#[]⟩,.int .i64 rv,.int .i64 (a:Int)]))) Ext #[true,true,true,true,true,true,true,true,true,true,true,true,false,false,false,false] (by decide +kernel) (VF.stab ?_) ?_ ?_ (by first | exact(Ext.rf _).drew | exact Ext.rf _)
  ·intro j v W W' _ gz hx
   have g0:=gz;exact fun h=>(g0 h).imp fun z hz=>⟨hz.1,hz.2.ext hx⟩
  ·intro pS hpm uS wS hRW hD K hK
   simp only[List.mem_cons,List.not_mem_nil,or_false] at hpm;rcases hpm with rfl | rfl | rfl | rfl
   ·( have rX:=Zb hRW zg1 d2;exact Ze (T:=97) (x:=Operand.tmp 25) (t:=97) (d:=some 26) rfl (.pointer (some ⟨g,2,none⟩)) (by kernel_rfl) (.slice L ln c) (by go_simp) (hK _ _ (VF.mk rfl) hRW (Ext.rf _)))
   ·( have rX:=Zb hRW zg1 d1;exact Ze (T:=3) (x:=Operand.tmp 30) (t:=3) (d:=some 31) rfl (.pointer (some ⟨g,1,none⟩)) (by kernel_rfl) (.int .i64 (a:Int)) (by go_simp) (hK _ _ (VF.mk rfl) hRW (Ext.rf _)))
   ·(have e9:uS 9=.int .i64 (a:Int):=(hD 9 (Zg (by kernel_rfl))).k rfl;exact Zl (op:=Op.build 165 #[(0,Operand.const (Value.int IntKind.i64 2)),(2,Operand.tmp 27),(3,Operand.tmp 31)]) (t:=165) (d:=some 32) rfl (.agg #[.int .i64 2,.string ⟨#[]⟩,.int .i64 rv,.int .i64 (a:Int)]) (by simp only[Zc,Act.put,List.setIfInBounds_toArray,List.set_cons_zero,List.set_cons_succ];unfold Zj;(try go_simp);(try simp only[e9]);(try go_simp);(try rfl);(try (exact IntWalk.i64_in _ (by omega)))) (hK _ _ (VF.mk rfl) hRW (Ext.rf _)))
   ·(have e10:uS 10=.agg #[.int .i64 2,.string ⟨#[]⟩,.int .i64 rv,.int .i64 (a:Int)]:=(hD 10 (Zg (by kernel_rfl))).k rfl;exact Zl (op:=Op.buildSlice 97 1 #[(0,Operand.tmp 32)]) (t:=97) (d:=some 33) rfl _ (by simp only[Zc,Act.put,List.setIfInBounds_toArray,List.set_cons_zero,List.set_cons_succ];unfold Zj;(try go_simp);(try simp only[e10]);(try go_simp);(try rfl)) (hK _ _ (VF.mg rfl (fun _=>⟨_,rfl,.new rfl⟩)) (hRW.alloc _) ((Ext.rf _).alloc _)))
  intro u w3 hR3 hV;have h4:=(hV (4,some 26) (by simp)).k rfl;have h9:=(hV (9,some 31) (by simp)).k rfl;have h10:=(hV (10,some 32) (by simp)).k rfl;obtain⟨qz,h11,qb⟩:=((hV (11,some 33) (by simp)).g rfl) rfl;simp only[Zc,h4,h9,h10,h11];clear hV h4 h9 h10 h11
  try simp only[lay]
  obtain⟨A4,c4,w4,hrun,c4',f4,R4,M4⟩:=TA.out w3 (X1.out.tr hR3) ⟨2,[],rv,a⟩ qz qb;have MM:=Hd ((ModT.of_ext (X1.out.tr hR3)).tr M4.out);have X3:=Hd (X1.out.tr hR3);clear hR3 qb;refine Zd 12 (by decide +kernel) (Vh rfl (.slice L ln c) (.slice (some ⟨qz,0,none⟩) 1 1) (by kernel_rfl) (by kernel_rfl) _ hrun ?_)
  try simp only[lay]
  refine Za 13 (.nilCheck (.tmp 22)) 0 (some 35) rfl (by kernel_rfl) Hq (by intro _;go_simp;try rfl) ?_;simp only[lay];refine Za 14 (.fieldAddr 163 (.tmp 35) 2) 0 (some 36) rfl (by kernel_rfl) Hq (by intro _;go_simp;try rfl) ?_;simp only[lay];refine Zd 15 (by decide +kernel) (ZR rfl (.pointer (some ⟨g,2,none⟩)) (.slice A4 (ln+1) c4) (by kernel_rfl) (by kernel_rfl) (by go_simp;rfl) ?_);refine wpAny_done (by kernel_rfl) ?_ _;clear hrun TA RA d1 d2;go_simp;generalize w4.setCell ⟨g,2,none⟩ (.slice A4 (ln+1) c4)=w5 at *;obtain⟨q1,q2⟩:=HS.out w5 _ R4.out nx;have c1:w5.cell? ⟨g,1,none⟩=some (.int .i64 (a:Int)):=by obtain⟨_,_,h,_⟩:=R4.out;exact Blk.cell h 1
  have f1:w5.frozen? ⟨g,1,none⟩=false:=by obtain⟨_,_,h,_⟩:=R4.out;exact Blk.free h 1
  have KK:=Hd (fun(W:World) (x:Ext (w5.setCell ⟨g,1,none⟩ (.int .i64 (nx:Int))) W)=>KQ.out W nx _ hnx (hU.ext ((X0.modT (MM.out.tr q2) h0).tr x)) (q1.ext x));have Q1:=Hd q1;have Q2:=Hd (MM.out.tr q2);clear q1 q2 c4' f4 R4 M4 KQ HS;go_upto_region 6 with(fail);generalize w5.setCell ⟨g,1,none⟩ (.int .i64 (nx:Int))=w6 at *;clear c1 f1;go_wp2_with (fail);refine(KK.out _ XI).mono ?_;rintro e w7 ⟨rfl,x7⟩;have X7:=Hd (Ext.tr (a:=w6) XI x7);clear x7 KK
  by_cases h3:Zv s nx=3
  ·have e3:(Zv s nx==3)=true:=by rw[h3];rfl
   have h5:Hid (er=2):=Hd (by rw[<-her.out,if_pos h3]);generalize Zv s nx=kk at *;clear h3 her;go_wp2_with (fail);go_ret;exact⟨by rw[h5.out];rfl,(Q1.out.ext X7.out).ext XI,(Q2.out.tr (ModT.of_ext X7.out)).tr (ModT.of_ext XI)⟩
  ·have e3:(Zv s nx==3)=false:=by rw[beq_eq_false_iff_ne];exact h3
   have h5:Hid (er=0):=Hd (by rw[<-her.out,if_neg h3]);generalize Zv s nx=kk at *;clear h3 her;go_wp2_with (fail);go_ret;exact⟨by rw[h5.out];rfl,(Q1.out.ext X7.out).ext XI,(Q2.out.tr (ModT.of_ext X7.out)).tr (ModT.of_ext XI)⟩
 ·have e1:(re != 0)=true:=by simpa using he
  rw[OB he];simp only[List.append_nil];clear OB OG RB h2 he KQ HS TA;go_enter Tryz.func144,Tryz.ntmps144;go_upto_region 1 with(fail);refine wp_region_any (by kernel_rfl) ?_
  change wpAny _ _ _ _ _ _ _ (World.drew _)
  refine Za 0 (.move (.tmp 0)) 161 (some 7) rfl (by kernel_rfl) Hq (by intro _;go_simp;try rfl) ?_;simp only[lay];refine Za 1 (.nilCheck (.tmp 7)) 0 (some 8) rfl (by kernel_rfl) Hq (by intro _;go_simp;try rfl) ?_;simp only[lay];refine Za 2 (.fieldAddr 163 (.tmp 8) 0) 0 (some 9) rfl (by kernel_rfl) Hq (by intro _;go_simp;try rfl) ?_;simp only[lay];refine Za 4 (.move (.tmp 0)) 161 (some 11) rfl (by kernel_rfl) Hq (by intro _;go_simp;try rfl) ?_;simp only[lay];refine Za 5 (.nilCheck (.tmp 11)) 0 (some 12) rfl (by kernel_rfl) Hq (by intro _;go_simp;try rfl) ?_;simp only[lay];refine Za 6 (.fieldAddr 163 (.tmp 12) 1) 0 (some 13) rfl (by kernel_rfl) Hq (by intro _;go_simp;try rfl) ?_;simp only[lay];refine Zm (n:=8) [(3,some 10),(7,some 14)] (fun | 3=>.string ⟨s.toArray⟩ | 7=>.int .i64 (a:Int) | _=>undef) #[true,true,true,true,true,true,true,true,false,false,false,false,false,false,false,false] (by decide +kernel) ?_ ?_
  ·intro pS hpm uS hD K hK
   simp only[List.mem_cons,List.not_mem_nil,or_false] at hpm;rcases hpm with rfl | rfl
   ·exact Ze (T:=9) (x:=Operand.tmp 9) (t:=9) (d:=some 10) rfl (.pointer (some ⟨g,0,none⟩)) (by kernel_rfl) (.string ⟨s.toArray⟩) (by go_simp) hK
   ·exact Ze (T:=3) (x:=Operand.tmp 13) (t:=3) (d:=some 14) rfl (.pointer (some ⟨g,1,none⟩)) (by kernel_rfl) (.int .i64 (a:Int)) (by go_simp) hK
  simp only[Zc,Act.put,List.setIfInBounds_toArray,List.set_cons_zero,List.set_cons_succ];refine Zd 8 (by decide +kernel) (Zi (f:=139) (xs:=#[Operand.tmp 10,Operand.tmp 14]) (ts:=#[9,3]) (t:=95) (d:=some 15) rfl #[.string ⟨s.toArray⟩,.int .i64 (a:Int)] (by go_simp) (by kernel_rfl) _ (RA.out _) ?_);rintro e w1 ⟨rfl,x1⟩;have X1:=Hd (Ext.tr (a:=w) XI x1);clear x1 c0 c1 c2;refine⟨_,rfl,?_⟩
  try simp only[lay]
  refine Za 9 (.move (.tmp 15)) 95 (some 6) rfl (by kernel_rfl) Hq (by intro _;go_simp;try rfl) ?_;simp only[lay];refine Za 10 (.extract (.tmp 6) 0) 3 (some 16) rfl (by kernel_rfl) Hq (by intro _;go_simp;try rfl) ?_;simp only[lay];refine Za 11 (.extract (.tmp 6) 1) 3 (some 17) rfl (by kernel_rfl) Hq (by intro _;go_simp;try rfl) ?_;simp only[lay];refine Za 12 (.extract (.tmp 6) 2) 27 (some 18) rfl (by kernel_rfl) Hq (by intro _;go_simp;try rfl) ?_;simp only[lay];refine Za 13 (.assign (.tmp 16)) 3 (some 3) rfl (by kernel_rfl) Hq (by intro _;go_simp;try rfl) ?_;simp only[lay];refine Za 14 (.assign (.tmp 17)) 3 (some 4) rfl (by kernel_rfl) Hq (by intro _;go_simp;try rfl) ?_;simp only[lay];refine Za 15 (.assign (.tmp 18)) 27 (some 5) rfl (by kernel_rfl) Hq (by intro _;go_simp;try rfl) ?_;simp only[lay];refine wpAny_done (by kernel_rfl) ?_ _;go_simp;go_wp2_with (fail);go_ret;exact⟨rfl,(HH.out.ext X1.out).ext XI,(ModT.of_ext X1.out).tr (ModT.of_ext XI)⟩
theorem ZcT (base g:Nat)(s:Txt)(a:Nat)(l:List Tok)(w:World)(H:ScR w base g s a l)(hb:base<=w.heap.size)(hl:l.length<=70000)(ha:a<s.length)(hs:s.length<=70000)(w0:World)(hU:UT w0)(X0:Ext w0 w)(h0:w0.heap.size<=base)(h3:Zv s a=3) :
  Calls Tryz.prog 143 #[.pointer (some ⟨g,0,none⟩)] w (XJ base g s (Yo s a) l w):=by
 have HS:=Hd (fun(W:World) (lq:List Tok) (h:ScR W base g s a lq) (b:Nat)=>h.set b);have KQ:=Hd (fun(W:World) (b:Nat) (lq:List Tok) (hB:b<=s.length) (hU:UT W) (h:ScR W base g s b lq)=>(show Calls Tryz.prog 141 #[.pointer (some ⟨g,0,none⟩)] W fun e w'=>e=.returned (.int .i64 (Zv s b))/\Ext W w' by obtain⟨L,c,q1,q2,q3⟩:=h;exact VV g s b L lq.length c W q1 hB hs hU));have OB:16<Ya (s.drop a)->Yo s a=(a,5,[]):=fun h=>by unfold Yo;rw[h3,if_neg (by decide),if_neg (by decide),if_pos rfl,if_pos h]
 have OG:¬16<Ya (s.drop a)->Yo s a=(a+Ya (s.drop a),if Zv s (a+Ya (s.drop a))=2 then 2 else 0,[⟨1,(s.drop a).take (Ya (s.drop a)),0,a⟩]):=fun h=>by unfold Yo;rw[h3,if_neg (by decide),if_neg (by decide),if_pos rfl,if_neg h]
 have hln9:Ya (s.drop a)<=s.length-a:=by rw[<-List.length_drop];exact WY _
 have ST:Hid (∀ k:Nat,(∀ j,j<k->∀ c,(s.drop a)[j]?=some c->isL c=true)->k<=(s.drop a).length->(∀ c,(s.drop a)[k]?=some c->isL c=false)->Ya (s.drop a)=k):=Hd fun k q1 q2 q3=>Qn k _ q1 q2 q3
 have EM:=Hd (Zag s a);have HH:=Hd H;obtain⟨L,c,h1,hg,h2⟩:=H;have c0:w.cell? ⟨g,0,none⟩=some (.string ⟨s.toArray⟩):=Blk.cell h1 0;have c1:=Blk.c1 h1;have c2:=Blk.c2 h1;have zg:=Blk.lt h1;have hsz:=ZS s;have hx:=Xu s a;rw[hsz] at hx;have TA:=Hd (fun(W:World) (x:Ext w W) (t:Tok) (z:Nat) (hz:Blk W z 165 #[.int .i64 t.kind,.string ⟨t.text.toArray⟩,.int .i64 t.num,.int .i64 t.at_])=>Zcs (Blk.ext h1 x) hg (h2.ext x) t z hz (by have:=x.size;omega) (by omega));have hA:Hid (∀ (k:Nat) (hk:k<(⟨(s.drop a).toArray⟩:ByteArray).size),(s.drop a)[k]?=some ((⟨(s.drop a).toArray⟩:ByteArray)[k]'hk)):=Hd fun k hk=>Wy _ k hk
 have hsd:=ZS (s.drop a);have hdl:(s.drop a).length=s.length-a:=List.length_drop;clear h1 h2;obtain⟨ln,hln⟩:∃ ln,l.length=ln:=⟨_,rfl⟩;rw[hln] at c2 TA hl;replace hln:=Hd hln;have g0:(0:Int)<=(a:Int):=by omega
 have g1:(a:Int)<=(s.length:Int):=by omega
 obtain⟨sd,hsdE⟩:∃ sd:ByteArray,sd=⟨(s.drop a).toArray⟩:=⟨_,rfl⟩;rw[<-hsdE] at hx hsd hA;have hK0:(w.drew.iter sd 0).heap[w.heap.size]?=some (.stringIter sd 0):=World.iter_heap w.drew sd 0;have hX0:Ext w (w.drew.iter sd 0):=((Ext.rf w).drew).alloc _;generalize hD:s.drop a=D at *;clear hsdE;unfold XJ;obtain⟨RV,hRV⟩:∃ RV,Yo s a=RV:=⟨_,rfl⟩;rw[hRV] at OB OG ⊢;replace OB:=Hd OB;replace OG:=Hd OG;clear hRV;go_enter Tryz.func143,Tryz.ntmps143;go_upto_region 2 with(fail);refine wp_region_any (by kernel_rfl) ?_
 change wpAny _ _ _ _ _ _ _ (World.drew _)
 refine Za 0 (.move (.tmp 0)) 161 (some 6) rfl (by kernel_rfl) Hq (by intro _;go_simp;try rfl) ?_;simp only[lay];refine Za 1 (.nilCheck (.tmp 6)) 0 (some 7) rfl (by kernel_rfl) Hq (by intro _;go_simp;try rfl) ?_;simp only[lay];refine Za 2 (.fieldAddr 163 (.tmp 7) 0) 0 (some 8) rfl (by kernel_rfl) Hq (by intro _;go_simp;try rfl) ?_;simp only[lay];refine Za 4 (.move (.tmp 0)) 161 (some 10) rfl (by kernel_rfl) Hq (by intro _;go_simp;try rfl) ?_;simp only[lay];refine Za 5 (.nilCheck (.tmp 10)) 0 (some 11) rfl (by kernel_rfl) Hq (by intro _;go_simp;try rfl) ?_;simp only[lay];refine Za 6 (.fieldAddr 163 (.tmp 11) 1) 0 (some 12) rfl (by kernel_rfl) Hq (by intro _;go_simp;try rfl) ?_;simp only[lay];refine Zm (n:=2) [(3,some 9),(7,some 13)] (fun | 3=>.string ⟨s.toArray⟩ | 7=>.int .i64 (a:Int) | _=>undef) #[true,true,true,true,true,true,true,true,false,false] (by decide +kernel) ?_ ?_
 ·intro pS hpm uS hD K hK
  simp only[List.mem_cons,List.not_mem_nil,or_false] at hpm;rcases hpm with rfl | rfl
  ·exact Ze (T:=9) (x:=Operand.tmp 8) (t:=9) (d:=some 9) rfl (.pointer (some ⟨g,0,none⟩)) (by kernel_rfl) (.string ⟨s.toArray⟩) (by go_simp) hK
  ·exact Ze (T:=3) (x:=Operand.tmp 12) (t:=3) (d:=some 13) rfl (.pointer (some ⟨g,1,none⟩)) (by kernel_rfl) (.int .i64 (a:Int)) (by go_simp) hK
 simp only[Zc,Act.put,List.setIfInBounds_toArray,List.set_cons_zero,List.set_cons_succ];refine Zu (i:=8) (op:=Op.slice 9 (Operand.tmp 9) (some (Operand.tmp 13)) none none) (t:=9) (d:=some 14) (v:=.string sd) rfl (by decide +kernel) (by decide +kernel) (by decide +kernel) Hq ?_ ?_
 ·(intro _;unfold Zj;go_simp;skip)
 try simp only[lay]
 refine Zd 9 (by decide +kernel) (Zl (op:=Op.range 9 (Operand.tmp 14)) rfl (.pointer (some ⟨w.heap.size,0,none⟩)) (w':=w.drew.iter sd 0) (by unfold Zj;go_simp;try rfl) ?_)
 try simp only[lay]
 refine wpAny_done (by kernel_rfl) ?_ _;go_simp;go_upto_block 0 with(fail);go_cut [3] (fun v wx=>v=.int .i64 (Ya D:Int)/\Hid (Ext w wx))
 case first =>
  go_wp2_with (fail);go_loopw [3,5] (fun v _ wr=>∃ pos:Nat,v=.int .i64 (pos:Int)/\pos<=sd.size/\wr.heap[w.heap.size]?=some (.stringIter sd pos)/\Hid (∀ j,j<pos->∀ c,D[j]?=some c->isL c=true)/\Ext w wr)
   (fun _ _ wr=>sd.size-wr.iterPos w.heap.size)
  case atStart=>exact⟨0,rfl,Nat.zero_le _,hK0,Hd (fun j hj=>absurd hj (Nat.not_lt_zero _)),hX0⟩
  case round =>
   obtain⟨pos,rfl,hps,hk,hd,hx⟩:=hrel;clear hK0 hX0
   by_cases hpl:pos<sd.size
   ·have hc:=hA.out pos hpl
    have hnext:∀ ty,(Instr.next (.pointer (some ⟨w.heap.size,0,none⟩)) true ty).run Tryz.prog wr=_:=fun ty=>Lib.run_next_any_at wr w.heap.size sd pos ty hk hpl
    have hdk:=WE sd pos hpl;have hd1:=Qd sd pos hpl;obtain⟨rr,wd,hdec⟩:∃ rr wd,Utf8.decode sd pos=(rr,wd):=⟨_,_,rfl⟩;rw[hdec] at hnext hdk hd1;simp only at hnext hdk;have hk1:=Lib.iterAt_heap wr w.heap.size sd pos (pos+wd) hk;have hx1:Ext w (wr.iterAt w.heap.size sd (pos+wd)):=YL hx (Nat.le_refl _) sd (pos+wd);have hmu:wr.iterPos w.heap.size=pos:=by simp[World.iterPos,hk]
    have KN:=Hd (fun(W:World)=>Qc (rr:Int) W);have hcH:=Hd hc;have hdkH:=Hd hdk;have hd1H:=Hd hd1;clear hc hdk hd1 hdec;generalize sd[pos]'hpl=b at *;generalize wr.iterAt w.heap.size sd (pos+wd)=W1 at hnext hk1 hx1;go_wp2_with (fail);refine(KN.out _).mono ?_;rintro e W2 ⟨rfl,x2⟩;have hk2:W2.heap[w.heap.size]?=some (.stringIter sd (pos+wd)):=(x2.block _ (Array.getElem?_eq_some_iff.1 hk1).1).trans hk1;have hx2:Ext w W2:=Ext.tr hx1 x2
    by_cases hDD:YP (rr:Int)=3
    ·rw[hDD]
     have hb2:Um b=3:=hdkH.out.symm.trans hDD;have hw1:wd=1:=congrArg Prod.snd (hd1H.out (by rw[hb2];decide));have hDH:Hid (isL b=true):=Hd (by unfold isL;simpa using hb2);subst hw1;clear hDD hb2;go_wp2_with (fail);go_roundw
     case rel =>
      refine⟨pos+1,by go_num,by omega,hk2,Hd fun j hj c hc=>?_,hx2⟩
      by_cases he:j=pos
      ·subst he
       have:=hcH.out.symm.trans hc;simp at this;subst this;exact hDH.out
      ·exact hd.out j (by omega) c hc
     case measure =>
      have hmu2:W2.iterPos w.heap.size=pos+1:=by simp[World.iterPos,hk2]
      rw[hmu,hmu2];omega
    ·have hne:(YP (rr:Int) != 3)=true:=by simpa using hDD
     have hDH:isL b=false:=by unfold isL;rw[decide_eq_false];intro h;exact hDD (hdkH.out.trans h)
     have hst:=Hd (ST.out pos hd.out (by omega) (fun c hc=>by have:=hcH.out.symm.trans hc;simp at this;subst this;exact hDH));generalize YP (rr:Int)=kc at *;clear hDD hDH;go_wp2_with (fail);go_meet;exact⟨by rw[hst.out],hx2⟩
   ·have hnext:∀ ty,(Instr.next (.pointer (some ⟨w.heap.size,0,none⟩)) true ty).run Tryz.prog wr=_:=fun ty=>Lib.run_next_end_at wr w.heap.size sd pos ty hk hpl
    have hst:=Hd (ST.out pos hd.out (by omega) (fun c hc=>by have h9:=(List.getElem?_eq_some_iff.1 hc).1;omega));go_wp2_with (fail);go_meet;exact⟨by rw[hst.out],hx⟩
 case rest =>
  obtain⟨rfl,X1⟩:=hcut;obtain⟨w1,rfl⟩:=Wq wc;clear hK0 hX0 hA ST hsd hx;generalize Ya D=ne at *
  by_cases h16:16<ne
  ·obtain rfl:=OB.out h16
   have e1:(ne:Int)>16:=by omega
   clear OB OG TA KQ HS c0 c1 c2;go_wp2_with (fail);go_ret;exact⟨rfl,by first | exact(HH.out.ext X1.out).ext XI | (rw[List.append_nil];exact(HH.out.ext X1.out).ext XI),(ModT.of_ext X1.out).tr (ModT.of_ext XI)⟩
  ·obtain⟨er,her⟩:∃ er:Int,Hid ((if Zv s (a+ne)=2 then(2:Int) else 0)=er):=⟨_,Hd rfl⟩
   have OG1:=OG.out h16;rw[her.out] at OG1;have e1:¬(ne:Int)>16:=by omega
   subst OG1;have d0:=Zb X1.out zg c0;have d1:=Zb X1.out zg c1;have d2:=Zb X1.out zg c2;have zg1:g<w1.heap.size:=by have:=X1.out.size;omega
   have hx2:=EM.out ne;have hn1:((a:Int)+(ne:Int)).toNat=a+ne:=by omega
   have hn2:(a:Int)+(ne:Int)<=(s.length:Int):=by omega
   have hn3:IntKind.i64.wrap ((a:Int)+(ne:Int))=(a:Int)+(ne:Int):=IntWalk.i64_in _ (by omega);have hn4:(a:Int)<=(a:Int)+(ne:Int):=by omega
   generalize hW:D.take ne=WT at *;clear c0 c1 c2 OB OG EM;go_upto_region 9 with(fail);refine wp_region_any (by kernel_rfl) ?_
   change wpAny _ _ _ _ _ _ _ (World.drew _)
   refine Za 0 (.move (.tmp 0)) 161 (some 26) rfl (by kernel_rfl) Hq (by intro _;go_simp;try rfl) ?_;simp only[lay];refine Za 1 (.move (.tmp 0)) 161 (some 27) rfl (by kernel_rfl) Hq (by intro _;go_simp;try rfl) ?_;simp only[lay];refine Za 2 (.nilCheck (.tmp 27)) 0 (some 28) rfl (by kernel_rfl) Hq (by intro _;go_simp;try rfl) ?_;simp only[lay];refine Za 3 (.fieldAddr 163 (.tmp 28) 2) 0 (some 29) rfl (by kernel_rfl) Hq (by intro _;go_simp;try rfl) ?_;simp only[lay];refine Za 5 (.move (.tmp 0)) 161 (some 31) rfl (by kernel_rfl) Hq (by intro _;go_simp;try rfl) ?_;simp only[lay];refine Za 6 (.nilCheck (.tmp 31)) 0 (some 32) rfl (by kernel_rfl) Hq (by intro _;go_simp;try rfl) ?_;simp only[lay];refine Za 7 (.fieldAddr 163 (.tmp 32) 0) 0 (some 33) rfl (by kernel_rfl) Hq (by intro _;go_simp;try rfl) ?_;simp only[lay];refine Za 9 (.move (.tmp 0)) 161 (some 35) rfl (by kernel_rfl) Hq (by intro _;go_simp;try rfl) ?_;simp only[lay];refine Za 10 (.nilCheck (.tmp 35)) 0 (some 36) rfl (by kernel_rfl) Hq (by intro _;go_simp;try rfl) ?_;simp only[lay];refine Za 11 (.fieldAddr 163 (.tmp 36) 1) 0 (some 37) rfl (by kernel_rfl) Hq (by intro _;go_simp;try rfl) ?_;simp only[lay];refine Za 13 (.move (.tmp 0)) 161 (some 39) rfl (by kernel_rfl) Hq (by intro _;go_simp;try rfl) ?_;simp only[lay];refine Za 14 (.nilCheck (.tmp 39)) 0 (some 40) rfl (by kernel_rfl) Hq (by intro _;go_simp;try rfl) ?_;simp only[lay];refine Za 15 (.fieldAddr 163 (.tmp 40) 1) 0 (some 41) rfl (by kernel_rfl) Hq (by intro _;go_simp;try rfl) ?_;simp only[lay];refine Za 17 (.move (.tmp 3)) 3 (some 43) rfl (by kernel_rfl) Hq (by intro _;go_simp;try rfl) ?_;simp only[lay];refine Za 20 (.move (.tmp 0)) 161 (some 46) rfl (by kernel_rfl) Hq (by intro _;go_simp;try rfl) ?_;simp only[lay];refine Za 21 (.nilCheck (.tmp 46)) 0 (some 47) rfl (by kernel_rfl) Hq (by intro _;go_simp;try rfl) ?_;simp only[lay];refine Za 22 (.fieldAddr 163 (.tmp 47) 1) 0 (some 48) rfl (by kernel_rfl) Hq (by intro _;go_simp;try rfl) ?_;simp only[lay];refine Zh (n:=4) [(4,some 30),(8,some 34),(12,some 38),(16,some 42),(18,some 44),(19,some 45),(23,some 49),(24,some 50),(25,some 51)] (Ext w1) (VF (fun | 4=>some (.slice L ln c) | 8=>some (.string ⟨s.toArray⟩) | 12=>some (.int .i64 (a:Int)) | 16=>some (.int .i64 (a:Int)) | 18=>some (.int .i64 ((a:Int)+(ne:Int))) | 19=>some (.string ⟨WT.toArray⟩) | 23=>some (.int .i64 (a:Int)) | 24=>some (.agg #[.int .i64 1,.string ⟨WT.toArray⟩,.int .i64 0,.int .i64 (a:Int)]) | _=>none) (fun i v W=>(i=25->∃ z,v=.slice (some ⟨z,0,none⟩) 1 1/\Blk W z 165 #[.int .i64 1,.string ⟨WT.toArray⟩,.int .i64 0,.int .i64 (a:Int)]))) Ext #[true,true,true,true,true,true,true,true,true,true,true,true,true,true,true,true,true,true,true,true,true,true,true,true,true,true,false,false,false,false] (by decide +kernel) (VF.stab ?_) ?_ ?_ (by first | exact(Ext.rf _).drew | exact Ext.rf _)
   ·intro j v W W' _ gz hx
    have g0:=gz;exact fun h=>(g0 h).imp fun z hz=>⟨hz.1,hz.2.ext hx⟩
   ·intro pS hpm uS wS hRW hD K hK
    simp only[List.mem_cons,List.not_mem_nil,or_false] at hpm;rcases hpm with rfl | rfl | rfl | rfl | rfl | rfl | rfl | rfl | rfl
    ·( have rX:=Zb hRW zg1 d2;exact Ze (T:=97) (x:=Operand.tmp 29) (t:=97) (d:=some 30) rfl (.pointer (some ⟨g,2,none⟩)) (by kernel_rfl) (.slice L ln c) (by go_simp) (hK _ _ (VF.mk rfl) hRW (Ext.rf _)))
    ·( have rX:=Zb hRW zg1 d0;exact Ze (T:=9) (x:=Operand.tmp 33) (t:=9) (d:=some 34) rfl (.pointer (some ⟨g,0,none⟩)) (by kernel_rfl) (.string ⟨s.toArray⟩) (by go_simp) (hK _ _ (VF.mk rfl) hRW (Ext.rf _)))
    ·( have rX:=Zb hRW zg1 d1;exact Ze (T:=3) (x:=Operand.tmp 37) (t:=3) (d:=some 38) rfl (.pointer (some ⟨g,1,none⟩)) (by kernel_rfl) (.int .i64 (a:Int)) (by go_simp) (hK _ _ (VF.mk rfl) hRW (Ext.rf _)))
    ·( have rX:=Zb hRW zg1 d1;exact Ze (T:=3) (x:=Operand.tmp 41) (t:=3) (d:=some 42) rfl (.pointer (some ⟨g,1,none⟩)) (by kernel_rfl) (.int .i64 (a:Int)) (by go_simp) (hK _ _ (VF.mk rfl) hRW (Ext.rf _)))
    ·(have e16:uS 16=.int .i64 (a:Int):=(hD 16 (Zg (by kernel_rfl))).k rfl;exact Zl (op:=Op.binOp BinOp.add 3 (Operand.tmp 42) (Operand.tmp 43) 3) (t:=3) (d:=some 44) rfl (.int .i64 ((a:Int)+(ne:Int))) (by simp only[Zc,Act.put,List.setIfInBounds_toArray,List.set_cons_zero,List.set_cons_succ];unfold Zj;(try go_simp);(try simp only[e16]);(try go_simp);(try rfl);(try (exact IntWalk.i64_in _ (by omega)))) (hK _ _ (VF.mk rfl) hRW (Ext.rf _)))
    ·(have e8:uS 8=.string ⟨s.toArray⟩:=(hD 8 (Zg (by kernel_rfl))).k rfl;have e12:uS 12=.int .i64 (a:Int):=(hD 12 (Zg (by kernel_rfl))).k rfl;have e18:uS 18=.int .i64 ((a:Int)+(ne:Int)):=(hD 18 (Zg (by kernel_rfl))).k rfl;exact Zl (op:=Op.slice 9 (Operand.tmp 34) (some (Operand.tmp 38)) (some (Operand.tmp 44)) none) (t:=9) (d:=some 45) rfl (.string ⟨WT.toArray⟩) (by simp only[Zc,Act.put,List.setIfInBounds_toArray,List.set_cons_zero,List.set_cons_succ];unfold Zj;(try go_simp);(try simp only[e8,e12,e18]);(try go_simp);(try rfl);(try (exact IntWalk.i64_in _ (by omega)))) (hK _ _ (VF.mk rfl) hRW (Ext.rf _)))
    ·( have rX:=Zb hRW zg1 d1;exact Ze (T:=3) (x:=Operand.tmp 48) (t:=3) (d:=some 49) rfl (.pointer (some ⟨g,1,none⟩)) (by kernel_rfl) (.int .i64 (a:Int)) (by go_simp) (hK _ _ (VF.mk rfl) hRW (Ext.rf _)))
    ·(have e19:uS 19=.string ⟨WT.toArray⟩:=(hD 19 (Zg (by kernel_rfl))).k rfl;have e23:uS 23=.int .i64 (a:Int):=(hD 23 (Zg (by kernel_rfl))).k rfl;exact Zl (op:=Op.build 165 #[(0,Operand.const (Value.int IntKind.i64 1)),(1,Operand.tmp 45),(3,Operand.tmp 49)]) (t:=165) (d:=some 50) rfl (.agg #[.int .i64 1,.string ⟨WT.toArray⟩,.int .i64 0,.int .i64 (a:Int)]) (by simp only[Zc,Act.put,List.setIfInBounds_toArray,List.set_cons_zero,List.set_cons_succ];unfold Zj;(try go_simp);(try simp only[e19,e23]);(try go_simp);(try rfl);(try (exact IntWalk.i64_in _ (by omega)))) (hK _ _ (VF.mk rfl) hRW (Ext.rf _)))
    ·(have e24:uS 24=.agg #[.int .i64 1,.string ⟨WT.toArray⟩,.int .i64 0,.int .i64 (a:Int)]:=(hD 24 (Zg (by kernel_rfl))).k rfl;exact Zl (op:=Op.buildSlice 97 1 #[(0,Operand.tmp 50)]) (t:=97) (d:=some 51) rfl _ (by simp only[Zc,Act.put,List.setIfInBounds_toArray,List.set_cons_zero,List.set_cons_succ];unfold Zj;(try go_simp);(try simp only[e24]);(try go_simp);(try rfl)) (hK _ _ (VF.mg rfl (fun _=>⟨_,rfl,.new rfl⟩)) (hRW.alloc _) ((Ext.rf _).alloc _)))
   intro u w3 hR3 hV;have h4:=(hV (4,some 30) (by simp)).k rfl;have h8:=(hV (8,some 34) (by simp)).k rfl;have h12:=(hV (12,some 38) (by simp)).k rfl;have h16:=(hV (16,some 42) (by simp)).k rfl;have h18:=(hV (18,some 44) (by simp)).k rfl;have h19:=(hV (19,some 45) (by simp)).k rfl;have h23:=(hV (23,some 49) (by simp)).k rfl;have h24:=(hV (24,some 50) (by simp)).k rfl;obtain⟨qz,h25,qb⟩:=((hV (25,some 51) (by simp)).g rfl) rfl;simp only[Zc,h4,h8,h12,h16,h18,h19,h23,h24,h25];clear hV h4 h8 h12 h16 h18 h19 h23 h24 h25
   try simp only[lay]
   obtain⟨A4,c4,w4,hrun,c4',f4,R4,M4⟩:=TA.out w3 (X1.out.tr hR3) ⟨1,WT,0,a⟩ qz qb;have MM:=Hd ((ModT.of_ext (X1.out.tr hR3)).tr M4.out);clear hR3 qb;refine Zd 26 (by decide +kernel) (Vh rfl (.slice L ln c) (.slice (some ⟨qz,0,none⟩) 1 1) (by kernel_rfl) (by kernel_rfl) _ hrun ?_)
   try simp only[lay]
   refine Za 27 (.nilCheck (.tmp 26)) 0 (some 53) rfl (by kernel_rfl) Hq (by intro _;go_simp;try rfl) ?_;simp only[lay];refine Za 28 (.fieldAddr 163 (.tmp 53) 2) 0 (some 54) rfl (by kernel_rfl) Hq (by intro _;go_simp;try rfl) ?_;simp only[lay];refine Zd 29 (by decide +kernel) (ZR rfl (.pointer (some ⟨g,2,none⟩)) (.slice A4 (ln+1) c4) (by kernel_rfl) (by kernel_rfl) (by go_simp;rfl) ?_);refine wpAny_done (by kernel_rfl) ?_ _;clear hrun TA d0 d1 d2;go_simp;generalize w4.setCell ⟨g,2,none⟩ (.slice A4 (ln+1) c4)=w5 at *;obtain⟨q1,q2⟩:=HS.out w5 _ R4.out (a+ne);have c1:w5.cell? ⟨g,1,none⟩=some (.int .i64 (a:Int)):=by obtain⟨_,_,h,_⟩:=R4.out;exact Blk.cell h 1
   have f1:w5.frozen? ⟨g,1,none⟩=false:=by obtain⟨_,_,h,_⟩:=R4.out;exact Blk.free h 1
   rw[show ((a+ne:Nat):Int)=(a:Int)+(ne:Int) by omega] at q1 q2;have KK:=Hd (fun(W:World) (x:Ext (w5.setCell ⟨g,1,none⟩ (.int .i64 ((a:Int)+(ne:Int)))) W)=>KQ.out W (a+ne) _ (by omega) (hU.ext ((X0.modT (MM.out.tr q2) h0).tr x)) (q1.ext x));have Q1:=Hd q1;have Q2:=Hd (MM.out.tr q2);clear q1 q2 c4' f4 R4 M4 KQ HS;go_upto_region 11 with(fail);generalize w5.setCell ⟨g,1,none⟩ (.int .i64 ((a:Int)+(ne:Int)))=w6 at *;clear c1 f1;go_wp2_with (fail);refine(KK.out _ XI).mono ?_;rintro e w7 ⟨rfl,x7⟩;have X7:=Hd (Ext.tr (a:=w6) XI x7);clear x7 KK
   by_cases h2:Zv s (a+ne)=2
   ·have e3:(Zv s (a+ne)==2)=true:=by rw[h2];rfl
    have h5:Hid (er=2):=Hd (by rw[<-her.out,if_pos h2]);generalize Zv s (a+ne)=kk at *;clear h2 her;go_wp2_with (fail);go_ret;exact⟨by rw[h5.out];rfl,(Q1.out.ext X7.out).ext XI,(Q2.out.tr (ModT.of_ext X7.out)).tr (ModT.of_ext XI)⟩
   ·have e3:(Zv s (a+ne)==2)=false:=by rw[beq_eq_false_iff_ne];exact h2
    have h5:Hid (er=0):=Hd (by rw[<-her.out,if_neg h2]);generalize Zv s (a+ne)=kk at *;clear h2 her;go_wp2_with (fail);go_ret;exact⟨by rw[h5.out];rfl,(Q1.out.ext X7.out).ext XI,(Q2.out.tr (ModT.of_ext X7.out)).tr (ModT.of_ext XI)⟩
theorem ZcU (r:Int) : 0<=YP r/\YP r<=4:=by
 unfold YP
 (repeat' split)<;>omega
theorem Zbs (s:Txt)(a:Nat) : 0<=Zv s a/\Zv s a<=4:=by
 unfold Zv;split
 ·exact ZcU _
 ·omega
theorem Zfr (base g:Nat)(s:Txt)(a:Nat)(l:List Tok)(w:World)(H:ScR w base g s a l)(hb:base<=w.heap.size)(hl:l.length<=70000)(ha:a<s.length)(hs:s.length<=70000)(w0:World)(hU:UT w0)(X0:Ext w0 w)(h0:w0.heap.size<=base) :
  Calls Tryz.prog 75 #[.pointer (some ⟨g,0,none⟩)] w (XJ base g s (Yo s a) l w):=by
 have KN:=(show Calls Tryz.prog 141 #[.pointer (some ⟨g,0,none⟩)] w fun e w'=>e=.returned (.int .i64 (Zv s a))/\Ext w w' by obtain⟨L,c,q1,q2,q3⟩:=H;exact VV g s a L l.length c w q1 (by omega) hs (hU.ext X0));have RM:=Hd (fun(W:World) (x:Ext w W)=>Zbq base g s a l W (H.ext x) (by omega) hs);have WO:=Hd (fun(h:Zv s a=3) (W:World) (x:Ext w W)=>ZcT base g s a l W (H.ext x) (by have:=x.size;omega) hl ha hs w0 hU (X0.tr x) h0 h);have NU:=Hd (fun(h:Zv s a=2) (W:World) (x:Ext w W)=>Zbr base g s a l W (H.ext x) (by have:=x.size;omega) hl ha hs w0 hU (X0.tr x) h0 h);have ST:=Hd (fun(W:World) (x:Ext w W)=>(H.ext x).set (a+1));have P1:Zv s a=1->Yo s a=(a+1,0,[]):=fun h=>by unfold Yo;rw[if_pos h]
 have P4:Zv s a=4->Yo s a=(a+Yg (s.drop a),0,[]):=fun h=>by unfold Yo;rw[h,if_neg (by decide),if_pos rfl]
 have P0:Zv s a=0->Yo s a=(a,2,[]):=fun h=>by unfold Yo;rw[h,if_neg (by decide),if_neg (by decide),if_neg (by decide),if_neg (by decide)]
 have HH:=Hd H;have rg:=Zbs s a;have RC:∀ W:World,Ext w W->W.cell? ⟨g,1,none⟩=some (.int .i64 (a:Int))/\W.frozen? ⟨g,1,none⟩=false:=fun W x=>by
  obtain⟨L,c,q1,q2,q3⟩:=H.ext x;exact⟨Blk.cell q1 1,Blk.free q1 1⟩
 replace RC:=Hd RC;obtain⟨RV,hRV⟩:∃ RV,Yo s a=RV:=⟨_,rfl⟩;rw[hRV] at P1 P4 P0 WO NU ⊢;generalize Zv s a=kk at *;clear hRV H;have hk:kk=0\/kk=1\/kk=2\/kk=3\/kk=4:=by omega
 unfold XJ at WO NU ⊢;clear rg;rcases hk with rfl | rfl | rfl | rfl | rfl
 ·obtain rfl:=P0 rfl
  clear P1 P4 P0 WO NU RM ST;go_enter Tryz.func75,Tryz.ntmps75;go_wp2_with (fail);refine KN.mono ?_;rintro e w1 ⟨rfl,x1⟩;have X1:=Hd (Ext.tr (a:=w) XI x1);clear x1 KN;go_wp2_with (fail);go_ret;exact⟨rfl,by first | exact(HH.out.ext X1.out).ext (by(repeat (first | assumption | exact Ext.rf _ | apply Ext.drew | apply Ext.drewN | apply Ext.alloc))) | (rw[List.append_nil];exact(HH.out.ext X1.out).ext XI),(ModT.of_ext X1.out).tr (ModT.of_ext XI)⟩
 ·obtain rfl:=P1 rfl
  clear P1 P4 P0 WO NU RM;go_enter Tryz.func75,Tryz.ntmps75;go_wp2_with (fail);refine KN.mono ?_;rintro e w1 ⟨rfl,x1⟩;have X1:=Hd (Ext.tr (a:=w) XI x1);obtain⟨c1,f1⟩:=RC.out _ X1.out;have S1:=ST.out _ X1.out;rw[show ((a+1:Nat):Int)=(a:Int)+1 by omega] at S1;have q1:=Hd S1.1;have q2:=Hd ((ModT.of_ext X1.out).tr S1.2);clear x1 KN S1 ST;go_wp2_with (fail);go_ret;exact⟨rfl,by first | exact q1.out.ext (by(repeat (first | assumption | exact Ext.rf _ | apply Ext.drew | apply Ext.drewN | apply Ext.alloc))) | (rw[List.append_nil];exact q1.out.ext XI),q2.out.tr (ModT.of_ext XI)⟩
 ·have NQ:=Hd (NU.out rfl)
  clear P1 P4 P0 WO NU RM ST;go_enter Tryz.func75,Tryz.ntmps75;go_wp2_with (fail);refine KN.mono ?_;rintro e w1 ⟨rfl,x1⟩;have X1:=Hd (Ext.tr (a:=w) XI x1);clear x1 KN;go_wp2_with (fail);refine(NQ.out _ (X1.out.tr XI)).mono ?_;rintro e w2 ⟨rfl,q1,q2⟩;have Q1:=Hd q1;have Q2:=Hd ((ModT.of_ext (X1.out.tr XI)).tr q2);clear q1 q2 NQ;go_wp2_with (fail);go_ret;exact⟨rfl,Q1.out.ext XI,Q2.out.tr (ModT.of_ext XI)⟩
 ·have NQ:=Hd (WO.out rfl)
  clear P1 P4 P0 WO NU RM ST;go_enter Tryz.func75,Tryz.ntmps75;go_wp2_with (fail);refine KN.mono ?_;rintro e w1 ⟨rfl,x1⟩;have X1:=Hd (Ext.tr (a:=w) XI x1);clear x1 KN;go_wp2_with (fail);refine(NQ.out _ (X1.out.tr XI)).mono ?_;rintro e w2 ⟨rfl,q1,q2⟩;have Q1:=Hd q1;have Q2:=Hd ((ModT.of_ext (X1.out.tr XI)).tr q2);clear q1 q2 NQ;go_wp2_with (fail);go_ret;exact⟨rfl,Q1.out.ext XI,Q2.out.tr (ModT.of_ext XI)⟩
 ·obtain rfl:=P4 rfl
  clear P1 P4 P0 WO NU ST;go_enter Tryz.func75,Tryz.ntmps75;go_wp2_with (fail);refine KN.mono ?_;rintro e w1 ⟨rfl,x1⟩;have X1:=Hd (Ext.tr (a:=w) XI x1);clear x1 KN;go_wp2_with (fail);refine(RM.out _ (X1.out.tr XI)).mono ?_;rintro e w2 ⟨rfl,q1,q2⟩;have Q1:=Hd q1;have Q2:=Hd ((ModT.of_ext (X1.out.tr XI)).tr q2);clear q1 q2 RM;go_wp2_with (fail);go_ret;exact⟨rfl,by first | exact Q1.out.ext (by(repeat (first | assumption | exact Ext.rf _ | apply Ext.drew | apply Ext.drewN | apply Ext.alloc))) | (rw[List.append_nil];exact Q1.out.ext XI),Q2.out.tr (ModT.of_ext XI)⟩
def Zeg (w:World)(g:Nat) : Nat:=match w.cell? ⟨g,1,none⟩ with
 | some (.int _ n)=>n.toNat
 | _=>0
theorem Zak {w:World}{base g a:Nat}{s:Txt}{l:List Tok}(h:ScR w base g s a l) : Zeg w g=a:=by
 obtain⟨L,c,q1,q2,q3⟩:=h;unfold Zeg;rw[Blk.cell q1 1];simp
def ScanPost (R:List Tok×Nat×Int)(w:World)(e:Ending)(w':World) : Prop:=Ext w w'/\if R.2.2=0 then ∃ A c,e=.returned (.tuple #[.slice A R.1.length c,.int .i64 0,.int .i64 0])/\OwV w' w.heap.size 165 4 A R.1.length c (YS R.1)
 else e=.returned (.tuple #[.slice none 0 0,.int .i64 (R.2.1:Int),.int .i64 R.2.2])
theorem Zeh (s:Txt)(w:World)(hs:s.length<=70000)(hU:UT w) :
  Calls Tryz.prog 43 #[.string ⟨s.toArray⟩] w (ScanPost (Vi s) w):=by
 have hsz:=ZS s
 by_cases hbig:65536<s.length
 ·have e1:(s.length:Int)>65536:=by omega
  have hR:Vi s=([],0,5):=by unfold Vi;rw[if_pos hbig]
  rw[hR];clear hbig;go_enter Tryz.func43,Tryz.ntmps43;go_wp2_with (fail);go_ret3;exact⟨XI,rfl⟩
 ·have e1:¬(s.length:Int)>65536:=by omega
  have START:Hid (ScanAt (Vi s) s 0 []):=Hd (by unfold Vi;rw[if_neg hbig];exact ScanAt.start s);generalize Vi s=RES at *;clear hbig;obtain⟨g,hg⟩:∃ g,w.heap.size=g:=⟨_,rfl⟩;have H0:ScR (w.alloc (.cells #[.string ⟨s.toArray⟩,.int .i64 0,.slice none 0 0] 163)) w.heap.size g s 0 []:=⟨none,0,by rw[<-hg];exact .new rfl,by omega,OwV.nil _ _ _ _⟩;have ON:=Hd (fun(a:Nat) (l:List Tok) (W:World) (H:ScR W w.heap.size g s a l) (X:Ext w W) (hl:l.length<=a) (ha:a<s.length)=>Zfr w.heap.size g s a l W H X.size (by omega) ha hs w hU X (Nat.le_refl _));obtain⟨i0,hi,hz0,hz1,hz2⟩:=info_parts Qm;replace hi:=Hd hi;replace hz0:=Hd hz0;replace hz1:=Hd hz1;replace hz2:=Hd hz2;replace H0:=Hd H0;clear hU;go_enter Tryz.func43,Tryz.ntmps43;go_wp2_with (fail)
  try rw[hg]
  replace hg:=Hd hg;go_loopw [6] (fun _ wr=>∃ (a:Nat) (l:List Tok),Hid (ScR wr w.heap.size g s a l)/\a<=s.length/\l.length<=a/\Hid (ScanAt RES s a l)/\Hid (Ext w wr)) (fun _ wr=>s.length-Zeg wr g)
  case atStart=>exact⟨0,[],H0.out.ext XI,by omega,by simp,START,XI⟩
  case round =>
   obtain⟨wo,rfl⟩:=Wq wr;obtain⟨a,l,HS,ha,hl,HC,X⟩:=hrel;clear H0 START;have hpos:=Zak HS.out;have c1:wo.cell? ⟨g,1,none⟩=some (.int .i64 (a:Int)):=by obtain⟨_,_,q1,_⟩:=HS.out;exact Blk.cell q1 1
   by_cases hlt:a<s.length
   ·have ONE:=Hd (fun(W:World) (x:Ext wo W)=>ON.out a l W (HS.out.ext x) (X.out.tr x) hl hlt)
    unfold XJ at ONE;have hbad:=Hd (fun h=>HC.out.bad hlt h);have hstep:=Hd (fun h=>HC.out.step hlt h);have hst2:=Hd (fun h=>Ja hlt h);have hone:=Zfp s a;generalize Yo s a=RV at *;obtain⟨b,er,tk⟩:=RV;simp only at hbad hstep hst2 hone ONE;go_wp2_with (fail);refine(ONE.out _ XI).mono ?_;rintro e w1 ⟨rfl,q1,q2⟩;have Q1:=Hd q1;have X1:=Hd (X.out.modT ((ModT.of_ext XI).tr q2) (Nat.le_refl _));clear q1 q2 ONE c1
    by_cases he:er=0
    ·subst he
     obtain⟨s1,s2⟩:=hst2.out rfl;have HC1:=Hd (hstep.out rfl);clear hbad hstep hst2;go_wp2_with (fail);go_roundw
     case rel=>exact⟨b,l++tk,Q1.out.ext XI,s2,by rw[List.length_append];omega,HC1,X1.out.tr XI⟩
     case measure =>
      have h9:=Zak (Q1.out.ext (show Ext w1 _ by(repeat (first | assumption | exact Ext.rf _ | apply Ext.drew | apply Ext.drewN | apply Ext.alloc))));rw[hpos,h9];omega
    ·have e3:(er != 0)=true:=by simpa using he
     have hB:=Hd (hbad.out he);have c1:w1.cell? ⟨g,1,none⟩=some (.int .i64 (b:Int)):=by obtain⟨_,_,q1,_⟩:=Q1.out;exact Blk.cell q1 1
     have hne:=Hd he;clear hbad hstep hst2 he;go_wp2_with (go_quiet (fail));go_ret3;unfold ScanPost;rw[hB.out];refine⟨X1.out.tr XI,?_⟩;rw[if_neg hne.out]
     rfl
   ·obtain rfl:a=s.length:=by omega
    have hF:=Hd (HC.out.fin rfl);obtain⟨L,c,q1,q2,q3⟩:=HS.out;have c2:=Blk.c2 q1;have ho:=Hd q3;have hlt2:¬((s.length:Int)<(s.length:Int)):=by omega
    obtain⟨n,hn⟩:∃ n,l.length=n:=⟨_,rfl⟩;rw[hn] at c2 ho hl;have zX:=X.out.size;clear q1 q2 q3 ON HS HC hlt;replace hn:=Hd hn;go_upto_region 8 with(fail);go_wp2_with (at_builtin;refine Zw _ (e:=165) Tryz.underlying97 hi.out hz0.out hz1.out hz2.out (by simp[Value.cells]) (by omega) rfl _ _ rfl w.heap.size L n c (YS l) (some ⟨wo.heap.size,0,none⟩) 1 1 [.int .i64 3,.string ⟨#[]⟩,.int .i64 0,.int .i64 (s.length:Int)] rfl rfl ?_ ?_ ?_ ?_ ?_ ?_ ?_ ?_;(exact ho.out.ext ((Ext.rf _).alloc _));(exact(RdV.blk (.new (by simp))).rdC);(simp);(simp[Value.oneCell']);(simp only[maxLen];omega);omega;(simp;omega);rintro A6 c6 w6 o6 g6 _);have X6:Ext w w6:=Ext.grow (a:=w) (X.out.alloc _) g6 (fun z hz=>(ho.out.lt z hz).1);replace o6:=Hd o6;replace X6:=Hd X6;clear g6;go_wp2_with (fail);go_ret3;unfold ScanPost;rw[hF.out];have hln:(l++[(⟨3,[],0,s.length⟩:Tok)]).length=n+1:=by rw[List.length_append,hn.out];rfl
    refine⟨X6.out.tr XI,?_⟩;rw[if_pos rfl];simp only;rw[hln,Ql];exact⟨A6,c6,rfl,o6.out.ext XI⟩
def YX (word:Txt)(l:List Int) : Txt:=l.foldl (fun v n=>v++[32]++Lib.itoa n) word
def YE (word:Txt)(l:List Int) : Txt:=YX word l++[10]
theorem Zbt (word:Txt)(l:List Int)(n:Int) : YX word (l++[n])=YX word l++[32]++Lib.itoa n:=by simp[YX]
theorem VZ : ∀ (l:List Int) (word:Txt),Ints l->(YX word l).length<=word.length+22*l.length
 | [],word,_=>by simp[YX]
 | n::l,word,h=>by
  have h1:=VZ l (word++[32]++Lib.itoa n) fun x hx=>h x (List.mem_cons_of_mem _ hx)
  have h2:=h n List.mem_cons_self;have h3:=Lib.itoa_length_le n h2.1 h2.2;have e:YX word (n::l)=YX (word++[32]++Lib.itoa n) l:=rfl;rw[e];simp only[List.length_append,List.length_cons,List.length_nil] at h1 ⊢;omega
theorem Zge {l:List Int}{k:Nat}{x:Int}(h:l[k]?=some x) : l.take (k+1)=l.take k++[x]:=by rw[List.take_add_one,h];rfl
theorem XU (word:Txt)(A:Option Addr)(c:Nat)(l:List Int)(w:World)(hA:RdI w A l)(il:Ints l)(ll:l.length<=200)(lw:word.length<=1000)(hT:Ten w) :
  Calls Tryz.prog 12 #[.string ⟨word.toArray⟩,.slice A l.length c] w fun e w'=>e=.returned (.string ⟨(YE word l).toArray⟩)/\Ext w w':=by
 have NL:=fun(q:List Int) (h:Ints q)=>VZ q word h
 replace NL:=Hd NL;have WR:=Hd (fun(n:Int) (h:-9223372036854775808<=n/\n<=9223372036854775807) (W:World) (x:Ext w W)=>WV n h.1 h.2 W (hT.ext x));have IL:=Hd il;go_enter Tryz.func12,Tryz.ntmps12;go_wp2_with (fail);go_loopw [0,6,9] (fun v _ u wr=>∃ (k:Nat) (L:Txt),v=.string ⟨L.toArray⟩/\u=.int .i64 (k:Int)/\k<=l.length/\Hid (L=YX word (l.take k))/\Hid (Ext w wr)) (fun _ _ u _=>l.length-(intOf u).toNat)
 case atStart=>exact⟨0,word,rfl,rfl,by omega,Hd (by simp[YX]),XI⟩
 case round =>
  obtain⟨wo,rfl⟩:=Wq wr;obtain⟨k,L,rfl,rfl,hk,hL,X⟩:=hrel;have hlen:=NL.out (l.take k) (fun x hx=>IL.out x (List.mem_of_mem_take hx));rw[<-hL.out,List.length_take] at hlen;have hl9:L.length<=6000:=by
   have:=Nat.min_le_left k l.length;omega
  by_cases hlt:k<l.length
  ·obtain⟨b,off,x,rfl,hb,hc,hx,hd⟩:=(hA.ext X.out).at hlt
   have hi:=IL.out x (List.mem_of_getElem? hx.out);have hsn:=Zge hx.out;have W1:=Hd (WR.out x hi);have li:=Lib.itoa_length_le x hi.1 hi.2;obtain⟨D,hD⟩:∃ D,Lib.itoa x=D:=⟨_,rfl⟩;rw[hD] at W1 li;have hL2:Hid (L++([32]++D)=YX word (l.take (k+1))):=Hd (by rw[hsn,Zbt,<-hL.out,hD,List.append_assoc]);have e1:(⟨#[32]⟩:ByteArray)++⟨D.toArray⟩=⟨([32]++D).toArray⟩:=ZL [32] D;have e2:(⟨L.toArray⟩:ByteArray)++⟨([32]++D).toArray⟩=⟨(L++([32]++D)).toArray⟩:=ZL _ _;have l1:¬9223372036854775807<1+D.length:=by omega
   have l2:¬9223372036854775807<L.length+(1+D.length):=by omega
   have l3:¬9223372036854775807<L.length+(D.length+1):=by omega
   obtain⟨L2,hL3⟩:∃ L2,L++([32]++D)=L2:=⟨_,rfl⟩;replace e1:=Hd e1;replace e2:=Hd e2;replace hx:=Hd hx;clear hsn hd hD hlen;go_wp2_with (fail);refine(W1.out _ (X.out.tr XI)).mono ?_;rintro e w1 ⟨rfl,x1⟩;have X1:=Hd (X.out.tr (Ext.tr XI x1));clear x1 hc;go_wp2_with (fail);go_roundw
   case rel=>exact⟨k+1,L++([32]++D),by rw[<-e2.out,<-e1.out],by go_num,by omega,hL2,X1.out.tr XI⟩
   case measure=>simp[intOf];omega
  ·obtain rfl:k=l.length:=by omega
   have e1:(⟨L.toArray⟩:ByteArray)++⟨#[10]⟩=⟨(L++[10]).toArray⟩:=ZL L [10];have l1:¬9223372036854775807<L.length+1:=by omega
   have hF:Hid (YE word l=L++[10]):=Hd (by unfold YE;rw[hL.out,List.take_length]);replace e1:=Hd e1;clear hlen;go_wp2_with (fail);go_ret;rw[hF.out];exact⟨by rw[<-e1.out];rfl,X.out.tr XI⟩
theorem Zfs {α:Type}[DecidableEq α]{xs ys:List α}{k:Nat}{x y:α}(hx:xs.drop k=x::xs.drop (k+1))(hy:ys.drop k=y::ys.drop (k+1))(e:decide (xs=ys)=decide (xs.drop k=ys.drop k)) : decide (xs=ys)=(decide (x=y)&&decide (xs.drop (k+1)=ys.drop (k+1))):=by
 rw[e,hx,hy]
 by_cases h:x=y
 ·simp[h]
 ·simp[h]
theorem Zal (A B:Option Addr)(c d:Nat)(xs ys:List Int)(w:World)(hx:RdI w A xs)(hy:RdI w B ys)(lx:xs.length<=1000000000)(ly:ys.length<=1000000000) :
  Calls Tryz.prog 23 #[.slice A xs.length c,.slice B ys.length d] w fun e w'=>e=.returned (.bool (decide (xs=ys)))/\Ext w w':=by
 by_cases hl:xs.length=ys.length
 ·have e1:((xs.length:Int) != (ys.length:Int))=false:=by simp[hl]
  have hl':=Hd hl;have l2:xs.length<=ys.length:=by omega
  have l3:ys.length<=xs.length:=by omega
  clear hl;go_enter Tryz.func23,Tryz.ntmps23;go_wp2_with (fail);go_loopw [13] (fun i wr=>∃ k:Nat,i=.int .i64 k/\k<=xs.length/\Hid (decide (xs=ys)=decide (xs.drop k=ys.drop k))/\Ext w wr) (fun i _=>xs.length-(intOf i).toNat)
  case atStart=>exact⟨0,rfl,by omega,Hd (by simp),XI⟩
  case round =>
   obtain⟨k,rfl,hk,hH,X⟩:=hrel
   by_cases h1:k<xs.length
   ·have h2:k<ys.length:=by omega
    obtain⟨b,off,x,rfl,_,hc1,_,hd1⟩:=(hx.ext X).at h1;obtain⟨b',off',y,rfl,_,hc2,_,hd2⟩:=(hy.ext X).at h2;have ED:=Hd (Zfs hd1.out hd2.out hH.out);clear hd1 hd2 hH
    by_cases hxy:x=y
    ·have e2:(x != y)=false:=by simp[hxy]
     have EN:Hid (decide (xs=ys)=decide (xs.drop (k+1)=ys.drop (k+1))):=Hd (by rw[ED.out,decide_eq_true hxy,Bool.true_and]);clear ED hxy;go_wp2_with (go_quiet (fail));go_roundw
     case rel=>exact⟨k+1,by go_num,by omega,EN,X.tr XI⟩
     case measure=>simp[intOf];omega
    ·have e2:(x != y)=true:=by simpa using hxy
     have EN:Hid (decide (xs=ys)=false):=Hd (by rw[ED.out,decide_eq_false hxy,Bool.false_and]);clear ED hxy;go_wp2_with (go_quiet (fail));go_ret;exact⟨by rw[EN.out];rfl,X.tr XI⟩
   ·obtain rfl:k=xs.length:=by omega
    have EN:Hid (decide (xs=ys)=true):=Hd (by rw[hH.out,List.drop_length,hl'.out,List.drop_length];rfl);clear hH;go_wp2_with (fail);go_ret;exact⟨by rw[EN.out];rfl,X⟩
 ·have e1:((xs.length:Int) != (ys.length:Int))=true:=by simp;omega
  have EN:Hid (decide (xs=ys)=false):=Hd (decide_eq_false fun h=>hl (by rw[h]));clear hl;go_enter Tryz.func23,Tryz.ntmps23;go_wp2_with (fail);go_ret;exact⟨by rw[EN.out];rfl,XI⟩
theorem VD {n:Int}(h:-9223372036854775808<=n/\n<=9223372036854775807) : IntKind.i64.wrap (IntKind.u64.wrap n)=n:=by
 by_cases h0:0<=n
 ·rw[IntWalk.u64_in n (by omega),IntWalk.i64_in n (by omega)]
 ·have e:IntKind.u64.wrap n=n+18446744073709551616:=by
   simp only[IntKind.wrap,IntKind.bits,IntKind.signed,Bool.false_and];rw[if_neg (by decide)];omega
  rw[e,IntKind.wrap_i64];omega
def We (n:Int) : Prop:=-9223372036854775808<=n/\n<=9223372036854775807
structure PartP.In (p:PartP) : Prop where
 kind:We p.kind
 count:We p.count
 who:We p.who
 every:We p.every
 seed:We p.seed
structure ScrP.In (s:ScrP) : Prop where
 wk:We s.wk
 sl:We s.sl
 lv:We s.lv
 draws:Ints s.draws
 parts:∀ p∈s.parts,p.In
theorem YT (w:Txt)(a:Int) : YE w [a]=w++32::Lib.itoa a++[10]:=by simp[YE,YX]
theorem Zft (w:Txt)(a b:Int) : YE w [a,b]=w++32::(Lib.itoa a++32::Lib.itoa b)++[10]:=by simp[YE,YX]
theorem Zfu (w:Txt)(a b c:Int) : YE w [a,b,c]=w++32::(Lib.itoa a++32::(Lib.itoa b++32::Lib.itoa c))++[10]:=by simp[YE,YX]
theorem V4 {p:PartP}(h:p.In) : (XG p).length<=80:=by
 have a:=Lib.itoa_length_le p.count h.count.1 h.count.2;have b:=Lib.itoa_length_le p.who h.who.1 h.who.2;have c:=Lib.itoa_length_le p.every h.every.1 h.every.2;have d:=Lib.itoa_length_le p.seed h.seed.1 h.seed.2;unfold XG;split
 ·simp[Vj];omega
 split
 ·simp[WB];omega
 split
 ·simp[WD];omega
 ·simp[Zbj];omega
theorem ZcV (p:PartP)(w:World)(h:p.In)(hT:Ten w) :
  Calls Tryz.prog 13 #[.agg (Jc p)] w fun e w'=>e=.returned (.string ⟨(XG p++[10]).toArray⟩)/\Ext w w':=by
 have LN:=Hd (fun(word:Txt) (lw:word.length<=1000) (l:List Int) (il:Ints l) (ll:l.length<=200) (W:World) (x:Ext w W) (A:Option Addr) (c:Nat) (hA:RdI W A l)=>XU word A c l W hA il ll lw (hT.ext x));obtain⟨RT,hRT⟩:∃ RT,Hid (XG p++[10]=RT):=⟨_,Hd rfl⟩;rw[hRT.out];obtain⟨hk,hc,hw,he,hs⟩:=h;obtain⟨k0,k1,k2,k3,k4⟩:=p;simp only at hk hc hw he hs;unfold Jc;simp only;have hub:=VD hs;obtain⟨u4,hu4⟩:∃ u4,IntKind.u64.wrap k4=u4:=⟨_,rfl⟩;rw[hu4] at hub ⊢;replace hu4:=Hd hu4;unfold XG at hRT;simp only at hRT;have B1:Hid (Blk (w.alloc (.cells #[.int .i64 k0,.int .i64 k1,.int .i64 k2,.int .i64 k3,.int .u64 u4] 46)) w.heap.size 46 #[.int .i64 k0,.int .i64 k1,.int .i64 k2,.int .i64 k3,.int .u64 u4]):=Hd (.new rfl);have X1:Hid (Ext w (w.alloc (.cells #[.int .i64 k0,.int .i64 k1,.int .i64 k2,.int .i64 k3,.int .u64 u4] 46))):=Hd ((Ext.rf w).alloc _);have hubH:=Hd hub;clear hT;go_enter Tryz.func13,Tryz.ntmps13;go_upto_region 1 with(fail);generalize w.alloc (.cells #[.int .i64 k0,.int .i64 k1,.int .i64 k2,.int .i64 k3,.int .u64 u4] 46)=w1 at *;generalize w.heap.size=g at *;have b0:w1.cell? ⟨g,0,none⟩=some (.int .i64 k0):=(B1.out.cell 0);have b1:w1.cell? ⟨g,1,none⟩=some (.int .i64 k1):=(B1.out.cell 1);have b2:w1.cell? ⟨g,2,none⟩=some (.int .i64 k2):=(B1.out.cell 2);have b3:w1.cell? ⟨g,3,none⟩=some (.int .i64 k3):=(B1.out.cell 3);have b4:w1.cell? ⟨g,4,none⟩=some (.int .u64 u4):=(B1.out.cell 4)
 by_cases h1:k0=1
 ·rw[if_pos h1] at hRT
  have LX:=Hd (LN.out [114,111,117,110,100] (by simp) [k1] (fun x hx=>by simp at hx;subst hx;exact hc) (by simp));rw[YT] at LX;have e1:Hid ([114,111,117,110,100]++32::Lib.itoa k1++[10]=RT):=hRT;rw[e1.out] at LX;subst h1;clear LN hub b2 b3 b4;go_wp2_with (fail);refine(LX.out _ (X1.out.tr XI) _ _ (RdI.blk (Blk.new rfl) rfl)).mono ?_;rintro e w2 ⟨rfl,x2⟩;go_wp2_with (fail);go_ret;exact⟨rfl,X1.out.tr (Ext.tr XI x2)⟩
 ·rw[if_neg h1] at hRT
  have q1:(k0==1)=false:=beq_eq_false_iff_ne.2 h1
  by_cases h2:k0=2
  ·rw[if_pos h2] at hRT
   have LX:=Hd (LN.out [102,97,118,111,114] (by simp) [k2,k3,k1] (fun x hx=>by simp at hx;rcases hx with rfl | rfl | rfl;exact hw;exact he;exact hc) (by simp));rw[Zfu] at LX;have e1:Hid ([102,97,118,111,114]++32::(Lib.itoa k2++32::(Lib.itoa k3++32::Lib.itoa k1))++[10]=RT):=hRT;rw[e1.out] at LX;subst h2;clear LN hub b4 h1 q1;go_wp2_with (fail);refine(LX.out _ (X1.out.tr XI) _ _ (RdI.blk (Blk.new rfl) rfl)).mono ?_;rintro e w2 ⟨rfl,x2⟩;go_wp2_with (fail);go_ret;exact⟨rfl,X1.out.tr (Ext.tr XI x2)⟩
  ·rw[if_neg h2] at hRT
   have q2:(k0==2)=false:=beq_eq_false_iff_ne.2 h2
   by_cases h3:k0=3
   ·rw[if_pos h3] at hRT
    have LX:=Hd (LN.out [109,105,120,101,100] (by simp) [k1,k4] (fun x hx=>by simp at hx;rcases hx with rfl | rfl;exact hc;exact hs) (by simp));rw[Zft] at LX;have e1:Hid ([109,105,120,101,100]++32::(Lib.itoa k1++32::Lib.itoa k4)++[10]=RT):=hRT;rw[e1.out] at LX;subst h3;clear LN b2 b3 h1 h2 q1 q2;go_wp2_with (fail);refine(LX.out _ (X1.out.tr XI) _ _ (RdI.blk (Blk.new rfl) rfl)).mono ?_;rintro e w2 ⟨rfl,x2⟩;go_wp2_with (fail);go_ret;exact⟨rfl,X1.out.tr (Ext.tr XI x2)⟩
   ·rw[if_neg h3] at hRT
    have q3:(k0==3)=false:=beq_eq_false_iff_ne.2 h3;have LX:=Hd (LN.out [97,108,108] (by simp) [k1] (fun x hx=>by simp at hx;subst hx;exact hc) (by simp));rw[YT] at LX;have e1:Hid ([97,108,108]++32::Lib.itoa k1++[10]=RT):=hRT;rw[e1.out] at LX;clear LN hub b2 b3 b4 h1 h2 h3;go_wp2_with (fail);refine(LX.out _ (X1.out.tr XI) _ _ (RdI.blk (Blk.new rfl) rfl)).mono ?_;rintro e w2 ⟨rfl,x2⟩;go_wp2_with (fail);go_ret;exact⟨rfl,X1.out.tr (Ext.tr XI x2)⟩
theorem Je : ∀ (l:List PartP) (k:Nat) (e:PartP),l[k]?=some e->∀ j v,(Vc e)[j]?=some v->(ZU l)[k*5+j]?=some v
 | [],k,e,h,_,_,_=>by simp at h
 | a::l,0,e,h,j,v,hj=>by
  obtain rfl:a=e:=by simpa using h
  unfold ZU;rw[List.flatMap_cons,Nat.zero_mul,Nat.zero_add,List.getElem?_append_left (List.getElem?_eq_some_iff.1 hj).1];exact hj
 | a::l,k+1,e,h,j,v,hj=>by
  have ih:=Je l k e (by simpa using h) j v hj;unfold ZU at ih ⊢;have e6:(Vc a).length=5:=rfl;rw[List.flatMap_cons,List.getElem?_append_right (by rw[e6,Nat.succ_mul];omega),e6];rw[show (k+1)*5+j-5=k*5+j by rw[Nat.succ_mul];omega];exact ih
theorem RdV.prt {w:World}{t:TypeId}{A:Option Addr}{l:List PartP}(h:RdV w t A (ZU l)){k:Nat}{e:PartP}(he:l[k]?=some e) :
  ∃ b off,A=some ⟨b,off,none⟩/\b<w.heap.size/\w.cell? ⟨b,off+k*5,none⟩=some (.int .i64 e.kind)/\w.cell? ⟨b,off+k*5+1,none⟩=some (.int .i64 e.count)/\w.cell? ⟨b,off+k*5+2,none⟩=some (.int .i64 e.who)/\w.cell? ⟨b,off+k*5+3,none⟩=some (.int .i64 e.every)/\w.cell? ⟨b,off+k*5+4,none⟩=some (.int .u64 (IntKind.u64.wrap e.seed)):=by
 have hk:=(List.getElem?_eq_some_iff.1 he).1;obtain⟨b,off,rfl,hb,hc⟩:=h.form (fun h0=>by
  have:=Qg l;rw[h0] at this;simp at this;omega)
 have at_:=fun j v (hj:(Vc e)[j]?=some v)=>hc _ v (Je l k e he j v hj)
 refine⟨b,off,rfl,hb,?_,?_,?_,?_,?_⟩
 ·exact at_ 0 _ rfl
 ·exact at_ 1 _ rfl
 ·exact at_ 2 _ rfl
 ·exact at_ 3 _ rfl
 ·exact at_ 4 _ rfl
theorem Zam (A:Option Addr)(c:Nat)(xs:List PartP)(B:Option Addr)(d:Nat)(ys:List PartP)(w:World)(hA:RdV w 46 A (ZU xs))(hB:RdV w 46 B (ZU ys))(hx:∀ p∈xs,p.In)(hy:∀ p∈ys,p.In)(lx:xs.length<=1000000)(ly:ys.length<=1000000) :
  Calls Tryz.prog 24 #[.slice A xs.length c,.slice B ys.length d] w fun e w'=>e=.returned (.bool (decide (xs=ys)))/\Ext w w':=by
 obtain⟨R,hR⟩:∃ R,Hid (decide (xs=ys)=R):=⟨_,rfl⟩;rw[hR.out]
 by_cases hl:xs.length=ys.length
 ·obtain⟨n,hn⟩:∃ n,Hid (xs.length=n):=⟨_,Hd rfl⟩
  have hm:Hid (ys.length=n):=Hd (by rw[<-hl,hn.out]);rw[hn.out] at lx;rw[hn.out,hm.out];clear hl ly;replace hA:=Hd hA;replace hB:=Hd hB;replace hx:=Hd hx;replace hy:=Hd hy;go_enter Tryz.func24,Tryz.ntmps24;go_wp2_with (fail);go_loopw [13] (fun kv wr=>∃ k:Nat,kv=.int .i64 k/\k<=n/\Hid (∀ j,j<k->xs[j]?=ys[j]?)/\Hid (Ext w wr)) (fun kv _=>n-(intOf kv).toNat)
  case atStart=>exact⟨0,rfl,by omega,Hd (fun j hj=>by omega),Hd XI⟩
  case round =>
   obtain⟨k,rfl,hk,HN,Y⟩:=hrel
   by_cases hlt:k<n
   ·have hlt2:(k:Int)<(n:Int):=by omega
    obtain⟨p,hp⟩:∃ p,xs[k]?=some p:=⟨_,List.getElem?_eq_getElem (by rw[hn.out];exact hlt)⟩;obtain⟨q,hq⟩:∃ q,ys[k]?=some q:=⟨_,List.getElem?_eq_getElem (by rw[hm.out];exact hlt)⟩;obtain⟨ba,oa,rfl,za,a0,a1,a2,a3,a4⟩:=(hA.out.ext Y.out).prt hp;obtain⟨bb,ob,rfl,zb,b0,b1,b2,b3,b4⟩:=(hB.out.ext Y.out).prt hq;have sp:=(hx.out p (List.mem_of_getElem? hp)).seed;have sq:=(hy.out q (List.mem_of_getElem? hq)).seed;have rA:Hid (∀ W,Ext wr W->W.cell? ⟨ba,oa+k*5,none⟩=some (.int .i64 p.kind)/\W.cell? ⟨ba,oa+k*5+1,none⟩=some (.int .i64 p.count)/\W.cell? ⟨ba,oa+k*5+2,none⟩=some (.int .i64 p.who)/\W.cell? ⟨ba,oa+k*5+3,none⟩=some (.int .i64 p.every)/\W.cell? ⟨ba,oa+k*5+4,none⟩=some (.int .u64 (IntKind.u64.wrap p.seed))):=Hd fun W X=>⟨Zb X za a0,Zb X za a1,Zb X za a2,Zb X za a3,Zb X za a4⟩
    have rB:Hid (∀ W,Ext wr W->W.cell? ⟨bb,ob+k*5,none⟩=some (.int .i64 q.kind)/\W.cell? ⟨bb,ob+k*5+1,none⟩=some (.int .i64 q.count)/\W.cell? ⟨bb,ob+k*5+2,none⟩=some (.int .i64 q.who)/\W.cell? ⟨bb,ob+k*5+3,none⟩=some (.int .i64 q.every)/\W.cell? ⟨bb,ob+k*5+4,none⟩=some (.int .u64 (IntKind.u64.wrap q.seed))):=Hd fun W X=>⟨Zb X zb b0,Zb X zb b1,Zb X zb b2,Zb X zb b3,Zb X zb b4⟩
    clear a0 a1 a2 a3 a4 b0 b1 b2 b3 b4
    by_cases hpq:p=q
    ·have HN2:Hid (∀ j,j<k+1->xs[j]?=ys[j]?):=Hd fun j hj=>by
      by_cases hjk:j=k
      ·rw[hjk,hp,hq,hpq]
      ·exact HN.out j (by omega)
     subst hpq;clear hp hq HN sp sq;obtain⟨k0,k1,k2,k3,k4⟩:=p;simp only at rA rB;generalize IntKind.u64.wrap k4=u4 at *;go_upto_region 6 with(fail);refine wp_region_any (by kernel_rfl) ?_
     change wpAny _ _ _ _ _ _ _ (World.drew _)
     refine Za 0 (.move (.tmp 0)) 32 (some 16) rfl (by kernel_rfl) Hq (by intro _;go_simp;try rfl) ?_;simp only[lay];refine Za 1 (.move (.tmp 5)) 3 (some 17) rfl (by kernel_rfl) Hq (by intro _;go_simp;try rfl) ?_;simp only[lay];refine Za 2 (.indexAddr 32 (.tmp 16) (.tmp 17)) 0 (some 18) rfl (by kernel_rfl) Hq (by intro _;go_simp;try rfl) ?_;simp only[lay];refine Za 4 (.move (.tmp 1)) 32 (some 20) rfl (by kernel_rfl) Hq (by intro _;go_simp;try rfl) ?_;simp only[lay];refine Za 5 (.move (.tmp 5)) 3 (some 21) rfl (by kernel_rfl) Hq (by intro _;go_simp;try rfl) ?_;simp only[lay];refine Za 6 (.indexAddr 32 (.tmp 20) (.tmp 21)) 0 (some 22) rfl (by kernel_rfl) Hq (by intro _;go_simp;try rfl) ?_;simp only[lay];refine Zh (n:=1) [(3,some 19),(7,some 23)] (Ext wr) (VF (fun | 3=>some (.agg #[.int .i64 k0,.int .i64 k1,.int .i64 k2,.int .i64 k3,.int .u64 u4]) | 7=>some (.agg #[.int .i64 k0,.int .i64 k1,.int .i64 k2,.int .i64 k3,.int .u64 u4]) | _=>none) (fun i v W=>True)) Ext #[true,true,true,true,true,true,true,true,false] (by decide +kernel) (VF.stab ?_) ?_ ?_ (by first | exact(Ext.rf _).drew | exact Ext.rf _)
     ·intro j v W W' _ _ _;trivial
     ·intro pS hpm uS wS hRW hD K hK
      simp only[List.mem_cons,List.not_mem_nil,or_false] at hpm;rcases hpm with rfl | rfl
      ·( have rX:=rA.out _ hRW;exact Ze (T:=46) (x:=Operand.tmp 18) (t:=46) (d:=some 19) rfl (.pointer (some ⟨ba,oa+k*5,none⟩)) (by kernel_rfl) (.agg #[.int .i64 k0,.int .i64 k1,.int .i64 k2,.int .i64 k3,.int .u64 u4]) (by go_simp) (hK _ _ (VF.mk rfl) hRW (Ext.rf _)))
      ·( have rX:=rB.out _ hRW;exact Ze (T:=46) (x:=Operand.tmp 22) (t:=46) (d:=some 23) rfl (.pointer (some ⟨bb,ob+k*5,none⟩)) (by kernel_rfl) (.agg #[.int .i64 k0,.int .i64 k1,.int .i64 k2,.int .i64 k3,.int .u64 u4]) (by go_simp) (hK _ _ (VF.mk rfl) hRW (Ext.rf _)))
     intro u w9 hR9 hV;have h3:=(hV (3,some 19) (by simp)).k rfl;have h7:=(hV (7,some 23) (by simp)).k rfl;simp only[Zc,h3,h7];clear hV h3 h7
     try simp only[lay]
     refine Zu (i:=8) (op:=Op.binOp BinOp.neq 46 (Operand.tmp 19) (Operand.tmp 23) 46) (t:=4) (d:=some 24) (v:=.bool false) rfl (by decide +kernel) (by decide +kernel) (by decide +kernel) Hq ?_ ?_
     ·(intro _;unfold Zj;go_simp;skip)
     try simp only[lay]
     refine wpAny_done (by kernel_rfl) ?_ _;go_simp;have Y9:=Hd (Y.out.tr hR9);clear rA rB hR9;go_wp2_with (fail);go_roundw
     case rel=>exact⟨k+1,by go_num,by omega,HN2,Hd (Y9.out.tr XI)⟩
     case measure=>simp[intOf];omega
    ·have e1:Hid (R=false):=Hd (by
      rw[<-hR.out];exact decide_eq_false fun h=>hpq (by rw[h,hq] at hp;injection hp with hp;exact hp.symm))
     have NE:p.kind=q.kind->p.count=q.count->p.who=q.who->p.every=q.every->¬IntKind.u64.wrap p.seed=IntKind.u64.wrap q.seed:=fun h0 h1 h2 h3 h4=>hpq (by
      have h5:p.seed=q.seed:=by rw[<-VD sp,<-VD sq,h4]
      cases p;cases q;simp_all)
     clear hp hq HN sp sq hpq;obtain⟨k0,k1,k2,k3,k4⟩:=p;obtain⟨j0,j1,j2,j3,j4⟩:=q;simp only at rA rB NE;generalize IntKind.u64.wrap k4=u4 at *;generalize IntKind.u64.wrap j4=v4 at *;replace NE:=Hd NE;go_upto_region 6 with(fail);refine wp_region_any (by kernel_rfl) ?_
     change wpAny _ _ _ _ _ _ _ (World.drew _)
     refine Za 0 (.move (.tmp 0)) 32 (some 16) rfl (by kernel_rfl) Hq (by intro _;go_simp;try rfl) ?_;simp only[lay];refine Za 1 (.move (.tmp 5)) 3 (some 17) rfl (by kernel_rfl) Hq (by intro _;go_simp;try rfl) ?_;simp only[lay];refine Za 2 (.indexAddr 32 (.tmp 16) (.tmp 17)) 0 (some 18) rfl (by kernel_rfl) Hq (by intro _;go_simp;try rfl) ?_;simp only[lay];refine Za 4 (.move (.tmp 1)) 32 (some 20) rfl (by kernel_rfl) Hq (by intro _;go_simp;try rfl) ?_;simp only[lay];refine Za 5 (.move (.tmp 5)) 3 (some 21) rfl (by kernel_rfl) Hq (by intro _;go_simp;try rfl) ?_;simp only[lay];refine Za 6 (.indexAddr 32 (.tmp 20) (.tmp 21)) 0 (some 22) rfl (by kernel_rfl) Hq (by intro _;go_simp;try rfl) ?_;simp only[lay];refine Zh (n:=1) [(3,some 19),(7,some 23)] (Ext wr) (VF (fun | 3=>some (.agg #[.int .i64 k0,.int .i64 k1,.int .i64 k2,.int .i64 k3,.int .u64 u4]) | 7=>some (.agg #[.int .i64 j0,.int .i64 j1,.int .i64 j2,.int .i64 j3,.int .u64 v4]) | _=>none) (fun i v W=>True)) Ext #[true,true,true,true,true,true,true,true,false] (by decide +kernel) (VF.stab ?_) ?_ ?_ (by first | exact(Ext.rf _).drew | exact Ext.rf _)
     ·intro j v W W' _ _ _;trivial
     ·intro pS hpm uS wS hRW hD K hK
      simp only[List.mem_cons,List.not_mem_nil,or_false] at hpm;rcases hpm with rfl | rfl
      ·( have rX:=rA.out _ hRW;exact Ze (T:=46) (x:=Operand.tmp 18) (t:=46) (d:=some 19) rfl (.pointer (some ⟨ba,oa+k*5,none⟩)) (by kernel_rfl) (.agg #[.int .i64 k0,.int .i64 k1,.int .i64 k2,.int .i64 k3,.int .u64 u4]) (by go_simp) (hK _ _ (VF.mk rfl) hRW (Ext.rf _)))
      ·( have rX:=rB.out _ hRW;exact Ze (T:=46) (x:=Operand.tmp 22) (t:=46) (d:=some 23) rfl (.pointer (some ⟨bb,ob+k*5,none⟩)) (by kernel_rfl) (.agg #[.int .i64 j0,.int .i64 j1,.int .i64 j2,.int .i64 j3,.int .u64 v4]) (by go_simp) (hK _ _ (VF.mk rfl) hRW (Ext.rf _)))
     intro u w9 hR9 hV;have h3:=(hV (3,some 19) (by simp)).k rfl;have h7:=(hV (7,some 23) (by simp)).k rfl;simp only[Zc,h3,h7];clear hV h3 h7
     try simp only[lay]
     refine Zu (i:=8) (op:=Op.binOp BinOp.neq 46 (Operand.tmp 19) (Operand.tmp 23) 46) (t:=4) (d:=some 24) (v:=.bool true) rfl (by decide +kernel) (by decide +kernel) (by decide +kernel) Hq ?_ ?_
     ·(intro _;unfold Zj;go_simp;exact NE.out)
     try simp only[lay]
     refine wpAny_done (by kernel_rfl) ?_ _;go_simp;have Y9:=Hd (Y.out.tr hR9);clear rA rB hR9 NE;go_wp2_with (fail);go_ret;rw[e1.out];exact⟨rfl,Y9.out.tr XI⟩
   ·have hlt2:¬(k:Int)<(n:Int):=by omega
    obtain rfl:k=n:=by omega
    have e1:Hid (R=true):=Hd (by
     rw[<-hR.out];refine decide_eq_true (List.ext_getElem? fun j=>?_)
     by_cases hj:j<k
     ·exact HN.out j hj
     ·rw[List.getElem?_eq_none (by rw[hn.out];omega),List.getElem?_eq_none (by rw[hm.out];omega)])
    clear HN hA hB;go_wp2_with (fail);go_ret;rw[e1.out];exact⟨rfl,Y.out.tr XI⟩
 ·have e1:Hid (R=false):=Hd (by rw[<-hR.out];exact decide_eq_false fun h=>hl (by rw[h]))
  obtain⟨n1,h1⟩:∃ n,Hid (xs.length=n):=⟨_,rfl⟩;obtain⟨n2,h2⟩:∃ n,Hid (ys.length=n):=⟨_,rfl⟩;rw[h1.out,h2.out] at hl;rw[h1.out,h2.out];have q1:((n1:Int)==(n2:Int))=false:=beq_eq_false_iff_ne.2 (by omega);have q2:((n1:Int) != (n2:Int))=true:=bne_iff_ne.2 (by omega);clear hA hB hx hy lx ly hR h1 h2 hl;go_enter Tryz.func24,Tryz.ntmps24;go_wp2_with (fail);go_ret;rw[e1.out];exact⟨rfl,XI⟩
def ScrRd (s:ScrP)(A:Option Addr)(B:Option Addr)(w:World) : Prop:=RdI w A s.draws/\RdV w 46 B (ZU s.parts)
theorem ScrRd.ext {s:ScrP}{A B:Option Addr}{w w':World}(h:ScrRd s A B w)(x:Ext w w') : ScrRd s A B w':=⟨h.1.ext x,h.2.ext x⟩
theorem Zbu (s r:ScrP)(A:Option Addr)(a:Nat)(B:Option Addr)(b:Nat)(A2:Option Addr)(a2:Nat)(B2:Option Addr)(b2:Nat)(w:World)(H:ScrRd s A B w)(H2:ScrRd r A2 B2 w)(hs:s.In)(hr:r.In)(ls:s.parts.length<=1000000)(lr:r.parts.length<=1000000)(ld:s.draws.length<=1000000000)(ld2:r.draws.length<=1000000000) :
  Calls Tryz.prog 14 #[.agg (ZV s A a B b),.agg (ZV r A2 a2 B2 b2)] w fun e w'=>e=.returned (.bool (decide (s=r)))/\Ext w w':=by
 have EI:=Hd (fun(W:World) (X:Ext w W)=>Zal A A2 a a2 s.draws r.draws W (H.1.ext X) (H2.1.ext X) ld ld2);have EP:=Hd (fun(W:World) (X:Ext w W)=>Zam B b s.parts B2 b2 r.parts W (H.2.ext X) (H2.2.ext X) hs.parts hr.parts ls lr);obtain⟨R,hR⟩:∃ R,Hid (decide (s=r)=R):=⟨_,rfl⟩;rw[hR.out];clear hs hr ls lr ld ld2 H H2;obtain⟨s0,s1,s2,sd,sp⟩:=s;obtain⟨r0,r1,r2,rd,rp⟩:=r;unfold ZV;simp only at EI EP ⊢;have RF:Hid (¬(s0=r0/\s1=r1/\s2=r2/\sd=rd/\sp=rp)->R=false):=Hd fun h=>by
  rw[<-hR.out];exact decide_eq_false fun e=>h (by injection e with a b c d f;exact⟨a,b,c,d,f⟩)
 have RT:Hid (s0=r0/\s1=r1/\s2=r2/\sd=rd/\sp=rp->R=true):=Hd fun h=>by
  rw[<-hR.out];obtain⟨rfl,rfl,rfl,rfl,rfl⟩:=h;exact decide_eq_true rfl
 clear hR;have BS:Hid (Blk ((w.alloc (.cells #[.int .i64 s0,.int .i64 s1,.int .i64 s2,.slice A sd.length a,.slice B sp.length b] 34)).alloc (.cells #[.int .i64 r0,.int .i64 r1,.int .i64 r2,.slice A2 rd.length a2,.slice B2 rp.length b2] 34)) w.heap.size 34 #[.int .i64 s0,.int .i64 s1,.int .i64 s2,.slice A sd.length a,.slice B sp.length b]):=Hd (.alloc (.new rfl) _);have BR:Hid (Blk ((w.alloc (.cells #[.int .i64 s0,.int .i64 s1,.int .i64 s2,.slice A sd.length a,.slice B sp.length b] 34)).alloc (.cells #[.int .i64 r0,.int .i64 r1,.int .i64 r2,.slice A2 rd.length a2,.slice B2 rp.length b2] 34)) (w.heap.size+1) 34 #[.int .i64 r0,.int .i64 r1,.int .i64 r2,.slice A2 rd.length a2,.slice B2 rp.length b2]):=Hd (.new (by simp));have X1:Hid (Ext w ((w.alloc (.cells #[.int .i64 s0,.int .i64 s1,.int .i64 s2,.slice A sd.length a,.slice B sp.length b] 34)).alloc (.cells #[.int .i64 r0,.int .i64 r1,.int .i64 r2,.slice A2 rd.length a2,.slice B2 rp.length b2] 34))):=Hd (((Ext.rf w).alloc _).alloc _);obtain⟨nd,hnd⟩:∃ n,sd.length=n:=⟨_,rfl⟩;obtain⟨md,hmd⟩:∃ n,rd.length=n:=⟨_,rfl⟩;obtain⟨np,hnp⟩:∃ n,sp.length=n:=⟨_,rfl⟩;obtain⟨mp,hmp⟩:∃ n,rp.length=n:=⟨_,rfl⟩;rw[hnd,hmd] at EI;rw[hnp,hmp] at EP;rw[hnd,hmd,hnp,hmp] at BS BR X1;rw[hnd,hmd,hnp,hmp];clear hnd hmd hnp hmp;obtain⟨dq,hdq⟩:∃ dq,decide (sd=rd)=dq:=⟨_,rfl⟩;obtain⟨pq,hpq⟩:∃ pq,decide (sp=rp)=pq:=⟨_,rfl⟩;rw[hdq] at EI;rw[hpq] at EP;replace hdq:=Hd hdq;replace hpq:=Hd hpq;go_enter Tryz.func14,Tryz.ntmps14;go_upto_region 1 with(fail);generalize (w.alloc (.cells #[.int .i64 s0,.int .i64 s1,.int .i64 s2,.slice A nd a,.slice B np b] 34)).alloc (.cells #[.int .i64 r0,.int .i64 r1,.int .i64 r2,.slice A2 md a2,.slice B2 mp b2] 34)=w1 at *;obtain⟨g1,hg1⟩:∃ g,g=w.heap.size:=⟨_,rfl⟩;obtain⟨g2,hg2⟩:∃ g,g=w.heap.size+1:=⟨_,rfl⟩;rw[<-hg1] at BS;rw[<-hg2] at BR;rw[<-hg2,<-hg1];clear hg1 hg2;have a0:w1.cell? ⟨g1,0,none⟩=some (.int .i64 s0):=(BS.out.cell 0);have a1:w1.cell? ⟨g1,1,none⟩=some (.int .i64 s1):=(BS.out.cell 1);have a2':w1.cell? ⟨g1,2,none⟩=some (.int .i64 s2):=(BS.out.cell 2);have a3:w1.cell? ⟨g1,3,none⟩=some (.slice A nd a):=(BS.out.cell 3);have a4:w1.cell? ⟨g1,4,none⟩=some (.slice B np b):=(BS.out.cell 4);have b0:w1.cell? ⟨g2,0,none⟩=some (.int .i64 r0):=(BR.out.cell 0);have b1:w1.cell? ⟨g2,1,none⟩=some (.int .i64 r1):=(BR.out.cell 1);have b2':w1.cell? ⟨g2,2,none⟩=some (.int .i64 r2):=(BR.out.cell 2);have b3:w1.cell? ⟨g2,3,none⟩=some (.slice A2 md a2):=(BR.out.cell 3);have b4:w1.cell? ⟨g2,4,none⟩=some (.slice B2 mp b2):=(BR.out.cell 4);have z1:=BS.out.lt;have z2:=BR.out.lt
 by_cases h0:s0=r0
 ·by_cases h1:s1=r1
  ·by_cases h2:s2=r2
   ·subst h0
    subst h1;subst h2
    cases dq with
    | false =>
     have e1:Hid (R=false):=Hd (RF.out fun h=>of_decide_eq_false hdq.out h.2.2.2.1);clear RF RT EP;go_wp2_with (go_at_call 23;refine(EI.out _ (X1.out.tr XI)).mono ?_;rintro e w2 ⟨rfl,x2⟩;have y2:=Ext.tr (a:=w1) XI x2);go_ret;rw[e1.out];exact⟨rfl,X1.out.tr (y2.tr XI)⟩
    | true =>
     have e1:Hid (R=pq):=Hd (by
      cases pq with
      | true=>exact RT.out ⟨rfl,rfl,rfl,of_decide_eq_true hdq.out,of_decide_eq_true hpq.out⟩
      | false=>exact RF.out fun h=>of_decide_eq_false hpq.out h.2.2.2.2)
     clear RF RT;go_wp2_with (first | (go_at_call 23;refine(EI.out _ (X1.out.tr XI)).mono ?_;rintro e w2 ⟨rfl,x2⟩;have y2:=Ext.tr (a:=w1) XI x2;have a4:w2.cell? ⟨g1,4,none⟩=some (.slice B np b):=Zb y2 z1 a4;have b4:w2.cell? ⟨g2,4,none⟩=some (.slice B2 mp b2):=Zb y2 z2 b4) | (go_at_call 24;refine(EP.out _ (X1.out.tr (y2.tr XI))).mono ?_;rintro e w3 ⟨rfl,x3⟩;have y3:=y2.tr (Ext.tr (a:=w2) XI x3)));go_ret;rw[e1.out];exact⟨rfl,X1.out.tr (y3.tr XI)⟩
   ·have e1:Hid (R=false):=Hd (RF.out fun h=>h2 h.2.2.1)
    clear RF RT EP EI;go_wp2_with (fail);go_ret;rw[e1.out];exact⟨rfl,X1.out.tr XI⟩
  ·have e1:Hid (R=false):=Hd (RF.out fun h=>h1 h.2.1)
   clear RF RT EP EI;go_wp2_with (fail);go_ret;rw[e1.out];exact⟨rfl,X1.out.tr XI⟩
 ·have e1:Hid (R=false):=Hd (RF.out fun h=>h0 h.1)
  clear RF RT EP EI;go_wp2_with (fail);go_ret;rw[e1.out];exact⟨rfl,X1.out.tr XI⟩
theorem Xz {ws:List Txt}{ms l:List Int}(h:Zn ws ms=some l) : ∀ x∈l,0<=x/\x<1000000000000000000:=fun x hx=>by
 obtain⟨h1,h2,h3⟩:=Yh h;obtain⟨i,hi,rfl⟩:=List.mem_iff_getElem.1 hx;have:=h3 i _ _ (List.getElem?_eq_getElem hi) (List.getElem?_eq_getElem (show i<ms.length by omega));exact⟨this.1,this.2.2⟩
theorem Xv {x:Int}(h:0<=x/\x<1000000000000000000) : We x:=⟨by omega,by omega⟩
theorem Zei {ws:List Txt}{wk:Int}{p:PartP}(h:Xi ws wk=some p) : p.In:=by
 have z:We 0:=⟨by omega,by omega⟩;have z1:We 1:=⟨by omega,by omega⟩;have z2:We 2:=⟨by omega,by omega⟩;have z3:We 3:=⟨by omega,by omega⟩;have z4:We 4:=⟨by omega,by omega⟩;unfold Xi at h;split at h
 ·split at h
  ·rename_i a hn
   have q:=Xz hn
   injection h with h
   subst h;exact⟨z1,Xv (q a (by simp)),z,z,z⟩
  ·cases h
 split at h
 ·split at h
  ·rename_i a hn
   have q:=Xz hn
   injection h with h
   subst h;exact⟨z4,Xv (q a (by simp)),z,z,z⟩
  ·cases h
 split at h
 ·split at h
  ·rename_i a b c hn
   have q:=Xz hn;split at h
   ·cases h
   ·injection h with h
    subst h;exact⟨z2,Xv (q c (by simp)),Xv (q a (by simp)),Xv (q b (by simp)),z⟩
  ·cases h
 split at h
 ·split at h
  ·rename_i a b hn
   have q:=Xz hn
   injection h with h
   subst h;exact⟨z3,Xv (q a (by simp)),z,z,Xv (q b (by simp))⟩
  ·cases h
 ·cases h
theorem Zej {s:ScrP}{said:List Txt}{l:Txt}(h:s.In){r:ScrP×List Txt}(e:YD s said l=some r) : r.1.In:=by
 unfold YD at e;split at e
 ·injection e with e;subst e;exact h
 ·cases hs:Zp 32 l with
  | nil=>exact absurd hs (Xx 32 l)
  | cons x ws =>
   rw[hs] at e;have hz:∀ m i,Yl s said (x::ws) m (Ys s i)=some r->r.1.In:=fun m i e=>by
    rw[Y0] at e;split at e
    ·split at e
     ·rename_i n hn
      split at e
      ·cases e
      ·injection e with e;subst e
       have q:=Xv (Xz hn n (by simp));show (Ys s i n).In;unfold Ys;split
       ·exact⟨q,h.sl,h.lv,h.draws,h.parts⟩
       split
       ·exact⟨h.wk,q,h.lv,h.draws,h.parts⟩
       ·exact⟨h.wk,h.sl,q,h.draws,h.parts⟩
     ·cases e
    ·cases e
   by_cases h0:x=Zs
   ·subst h0;rw[WG] at e;exact hz _ _ e
   by_cases h1:x=ZK
   ·subst h1;rw[WH] at e;exact hz _ _ e
   by_cases h2:x=ZE
   ·subst h2;rw[WJ] at e;exact hz _ _ e
   by_cases h3:x=ZB
   ·rw[Wd s said x ws h3] at e
    unfold XZ at e;split at e
    ·cases hn:Zn ws (List.replicate ws.length ZX) with
     | none=>rw[hn] at e;cases e
     | some dd =>
      rw[hn] at e;simp only[Option.map_some] at e;injection e with e;subst e;exact⟨h.wk,h.sl,h.lv,fun y hy=>(List.mem_append.1 hy).elim (h.draws y) (fun hy=>Xv (Xz hn y hy)),h.parts⟩
    ·cases e
   ·rw[Xj h0 h1 h2 h3] at e
    unfold Yb at e;split at e
    ·rename_i p hp
     split at e
     ·cases e
     ·injection e with e;subst e
      exact⟨h.wk,h.sl,h.lv,h.draws,fun y hy=>(List.mem_append.1 hy).elim (h.parts y) (fun hy=>by rw[List.mem_singleton.1 hy];exact Zei hp)⟩
    ·cases e
theorem Zct : scr0.In:=⟨⟨by decide,by decide⟩,⟨by decide,by decide⟩,⟨by decide,by decide⟩,fun x hx=>(by cases hx),fun x hx=>(by cases hx)⟩
theorem Zfv : scrS.In:=⟨⟨by decide,by decide⟩,⟨by decide,by decide⟩,⟨by decide,by decide⟩,fun x hx=>(by cases hx),fun x hx=>(by cases hx)⟩
theorem Zan : ∀ (ls:List Txt) (s:ScrP) (said:List Txt) (n:Int) (k:Nat),s.In->ScrIn k s said->(YV s said n ls).1.In/\(YV s said n ls).1.draws.length<=100*(k+ls.length)/\(YV s said n ls).1.parts.length<=k+ls.length
 | [],s,said,n,k,h,hi=>by
  rw[YV];obtain⟨a,b,c,d,e⟩:=hi;exact⟨h,by simpa using c,by simpa using d⟩
 | l::ls,s,said,n,k,h,hi=>by
  rw[YV]
  cases e:YD s said l with
  | none=>exact⟨Zct,by simp[scr0],by simp[scr0]⟩
  | some r =>
   have:=Zan ls r.1 r.2 (n+1) (k+1) (Zej h e) (Qj hi e);simp only;refine⟨this.1,?_,?_⟩
   ·have:=this.2.1;rw[List.length_cons];omega
   ·have:=this.2.2;rw[List.length_cons];omega
theorem Jf (t:Txt) : (ZM t).1.In/\(ZM t).1.draws.length<=1000000000/\(ZM t).1.parts.length<=1000000:=by
 unfold ZM;split
 ·exact⟨Zct,by simp[scr0],by simp[scr0]⟩
 ·have h:=Zan (Zp 10 t) scrS [] 1 0 Zfv ScrIn.start
  have:=YZ (c:=10) t;exact⟨h.1,by omega,by omega⟩
theorem Qo (word:Txt) : ∀ l:List Int,YX word l=word++l.flatMap fun n=>32::Lib.itoa n:=by
 intro l
 induction l generalizing word with
 | nil=>simp[YX]
 | cons n l ih =>
  have e:YX word (n::l)=YX (word++[32]++Lib.itoa n) l:=rfl;rw[e,ih];simp
def XK (s:ScrP) : Txt:=YE Zs [s.wk]++YE ZK [s.sl]++YE ZE [s.lv]
def Yp (l:List PartP) : Txt:=l.flatMap fun p=>XG p++[10]
theorem Ur (l:List PartP)(p:PartP) : Yp (l++[p])=Yp l++(XG p++[10]):=by simp[Yp]
theorem Jg (s:ScrP) : ZI s=XK s++Yu s.draws++Yp s.parts:=by
 unfold ZI XK Yp;rw[YT,YT,YT]
theorem V5 {l:List Int}(h:l≠[]) : Yu l=YE ZB l:=by
 unfold Yu YE;rw[if_neg h,Qo]
theorem Qp {s:ScrP}(h:s.In) : (XK s).length<=100:=by
 have a:=Lib.itoa_length_le s.wk h.wk.1 h.wk.2;have b:=Lib.itoa_length_le s.sl h.sl.1 h.sl.2;have c:=Lib.itoa_length_le s.lv h.lv.1 h.lv.2;unfold XK;rw[YT,YT,YT];simp[Zs,ZK,ZE];omega
theorem Qq {l:List Int}(h:Ints l) : (Yu l).length<=6+22*l.length:=by
 by_cases h0:l=[]
 ·subst h0;simp[Yu]
 ·rw[V5 h0]
  have:=VZ l ZB h;unfold YE;rw[List.length_append];simp[ZB] at this ⊢;omega
theorem Qr : ∀ {l:List PartP},(∀ p∈l,p.In)->(Yp l).length<=81*l.length
 | [],_=>by simp[Yp]
 | p::l,h=>by
  have a:=V4 (h p (by simp));have b:=Qr (l:=l) fun q hq=>h q (by simp[hq])
  unfold Yp at b ⊢;rw[List.flatMap_cons,List.length_append,List.length_append,List.length_cons];simp only[List.length_cons,List.length_nil];omega
theorem Zao (s:ScrP)(A:Option Addr)(a:Nat)(B:Option Addr)(b:Nat)(w:World)(H:ScrRd s A B w)(hs:s.In)(ld:s.draws.length<=110)(lp:s.parts.length<=60)(hT:Ten w) :
  Calls Tryz.prog 5 #[.agg (ZV s A a B b)] w fun e w'=>e=.returned (.tuple #[.string ⟨(Yq s).1.toArray⟩,.int .i64 (Yq s).2])/\Ext w w':=by
 have LN:=Hd (fun(W:World) (x:Ext w W) (word:Txt) (lw:word.length<=1000) (l:List Int) (il:Ints l) (ll:l.length<=200) (A:Option Addr) (c:Nat) (hA:RdI W A l)=>XU word A c l W hA il ll lw (hT.ext x));have one:∀ n:Int,We n->Ints [n]:=fun n h x hx=>by simp at hx;subst hx;exact h
 have L1:=Hd (fun(W:World) (x:Ext w W) (z:Nat) (h:Blk W z 3 #[.int .i64 s.wk])=>LN.out W x Zs (by decide) [s.wk] (one _ hs.wk) (by simp) (some ⟨z,0,none⟩) 1 (RdI.blk h rfl));have L2:=Hd (fun(W:World) (x:Ext w W) (z:Nat) (h:Blk W z 3 #[.int .i64 s.sl])=>LN.out W x ZK (by decide) [s.sl] (one _ hs.sl) (by simp) (some ⟨z,0,none⟩) 1 (RdI.blk h rfl));have L3:=Hd (fun(W:World) (x:Ext w W) (z:Nat) (h:Blk W z 3 #[.int .i64 s.lv])=>LN.out W x ZE (by decide) [s.lv] (one _ hs.lv) (by simp) (some ⟨z,0,none⟩) 1 (RdI.blk h rfl));have LD:=Hd (fun(W:World) (x:Ext w W)=>LN.out W x ZB (by decide) s.draws hs.draws (by omega) A a (H.1.ext x));have PT:=Hd (fun(W:World) (x:Ext w W) (p:PartP) (h:p∈s.parts)=>ZcV p W (hs.parts p h) (hT.ext x));have hh:=Qp hs;have hdl:=Qq hs.draws;have hpl:=Hd (fun k=>Qr (l:=s.parts.take k) fun p hp=>hs.parts p (List.mem_of_mem_take hp));have RO:=Jf (ZI s);have SR:=Hd (fun(W:World) (h:(ZI s).length<=70000)=>Vm (ZI s) W h);have SS:=Hd (fun(r:ScrP) (hr:r.In) (lr:r.parts.length<=1000000) (ld2:r.draws.length<=1000000000) (A2:Option Addr) (a2:Nat) (B2:Option Addr) (b2:Nat) (W:World) (X:Ext w W) (H2:ScrRd r A2 B2 W)=>Zbu r s A2 a2 B2 b2 A a B b W H2 (H.ext X) hr hs lr (by omega) ld2 (by omega));have TX:Hid (ZI s=XK s++Yu s.draws++Yp s.parts):=Hd (Jg s);have hW:Hid (Yq s=if (ZM (ZI s)).2.2=0/\(ZM (ZI s)).1=s then(ZI s,0) else([],8)):=Hd rfl;obtain⟨R,hR⟩:∃ R,Yq s=R:=⟨_,rfl⟩;rw[hR] at hW ⊢;clear hR one;have HH:=Hd H;clear H hT LN;obtain⟨T1,hT1⟩:∃ T,YE Zs [s.wk]=T:=⟨_,rfl⟩;obtain⟨T2,hT2⟩:∃ T,YE ZK [s.sl]=T:=⟨_,rfl⟩;obtain⟨T3,hT3⟩:∃ T,YE ZE [s.lv]=T:=⟨_,rfl⟩;have hd3:Hid (XK s=T1++T2++T3):=Hd (by unfold XK;rw[hT1,hT2,hT3]);rw[hd3.out] at hh;have h1l:T1.length+T2.length+T3.length<=100:=by rw[List.length_append,List.length_append] at hh;exact hh
 rw[hT1] at L1;rw[hT2] at L2;rw[hT3] at L3;clear hT1 hT2 hT3;obtain⟨g,hg⟩:∃ g,Hid (g=w.heap.size):=⟨_,Hd rfl⟩;have B1:Hid (Blk (w.alloc (.cells (ZV s A a B b) 34)) w.heap.size 34 (ZV s A a B b)):=Hd (.new rfl);have X1:Hid (Ext w (w.alloc (.cells (ZV s A a B b) 34))):=Hd ((Ext.rf w).alloc _);rw[<-hg.out] at B1;unfold ZV at B1 X1;unfold ZV;go_enter Tryz.func5,Tryz.ntmps5;go_upto_region 1 with(fail);generalize w.alloc (.cells #[.int .i64 s.wk,.int .i64 s.sl,.int .i64 s.lv,.slice A s.draws.length a,.slice B s.parts.length b] 34)=w1 at *;rw[<-hg.out];have zg:=B1.out.lt;have c0:w1.cell? ⟨g,0,none⟩=some (.int .i64 s.wk):=(B1.out.cell 0);have c1:w1.cell? ⟨g,1,none⟩=some (.int .i64 s.sl):=(B1.out.cell 1);have c2:w1.cell? ⟨g,2,none⟩=some (.int .i64 s.lv):=(B1.out.cell 2);refine wp_region_any (by kernel_rfl) ?_
 change wpAny _ _ _ _ _ _ _ (World.drew _)
 refine Za 0 (.fieldAddr 34 (.tmp 1) 0) 0 (some 10) rfl (by kernel_rfl) Hq (by intro _;go_simp;try rfl) ?_;simp only[lay];refine Za 1 (.fieldAddr 31 (.tmp 10) 0) 0 (some 11) rfl (by kernel_rfl) Hq (by intro _;go_simp;try rfl) ?_;simp only[lay];refine Za 5 (.fieldAddr 34 (.tmp 1) 0) 0 (some 15) rfl (by kernel_rfl) Hq (by intro _;go_simp;try rfl) ?_;simp only[lay];refine Za 6 (.fieldAddr 31 (.tmp 15) 1) 0 (some 16) rfl (by kernel_rfl) Hq (by intro _;go_simp;try rfl) ?_;simp only[lay];refine Za 11 (.fieldAddr 34 (.tmp 1) 0) 0 (some 21) rfl (by kernel_rfl) Hq (by intro _;go_simp;try rfl) ?_;simp only[lay];refine Za 12 (.fieldAddr 31 (.tmp 21) 2) 0 (some 22) rfl (by kernel_rfl) Hq (by intro _;go_simp;try rfl) ?_;simp only[lay];refine Zh (n:=1) [(2,some 12),(3,some 13),(4,some 14),(7,some 17),(8,some 18),(9,some 19),(10,some 20),(13,some 23),(14,some 24),(15,some 25),(16,some 26)] (Ext w1) (VF (fun | 2=>some (.int .i64 s.wk) | 4=>some (.string ⟨T1.toArray⟩) | 7=>some (.int .i64 s.sl) | 9=>some (.string ⟨T2.toArray⟩) | 10=>some (.string ⟨(T1++T2).toArray⟩) | 13=>some (.int .i64 s.lv) | 15=>some (.string ⟨T3.toArray⟩) | 16=>some (.string ⟨((T1++T2)++T3).toArray⟩) | _=>none) (fun i v W=>(i=3->∃ z,v=.slice (some ⟨z,0,none⟩) 1 1/\Blk W z 3 #[.int .i64 s.wk])/\(i=8->∃ z,v=.slice (some ⟨z,0,none⟩) 1 1/\Blk W z 3 #[.int .i64 s.sl])/\(i=14->∃ z,v=.slice (some ⟨z,0,none⟩) 1 1/\Blk W z 3 #[.int .i64 s.lv]))) Ext #[true,true,true,true,true,true,true,true,true,true,true,true,true,true,true,true,true,false] (by decide +kernel) (VF.stab ?_) ?_ ?_ (by first | exact(Ext.rf _).drew | exact Ext.rf _)
 ·intro j v W W' _ gz hx
  obtain⟨g0,g1,g2⟩:=gz;exact⟨fun h=>(g0 h).imp fun z hz=>⟨hz.1,hz.2.ext hx⟩,fun h=>(g1 h).imp fun z hz=>⟨hz.1,hz.2.ext hx⟩,fun h=>(g2 h).imp fun z hz=>⟨hz.1,hz.2.ext hx⟩⟩
 ·intro pS hpm uS wS hRW hD K hK
  simp only[List.mem_cons,List.not_mem_nil,or_false] at hpm;rcases hpm with rfl | rfl | rfl | rfl | rfl | rfl | rfl | rfl | rfl | rfl | rfl
  ·( have rX:=Zb hRW zg c0;exact Ze (T:=3) (x:=Operand.tmp 11) (t:=3) (d:=some 12) rfl (.pointer (some ⟨g,0,none⟩)) (by kernel_rfl) (.int .i64 s.wk) (by go_simp) (hK _ _ (VF.mk rfl) hRW (Ext.rf _)))
  ·(have e2:uS 2=.int .i64 s.wk:=(hD 2 (Zg (by kernel_rfl))).k rfl;exact Zl (op:=Op.buildSlice 22 1 #[(0,Operand.tmp 12)]) (t:=22) (d:=some 13) rfl _ (by simp only[Zc,Act.put,List.setIfInBounds_toArray,List.set_cons_zero,List.set_cons_succ];unfold Zj;(try go_simp);(try simp only[e2]);(try go_simp);(try rfl)) (hK _ _ (VF.mg rfl ⟨(fun _=>⟨_,rfl,.new rfl⟩),(fun h=>absurd h (by decide)),(fun h=>absurd h (by decide))⟩) (hRW.alloc _) ((Ext.rf _).alloc _)))
  ·( obtain⟨z3,e3,b3⟩:=((hD 3 (Zg (by kernel_rfl))).g rfl).1 rfl;exact Zi (f:=12) (xs:=#[Operand.const (Value.string { data:=#[119,111,114,107,101,114,115] }),Operand.tmp 13]) (ts:=#[9,22]) (t:=9) (d:=some 14) rfl #[.string ⟨#[119,111,114,107,101,114,115]⟩,.slice (some ⟨z3,0,none⟩) 1 1] (by go_simp) (Eq.trans (b:=#[.string ⟨#[119,111,114,107,101,114,115]⟩,uS 3]) (by kernel_rfl) (by rw[e3])) _ (L1.out _ (X1.out.tr hRW) z3 b3) (by rintro e w9 ⟨rfl,xx⟩;exact⟨_,rfl,hK _ _ (VF.mk rfl) (hRW.tr xx) xx⟩))
  ·( have rX:=Zb hRW zg c1;exact Ze (T:=3) (x:=Operand.tmp 16) (t:=3) (d:=some 17) rfl (.pointer (some ⟨g,1,none⟩)) (by kernel_rfl) (.int .i64 s.sl) (by go_simp) (hK _ _ (VF.mk rfl) hRW (Ext.rf _)))
  ·(have e7:uS 7=.int .i64 s.sl:=(hD 7 (Zg (by kernel_rfl))).k rfl;exact Zl (op:=Op.buildSlice 22 1 #[(0,Operand.tmp 17)]) (t:=22) (d:=some 18) rfl _ (by simp only[Zc,Act.put,List.setIfInBounds_toArray,List.set_cons_zero,List.set_cons_succ];unfold Zj;(try go_simp);(try simp only[e7]);(try go_simp);(try rfl)) (hK _ _ (VF.mg rfl ⟨(fun h=>absurd h (by decide)),(fun _=>⟨_,rfl,.new rfl⟩),(fun h=>absurd h (by decide))⟩) (hRW.alloc _) ((Ext.rf _).alloc _)))
  ·( obtain⟨z8,e8,b8⟩:=((hD 8 (Zg (by kernel_rfl))).g rfl).2.1 rfl;exact Zi (f:=12) (xs:=#[Operand.const (Value.string { data:=#[115,108,111,116,115] }),Operand.tmp 18]) (ts:=#[9,22]) (t:=9) (d:=some 19) rfl #[.string ⟨#[115,108,111,116,115]⟩,.slice (some ⟨z8,0,none⟩) 1 1] (by go_simp) (Eq.trans (b:=#[.string ⟨#[115,108,111,116,115]⟩,uS 8]) (by kernel_rfl) (by rw[e8])) _ (L2.out _ (X1.out.tr hRW) z8 b8) (by rintro e w9 ⟨rfl,xx⟩;exact⟨_,rfl,hK _ _ (VF.mk rfl) (hRW.tr xx) xx⟩))
  ·(have e4:uS 4=.string ⟨T1.toArray⟩:=(hD 4 (Zg (by kernel_rfl))).k rfl;have e9:uS 9=.string ⟨T2.toArray⟩:=(hD 9 (Zg (by kernel_rfl))).k rfl;exact Ye (t:=9) (d:=some 20) rfl (T1) (T2) (Eq.trans (b:=uS 4) (by kernel_rfl) e4) (Eq.trans (b:=uS 9) (by kernel_rfl) e9) (by(try simp only[List.length_append,List.length_cons,List.length_nil]);omega) (hK _ _ (VF.mk rfl) hRW (Ext.rf _)))
  ·( have rX:=Zb hRW zg c2;exact Ze (T:=3) (x:=Operand.tmp 22) (t:=3) (d:=some 23) rfl (.pointer (some ⟨g,2,none⟩)) (by kernel_rfl) (.int .i64 s.lv) (by go_simp) (hK _ _ (VF.mk rfl) hRW (Ext.rf _)))
  ·(have e13:uS 13=.int .i64 s.lv:=(hD 13 (Zg (by kernel_rfl))).k rfl;exact Zl (op:=Op.buildSlice 22 1 #[(0,Operand.tmp 23)]) (t:=22) (d:=some 24) rfl _ (by simp only[Zc,Act.put,List.setIfInBounds_toArray,List.set_cons_zero,List.set_cons_succ];unfold Zj;(try go_simp);(try simp only[e13]);(try go_simp);(try rfl)) (hK _ _ (VF.mg rfl ⟨(fun h=>absurd h (by decide)),(fun h=>absurd h (by decide)),(fun _=>⟨_,rfl,.new rfl⟩)⟩) (hRW.alloc _) ((Ext.rf _).alloc _)))
  ·( obtain⟨z14,e14,b14⟩:=((hD 14 (Zg (by kernel_rfl))).g rfl).2.2 rfl;exact Zi (f:=12) (xs:=#[Operand.const (Value.string { data:=#[108,101,118,101,108,115] }),Operand.tmp 24]) (ts:=#[9,22]) (t:=9) (d:=some 25) rfl #[.string ⟨#[108,101,118,101,108,115]⟩,.slice (some ⟨z14,0,none⟩) 1 1] (by go_simp) (Eq.trans (b:=#[.string ⟨#[108,101,118,101,108,115]⟩,uS 14]) (by kernel_rfl) (by rw[e14])) _ (L3.out _ (X1.out.tr hRW) z14 b14) (by rintro e w9 ⟨rfl,xx⟩;exact⟨_,rfl,hK _ _ (VF.mk rfl) (hRW.tr xx) xx⟩))
  ·(have e10:uS 10=.string ⟨(T1++T2).toArray⟩:=(hD 10 (Zg (by kernel_rfl))).k rfl;have e15:uS 15=.string ⟨T3.toArray⟩:=(hD 15 (Zg (by kernel_rfl))).k rfl;exact Ye (t:=9) (d:=some 26) rfl ((T1++T2)) (T3) (Eq.trans (b:=uS 10) (by kernel_rfl) e10) (Eq.trans (b:=uS 15) (by kernel_rfl) e15) (by(try simp only[List.length_append,List.length_cons,List.length_nil]);omega) (hK _ _ (VF.mk rfl) hRW (Ext.rf _)))
 intro u w2 hR2 hV;have h2:=(hV (2,some 12) (by simp)).k rfl;have h4:=(hV (4,some 14) (by simp)).k rfl;have h7:=(hV (7,some 17) (by simp)).k rfl;have h9:=(hV (9,some 19) (by simp)).k rfl;have h10:=(hV (10,some 20) (by simp)).k rfl;have h13:=(hV (13,some 23) (by simp)).k rfl;have h15:=(hV (15,some 25) (by simp)).k rfl;have h16:=(hV (16,some 26) (by simp)).k rfl;simp only[Zc,h2,h4,h7,h9,h10,h13,h15,h16];clear hV h2 h4 h7 h9 h10 h13 h15 h16
 try simp only[lay]
 refine Za 17 (.assign (.tmp 26)) 9 (some 4) rfl (by kernel_rfl) Hq (by intro _;go_simp;try rfl) ?_;simp only[lay];refine wpAny_done (by kernel_rfl) ?_ _;have X2:=Hd (X1.out.tr hR2);have B2:=Hd (B1.out.ext hR2);clear c0 c1 c2 L1 L2 L3 hR2 B1 X1;go_simp;obtain⟨H0,hH0⟩:∃ H0,Hid (T1++T2++T3=H0):=⟨_,Hd rfl⟩;have hH1:Hid (T1++(T2++T3)=H0):=Hd (by rw[<-List.append_assoc];exact hH0.out)
 first | rw[hH0.out] | rw[hH1.out]
 have lH0:H0.length<=100:=by rw[hH0.out] at hh;exact hh
 rw[hH0.out] at hd3;rw[hd3.out] at TX;clear hd3 hH0 hH1 h1l hh;have c3:w2.cell? ⟨g,3,none⟩=some (.slice A s.draws.length a):=(B2.out.cell 3);go_upto_if 30 with(fail);go_cut [4] (fun v wx=>∃ t:Txt,v=.string ⟨t.toArray⟩/\Hid (t=H0++Yu s.draws)/\Hid (Ext w2 wx))
 case first =>
  by_cases h0:s.draws=[]
  ·have hl0:s.draws.length=0:=by rw[h0];rfl
   have q1:¬(0:Int)<(s.draws.length:Int):=by omega
   have q2:¬0<s.draws.length:=by omega
   have e1:Hid (H0=H0++Yu s.draws):=Hd (by rw[h0];simp[Yu]);clear hl0 h0 LD PT SR SS;go_wp2_with (fail);go_meet;exact⟨H0,rfl,e1,Hd XI⟩
  ·have hl0:0<s.draws.length:=List.length_pos_iff.2 h0
   have q1:(0:Int)<(s.draws.length:Int):=by omega
   have eD:=V5 h0;rw[eD] at hdl;obtain⟨D,hD⟩:∃ D,YE ZB s.draws=D:=⟨_,rfl⟩;rw[hD] at LD hdl;have e2:Hid (H0++D=H0++Yu s.draws):=Hd (by rw[eD,hD]);have e1:Hid ((⟨H0.toArray⟩:ByteArray)++⟨D.toArray⟩=⟨(H0++D).toArray⟩):=Hd (ZL H0 D);have l1:¬9223372036854775807<H0.length+D.length:=by omega
   clear eD hD h0 PT SR SS;go_wp2_with (fail);refine(LD.out _ (X2.out.tr XI)).mono ?_;rintro e w3 ⟨rfl,x3⟩;have y3:=Hd (Ext.tr (a:=w2) XI x3);clear x3;go_wp2_with (fail);go_meet;exact⟨H0++D,by rw[<-e1.out],e2,Hd (y3.out.tr XI)⟩
 case rest =>
  obtain⟨t1,rfl,ht1,Y⟩:=hcut;have lt1:t1.length<=3000:=by rw[ht1.out,List.length_append];omega
  have TX2:Hid (ZI s=t1++Yp s.parts):=Hd (by rw[TX.out,<-ht1.out]);have X3:=Hd (X2.out.tr Y.out);have B3:=Hd (B2.out.ext Y.out);clear TX ht1 Y X2 B2 LD c3 hdl lH0;obtain⟨n,hn⟩:∃ n,Hid (s.parts.length=n):=⟨_,Hd rfl⟩;rw[hn.out] at lp;have c4:wc.cell? ⟨g,4,none⟩=some (.slice B n b):=by rw[<-hn.out];exact B3.out.cell 4
  go_wp2_with (fail);go_loopw [4,39] (fun tv kv wr=>∃ (k:Nat) (t:Txt),tv=.string ⟨t.toArray⟩/\kv=.int .i64 k/\k<=n/\t.length<=3000+81*k/\Hid (t=t1++Yp (s.parts.take k))/\Hid (Ext wc wr)) (fun _ kv _=>n-(intOf kv).toNat)
  case atStart=>exact⟨0,t1,rfl,rfl,by omega,by omega,Hd (by simp[Yp]),Hd XI⟩
  case round =>
   clear c4;obtain⟨k,t,rfl,rfl,hk,htl,ht,Y⟩:=hrel;have Xr:=Hd (X3.out.tr Y.out);have Br:=Hd (B3.out.ext Y.out)
   by_cases hlt:k<n
   ·have hlt2:(k:Int)<(n:Int):=by omega
    obtain⟨p,hp⟩:∃ p,s.parts[k]?=some p:=⟨_,List.getElem?_eq_getElem (by rw[hn.out];exact hlt)⟩;obtain⟨ba,oa,rfl,za,a0,a1,a2,a3,a4⟩:=(HH.out.ext Xr.out).2.prt hp;have PX:=Hd (fun(W:World) (X:Ext w W)=>PT.out W X p (List.mem_of_getElem? hp));have pl:=V4 (hs.parts p (List.mem_of_getElem? hp));have HT2:Hid (t++(XG p++[10])=t1++Yp (s.parts.take (k+1))):=Hd (by
     have e:s.parts.take (k+1)=s.parts.take k++[p]:=by rw[List.take_add_one,hp];rfl
     rw[e,Ur,ht.out,List.append_assoc])
    obtain⟨PTx,hPTx⟩:∃ T,XG p++[10]=T:=⟨_,rfl⟩;have plx:PTx.length<=81:=by rw[<-hPTx,List.length_append];simp;omega
    rw[hPTx] at PX HT2;obtain⟨k0,k1,k2,k3,k4⟩:=p;unfold Jc at PX;simp only at PX a0 a1 a2 a3 a4;obtain⟨u4,hu4⟩:∃ u4,IntKind.u64.wrap k4=u4:=⟨_,rfl⟩;rw[hu4] at PX a4;have e1:Hid ((⟨t.toArray⟩:ByteArray)++⟨PTx.toArray⟩=⟨(t++PTx).toArray⟩):=Hd (ZL t PTx);have l1:¬9223372036854775807<t.length+PTx.length:=by omega
    have lz:(t++PTx).length<=3000+81*(k+1):=by rw[List.length_append];omega
    clear hu4 hPTx hp pl ht PT SR SS;go_wp2_with (fail);refine(PX.out _ (Xr.out.tr XI)).mono ?_;rintro e w3 ⟨rfl,x3⟩;have y3:=Hd (Y.out.tr (Ext.tr (a:=wr) XI x3));clear x3 PX a0 a1 a2 a3 a4;go_wp2_with (fail);go_roundw
    case rel=>exact⟨k+1,t++PTx,by rw[<-e1.out],by go_num,by omega,lz,HT2,Hd (y3.out.tr XI)⟩
    case measure=>simp[intOf];omega
   ·have hlt2:¬(k:Int)<(n:Int):=by omega
    obtain rfl:k=n:=by omega
    have ht2:ZI s=t:=by rw[TX2.out,ht.out,List.take_of_length_le (by rw[hn.out];exact Nat.le_refl _)]
    rw[ht2] at SR hW RO;replace SR:=Hd (fun(W:World)=>SR.out W (by omega));unfold Vz at SR;obtain⟨RR,hRR⟩:∃ RR,ZM t=RR:=⟨_,rfl⟩;rw[hRR] at SR hW RO;obtain⟨r,rn,re⟩:=RR;simp only at SR hW RO;obtain⟨ro1,ro2,ro3⟩:=RO;have SX:=Hd (SS.out r ro1 ro3 ro2);clear hRR ht2 ht PT SS TX2 ro1 ro2 ro3;go_wp2_with (fail);refine(SR.out _).mono ?_;rintro e w3 ⟨v,rfl,⟨A2,a2,B2,b2,rfl,oi,op⟩,x3⟩;have X4:=Hd (Xr.out.tr (Ext.tr (a:=wr) XI x3));have RD3:Hid (ScrRd r A2 B2 w3):=Hd ⟨oi.read,op.read⟩;have Bg3:=Hd (Br.out.ext (Ext.tr (a:=wr) XI x3));clear x3 oi op SR Xr;have BV:Hid (Blk (w3.alloc (.cells (ZV r A2 a2 B2 b2) 34)) w3.heap.size 34 (ZV r A2 a2 B2 b2)):=Hd (.new rfl);have X5:=Hd (X4.out.alloc (.cells (ZV r A2 a2 B2 b2) 34));have RD5:=Hd (RD3.out.ext ((Ext.rf w3).alloc (.cells (ZV r A2 a2 B2 b2) 34)));have Bg5:=Hd (Bg3.out.ext ((Ext.rf w3).alloc (.cells (ZV r A2 a2 B2 b2) 34)));clear X4 RD3 Bg3;unfold ZV at BV X5 RD5 Bg5 SX;unfold ZV;go_upto_region 10 with(fail);generalize w3.alloc (.cells #[.int .i64 r.wk,.int .i64 r.sl,.int .i64 r.lv,.slice A2 r.draws.length a2,.slice B2 r.parts.length b2] 34)=w5 at *;generalize w3.heap.size=gv at *;have v0:w5.cell? ⟨gv,0,none⟩=some (.int .i64 r.wk):=(BV.out.cell 0);have v1:w5.cell? ⟨gv,1,none⟩=some (.int .i64 r.sl):=(BV.out.cell 1);have v2:w5.cell? ⟨gv,2,none⟩=some (.int .i64 r.lv):=(BV.out.cell 2);have v3:w5.cell? ⟨gv,3,none⟩=some (.slice A2 r.draws.length a2):=(BV.out.cell 3);have v4:w5.cell? ⟨gv,4,none⟩=some (.slice B2 r.parts.length b2):=(BV.out.cell 4);have s0:w5.cell? ⟨g,0,none⟩=some (.int .i64 s.wk):=(Bg5.out.cell 0);have s1:w5.cell? ⟨g,1,none⟩=some (.int .i64 s.sl):=(Bg5.out.cell 1);have s2:w5.cell? ⟨g,2,none⟩=some (.int .i64 s.lv):=(Bg5.out.cell 2);have s3:w5.cell? ⟨g,3,none⟩=some (.slice A s.draws.length a):=(Bg5.out.cell 3);have s4:w5.cell? ⟨g,4,none⟩=some (.slice B s.parts.length b):=(Bg5.out.cell 4)
    by_cases he:re=0
    ·subst he
     obtain⟨q,hq⟩:∃ q,decide (r=s)=q:=⟨_,rfl⟩;have SX2:=Hd (fun(W:World) (X:Ext w5 W)=>SX.out A2 a2 B2 b2 W (X5.out.tr X) (RD5.out.ext X));rw[hq] at SX2
     cases q with
     | false =>
      have e1:Hid (R=([],8)):=Hd (by rw[hW.out,if_neg (fun h=>of_decide_eq_false hq h.2)]);clear SX hq;go_wp2_with (go_at_call 14;refine(SX2.out _ XI).mono ?_;rintro e w6 ⟨rfl,x6⟩);go_ret2;rw[e1.out];exact⟨rfl,X5.out.tr (Ext.tr XI x6)⟩
     | true =>
      have e1:Hid (R=(t,0)):=Hd (by rw[hW.out,if_pos ⟨rfl,of_decide_eq_true hq⟩]);clear SX hq;go_wp2_with (go_at_call 14;refine(SX2.out _ XI).mono ?_;rintro e w6 ⟨rfl,x6⟩);go_ret2;rw[e1.out];exact⟨rfl,X5.out.tr (Ext.tr XI x6)⟩
    ·have q1:(re==0)=false:=beq_eq_false_iff_ne.2 he
     have q2:(re != 0)=true:=by simp[he]
     have e1:Hid (R=([],8)):=Hd (by rw[hW.out,if_neg (fun h=>he h.1)]);clear SX he;go_wp2_with (fail);go_ret2;rw[e1.out];exact⟨rfl,X5.out.tr XI⟩
theorem Vo : ∀ (l:List PartP) (k:Nat) (e:PartP),l[k]?=some e->∀ j v,(Xa e)[j]?=some v->(ZG l)[k*5+j]?=some v
 | [],k,e,h,_,_,_=>by simp at h
 | a::l,0,e,h,j,v,hj=>by
  obtain rfl:a=e:=by simpa using h
  unfold ZG;rw[List.flatMap_cons,Nat.zero_mul,Nat.zero_add,List.getElem?_append_left (List.getElem?_eq_some_iff.1 hj).1];exact hj
 | a::l,k+1,e,h,j,v,hj=>by
  have ih:=Vo l k e (by simpa using h) j v hj;unfold ZG at ih ⊢;have e6:(Xa a).length=5:=rfl;rw[List.flatMap_cons,List.getElem?_append_right (by rw[e6,Nat.succ_mul];omega),e6];rw[show (k+1)*5+j-5=k*5+j by rw[Nat.succ_mul];omega];exact ih
theorem RdV.rprt {w:World}{t:TypeId}{A:Option Addr}{l:List PartP}(h:RdV w t A (ZG l)){k:Nat}{e:PartP}(he:l[k]?=some e) :
  ∃ b off,A=some ⟨b,off,none⟩/\b<w.heap.size/\w.cell? ⟨b,off+k*5,none⟩=some (.int .i64 e.kind)/\w.cell? ⟨b,off+k*5+1,none⟩=some (.int .i64 e.count)/\w.cell? ⟨b,off+k*5+2,none⟩=some (.int .i64 e.who)/\w.cell? ⟨b,off+k*5+3,none⟩=some (.int .i64 e.every)/\w.cell? ⟨b,off+k*5+4,none⟩=some (.int .i64 e.seed):=by
 have hk:=(List.getElem?_eq_some_iff.1 he).1;obtain⟨b,off,rfl,hb,hc⟩:=h.form (fun h0=>by
  have:=XT l;rw[h0] at this;simp at this;omega)
 have at_:=fun j v (hj:(Xa e)[j]?=some v)=>hc _ v (Vo l k e he j v hj)
 refine⟨b,off,rfl,hb,?_,?_,?_,?_,?_⟩
 ·exact at_ 0 _ rfl
 ·exact at_ 1 _ rfl
 ·exact at_ 2 _ rfl
 ·exact at_ 3 _ rfl
 ·exact at_ 4 _ rfl
theorem Zap (p:PartP)(w:World)(h:p.In) :
  Calls Tryz.prog 16 #[.agg (VW p)] w fun e w'=>e=.returned (.string ⟨(XG p).toArray⟩)/\Ext w w':=by
 have WR:=Hd (fun(n:Int) (h:We n) (W:World)=>U8 n h.1 h.2 W);obtain⟨RT,hRT⟩:∃ RT,Hid (XG p=RT):=⟨_,Hd rfl⟩;rw[hRT.out];obtain⟨hk,hc,hw,he,hs⟩:=h;obtain⟨k0,k1,k2,k3,k4⟩:=p;simp only at hk hc hw he hs;unfold VW;simp only;unfold XG at hRT;simp only at hRT;have l1:=Lib.itoa_length_le k1 hc.1 hc.2;have l2:=Lib.itoa_length_le k2 hw.1 hw.2;have l3:=Lib.itoa_length_le k3 he.1 he.2;have l4:=Lib.itoa_length_le k4 hs.1 hs.2;have W1:=Hd (WR.out k1 hc);have W2:=Hd (WR.out k2 hw);have W3:=Hd (WR.out k3 he);have W4:=Hd (WR.out k4 hs);generalize Lib.itoa k1=C1 at *;generalize Lib.itoa k2=C2 at *;generalize Lib.itoa k3=C3 at *;generalize Lib.itoa k4=C4 at *;have B1:Hid (Blk (w.alloc (.cells #[.int .i64 k0,.int .i64 k1,.int .i64 k2,.int .i64 k3,.int .i64 k4] 50)) w.heap.size 50 #[.int .i64 k0,.int .i64 k1,.int .i64 k2,.int .i64 k3,.int .i64 k4]):=Hd (.new rfl);have X1:Hid (Ext w (w.alloc (.cells #[.int .i64 k0,.int .i64 k1,.int .i64 k2,.int .i64 k3,.int .i64 k4] 50))):=Hd ((Ext.rf w).alloc _);clear WR hk hc hw he hs;go_enter Tryz.func16,Tryz.ntmps16;go_upto_region 1 with(fail);generalize w.alloc (.cells #[.int .i64 k0,.int .i64 k1,.int .i64 k2,.int .i64 k3,.int .i64 k4] 50)=w1 at *;generalize w.heap.size=g at *;have zg:=B1.out.lt;have b1:w1.cell? ⟨g,1,none⟩=some (.int .i64 k1):=(B1.out.cell 1);go_upto_region 2 with(fail);refine(W1.out _).mono ?_;rintro e w2 ⟨rfl,x2⟩;have y2:=Ext.tr (a:=w1) XI x2;have X2:=Hd (X1.out.tr y2);have B2:=Hd (B1.out.ext y2);clear x2 y2 W1 B1 X1 b1 zg;go_upto_region 2 with(fail);have zg:=B2.out.lt;have b0:w2.cell? ⟨g,0,none⟩=some (.int .i64 k0):=(B2.out.cell 0);have b2:w2.cell? ⟨g,2,none⟩=some (.int .i64 k2):=(B2.out.cell 2);have b3:w2.cell? ⟨g,3,none⟩=some (.int .i64 k3):=(B2.out.cell 3);have b4:w2.cell? ⟨g,4,none⟩=some (.int .i64 k4):=(B2.out.cell 4)
 by_cases h1:k0=1
 ·rw[if_pos h1] at hRT
  have e1:(⟨#[114,111,117,110,100,32]⟩:ByteArray)++⟨C1.toArray⟩=⟨([114,111,117,110,100,32]++C1).toArray⟩:=ZL [114,111,117,110,100,32] C1;have e2:Hid ([114,111,117,110,100,32]++C1=RT):=hRT;have n1:¬9223372036854775807<6+C1.length:=by omega
  have n2:¬9223372036854775807<C1.length+6:=by omega
  replace e1:=Hd e1;subst h1;clear W2 W3 W4 b2 b3 b4;go_wp2_with (fail);go_ret;rw[<-e2.out,<-e1.out];exact⟨rfl,X2.out.tr XI⟩
 ·rw[if_neg h1] at hRT
  have q1:(k0==1)=false:=beq_eq_false_iff_ne.2 h1
  by_cases h2:k0=2
  ·rw[if_pos h2] at hRT
   have e2:Hid ([102,97,118,111,114,32]++C2++[32]++C3++[32]++C1=RT):=Hd (by rw[<-hRT.out];simp[WB]);subst h2;clear W4 b4 h1 q1;go_upto_region 6 with(fail);refine wp_region_any (by kernel_rfl) ?_
   change wpAny _ _ _ _ _ _ _ (World.drew _)
   refine Za 0 (.fieldAddr 50 (.tmp 1) 2) 0 (some 15) rfl (by kernel_rfl) Hq (by intro _;go_simp;try rfl) ?_;simp only[lay];refine Za 5 (.fieldAddr 50 (.tmp 1) 3) 0 (some 20) rfl (by kernel_rfl) Hq (by intro _;go_simp;try rfl) ?_;simp only[lay];refine Za 10 (.move (.tmp 3)) 9 (some 25) rfl (by kernel_rfl) Hq (by intro _;go_simp;try rfl) ?_;simp only[lay];refine Zh (n:=1) [(1,some 16),(2,some 17),(3,some 18),(4,some 19),(6,some 21),(7,some 22),(8,some 23),(9,some 24),(11,some 26)] (Ext w2) (VF (fun | 1=>some (.int .i64 k2) | 2=>some (.string ⟨C2.toArray⟩) | 3=>some (.string ⟨([102,97,118,111,114,32]++C2).toArray⟩) | 4=>some (.string ⟨(([102,97,118,111,114,32]++C2)++[32]).toArray⟩) | 6=>some (.int .i64 k3) | 7=>some (.string ⟨C3.toArray⟩) | 8=>some (.string ⟨(([102,97,118,111,114,32]++C2++[32])++C3).toArray⟩) | 9=>some (.string ⟨(([102,97,118,111,114,32]++C2++[32]++C3)++[32]).toArray⟩) | 11=>some (.string ⟨(([102,97,118,111,114,32]++C2++[32]++C3++[32])++C1).toArray⟩) | _=>none) (fun i v W=>True)) Ext #[true,true,true,true,true,true,true,true,true,true,true,true,false] (by decide +kernel) (VF.stab ?_) ?_ ?_ (by first | exact(Ext.rf _).drew | exact Ext.rf _)
   ·intro j v W W' _ _ _;trivial
   ·intro pS hpm uS wS hRW hD K hK
    simp only[List.mem_cons,List.not_mem_nil,or_false] at hpm;rcases hpm with rfl | rfl | rfl | rfl | rfl | rfl | rfl | rfl | rfl
    ·( have rX:=Zb hRW zg b2;exact Ze (T:=3) (x:=Operand.tmp 15) (t:=3) (d:=some 16) rfl (.pointer (some ⟨g,2,none⟩)) (by kernel_rfl) (.int .i64 k2) (by go_simp) (hK _ _ (VF.mk rfl) hRW (Ext.rf _)))
    ·(have e1:uS 1=.int .i64 k2:=(hD 1 (Zg (by kernel_rfl))).k rfl;exact Zi (f:=15) (xs:=#[Operand.tmp 16]) (ts:=#[3]) (t:=9) (d:=some 17) rfl #[.int .i64 k2] (by go_simp) (Eq.trans (b:=#[uS 1]) (by kernel_rfl) (by rw[e1])) _ (W2.out _) (by rintro e w9 ⟨rfl,xx⟩;exact⟨_,rfl,hK _ _ (VF.mk rfl) (hRW.tr xx) xx⟩))
    ·(have e2:uS 2=.string ⟨C2.toArray⟩:=(hD 2 (Zg (by kernel_rfl))).k rfl;exact Ye (t:=9) (d:=some 18) rfl ([102,97,118,111,114,32]) (C2) (by kernel_rfl) (Eq.trans (b:=uS 2) (by kernel_rfl) e2) (by(try simp only[List.length_append,List.length_cons,List.length_nil]);omega) (hK _ _ (VF.mk rfl) hRW (Ext.rf _)))
    ·(have e3:uS 3=.string ⟨([102,97,118,111,114,32]++C2).toArray⟩:=(hD 3 (Zg (by kernel_rfl))).k rfl;exact Ye (t:=9) (d:=some 19) rfl (([102,97,118,111,114,32]++C2)) ([32]) (Eq.trans (b:=uS 3) (by kernel_rfl) e3) (by kernel_rfl) (by(try simp only[List.length_append,List.length_cons,List.length_nil]);omega) (hK _ _ (VF.mk rfl) hRW (Ext.rf _)))
    ·( have rX:=Zb hRW zg b3;exact Ze (T:=3) (x:=Operand.tmp 20) (t:=3) (d:=some 21) rfl (.pointer (some ⟨g,3,none⟩)) (by kernel_rfl) (.int .i64 k3) (by go_simp) (hK _ _ (VF.mk rfl) hRW (Ext.rf _)))
    ·(have e6:uS 6=.int .i64 k3:=(hD 6 (Zg (by kernel_rfl))).k rfl;exact Zi (f:=15) (xs:=#[Operand.tmp 21]) (ts:=#[3]) (t:=9) (d:=some 22) rfl #[.int .i64 k3] (by go_simp) (Eq.trans (b:=#[uS 6]) (by kernel_rfl) (by rw[e6])) _ (W3.out _) (by rintro e w9 ⟨rfl,xx⟩;exact⟨_,rfl,hK _ _ (VF.mk rfl) (hRW.tr xx) xx⟩))
    ·(have e4:uS 4=.string ⟨(([102,97,118,111,114,32]++C2)++[32]).toArray⟩:=(hD 4 (Zg (by kernel_rfl))).k rfl;have e7:uS 7=.string ⟨C3.toArray⟩:=(hD 7 (Zg (by kernel_rfl))).k rfl;exact Ye (t:=9) (d:=some 23) rfl (([102,97,118,111,114,32]++C2++[32])) (C3) (Eq.trans (b:=uS 4) (by kernel_rfl) e4) (Eq.trans (b:=uS 7) (by kernel_rfl) e7) (by(try simp only[List.length_append,List.length_cons,List.length_nil]);omega) (hK _ _ (VF.mk rfl) hRW (Ext.rf _)))
    ·(have e8:uS 8=.string ⟨(([102,97,118,111,114,32]++C2++[32])++C3).toArray⟩:=(hD 8 (Zg (by kernel_rfl))).k rfl;exact Ye (t:=9) (d:=some 24) rfl (([102,97,118,111,114,32]++C2++[32]++C3)) ([32]) (Eq.trans (b:=uS 8) (by kernel_rfl) e8) (by kernel_rfl) (by(try simp only[List.length_append,List.length_cons,List.length_nil]);omega) (hK _ _ (VF.mk rfl) hRW (Ext.rf _)))
    ·(have e9:uS 9=.string ⟨(([102,97,118,111,114,32]++C2++[32]++C3)++[32]).toArray⟩:=(hD 9 (Zg (by kernel_rfl))).k rfl;exact Ye (t:=9) (d:=some 26) rfl (([102,97,118,111,114,32]++C2++[32]++C3++[32])) (C1) (Eq.trans (b:=uS 9) (by kernel_rfl) e9) (by kernel_rfl) (by(try simp only[List.length_append,List.length_cons,List.length_nil]);omega) (hK _ _ (VF.mk rfl) hRW (Ext.rf _)))
   intro u w3 hR3 hV;have h1:=(hV (1,some 16) (by simp)).k rfl;have h2:=(hV (2,some 17) (by simp)).k rfl;have h3:=(hV (3,some 18) (by simp)).k rfl;have h4:=(hV (4,some 19) (by simp)).k rfl;have h6:=(hV (6,some 21) (by simp)).k rfl;have h7:=(hV (7,some 22) (by simp)).k rfl;have h8:=(hV (8,some 23) (by simp)).k rfl;have h9:=(hV (9,some 24) (by simp)).k rfl;have h11:=(hV (11,some 26) (by simp)).k rfl;simp only[Zc,h1,h2,h3,h4,h6,h7,h8,h9,h11];clear hV h1 h2 h3 h4 h6 h7 h8 h9 h11
   try simp only[lay]
   refine Za 12 (.assign (.tmp 26)) 9 (some 2) rfl (by kernel_rfl) Hq (by intro _;go_simp;try rfl) ?_;simp only[lay];refine wpAny_done (by kernel_rfl) ?_ _;have e3:Hid (102::97::118::111::114::32::(C2++32::(C3++32::C1))=RT):=Hd (by rw[<-e2.out];simp);have X3:=Hd (X2.out.tr hR3);clear hR3 b0 b2 b3 W2 W3;go_simp;go_wp2_with (fail);go_ret;rw[<-e3.out];exact⟨rfl,X3.out.tr XI⟩
  ·rw[if_neg h2] at hRT
   have q2:(k0==2)=false:=beq_eq_false_iff_ne.2 h2
   by_cases h3:k0=3
   ·rw[if_pos h3] at hRT
    have e1:(⟨#[109,105,120,101,100,32]⟩:ByteArray)++⟨C1.toArray⟩=⟨([109,105,120,101,100,32]++C1).toArray⟩:=ZL [109,105,120,101,100,32] C1;have e3:(⟨([109,105,120,101,100,32]++C1).toArray⟩:ByteArray)++⟨#[32]⟩=⟨([109,105,120,101,100,32]++C1++[32]).toArray⟩:=ZL _ [32];have e4:(⟨([109,105,120,101,100,32]++C1++[32]).toArray⟩:ByteArray)++⟨C4.toArray⟩=⟨([109,105,120,101,100,32]++C1++[32]++C4).toArray⟩:=ZL _ C4;have e2:Hid ([109,105,120,101,100,32]++C1++[32]++C4=RT):=Hd (by rw[<-hRT.out];simp[WD]);have n1:¬9223372036854775807<6+C1.length:=by omega
    have n2:¬9223372036854775807<6+C1.length+1:=by omega
    have n3:¬9223372036854775807<6+C1.length+1+C4.length:=by omega
    have n4:¬9223372036854775807<C1.length+6:=by omega
    have n5:¬9223372036854775807<C1.length+6+1:=by omega
    have n6:¬9223372036854775807<C1.length+6+1+C4.length:=by omega
    replace e1:=Hd e1;replace e3:=Hd e3;replace e4:=Hd e4;subst h3;clear W2 W3 b2 b3 h1 h2 q1 q2;go_wp2_with (fail);refine(W4.out _).mono ?_;rintro e w3 ⟨rfl,x3⟩;have X3:=Hd (X2.out.tr (Ext.tr (a:=w2) XI x3));clear x3 W4;go_wp2_with (fail);go_ret;rw[<-e2.out,<-e4.out,<-e3.out,<-e1.out];exact⟨rfl,X3.out.tr XI⟩
   ·rw[if_neg h3] at hRT
    have q3:(k0==3)=false:=beq_eq_false_iff_ne.2 h3;have e1:(⟨#[97,108,108,32]⟩:ByteArray)++⟨C1.toArray⟩=⟨([97,108,108,32]++C1).toArray⟩:=ZL [97,108,108,32] C1;have e2:Hid ([97,108,108,32]++C1=RT):=hRT;have n1:¬9223372036854775807<4+C1.length:=by omega
    have n2:¬9223372036854775807<C1.length+4:=by omega
    replace e1:=Hd e1;clear W2 W3 W4 b2 b3 b4 h1 h2 h3;go_wp2_with (fail);go_ret;rw[<-e2.out,<-e1.out];exact⟨rfl,X2.out.tr XI⟩
def RScrRd (s:ScrP)(A:Option Addr)(B:Option Addr)(w:World) : Prop:=RdI w A s.draws/\RdV w 50 B (ZG s.parts)
theorem RScrRd.ext {s:ScrP}{A B:Option Addr}{w w':World}(h:RScrRd s A B w)(x:Ext w w') : RScrRd s A B w':=⟨h.1.ext x,h.2.ext x⟩
theorem Us (s r:ScrP)(A:Option Addr)(a:Nat)(B:Option Addr)(b:Nat)(A2:Option Addr)(a2:Nat)(B2:Option Addr)(b2:Nat)(w:World)(H:RScrRd s A B w)(H2:RScrRd r A2 B2 w)(ls:s.parts.length<=1000000)(lr:r.parts.length<=1000000)(ld:s.draws.length<=1000000000)(ld2:r.draws.length<=1000000000) :
  Calls Tryz.prog 10 #[.agg (ZV s A a B b),.agg (ZV r A2 a2 B2 b2)] w fun e w'=>e=.returned (.bool (decide (s=r)))/\Ext w w':=by
 have HA:=Hd H;have HB:=Hd H2;obtain⟨R,hR⟩:∃ R,Hid (decide (s=r)=R):=⟨_,Hd rfl⟩;rw[hR.out];clear H H2;obtain⟨s0,s1,s2,sd,sp⟩:=s;obtain⟨r0,r1,r2,rd,rp⟩:=r;unfold RScrRd at HA HB;unfold ZV;simp only at HA HB ls lr ld ld2 ⊢;have RF:Hid (¬(s0=r0/\s1=r1/\s2=r2/\sd=rd/\sp=rp)->R=false):=Hd fun h=>by
  rw[<-hR.out];exact decide_eq_false fun e=>h (by injection e with a b c d f;exact⟨a,b,c,d,f⟩)
 have RT:Hid (s0=r0/\s1=r1/\s2=r2/\sd=rd/\sp=rp->R=true):=Hd fun h=>by
  rw[<-hR.out];obtain⟨rfl,rfl,rfl,rfl,rfl⟩:=h;exact decide_eq_true rfl
 clear hR;have BS:Hid (Blk ((w.alloc (.cells #[.int .i64 s0,.int .i64 s1,.int .i64 s2,.slice A sd.length a,.slice B sp.length b] 25)).alloc (.cells #[.int .i64 r0,.int .i64 r1,.int .i64 r2,.slice A2 rd.length a2,.slice B2 rp.length b2] 25)) w.heap.size 25 #[.int .i64 s0,.int .i64 s1,.int .i64 s2,.slice A sd.length a,.slice B sp.length b]):=Hd (.alloc (.new rfl) _);have BR:Hid (Blk ((w.alloc (.cells #[.int .i64 s0,.int .i64 s1,.int .i64 s2,.slice A sd.length a,.slice B sp.length b] 25)).alloc (.cells #[.int .i64 r0,.int .i64 r1,.int .i64 r2,.slice A2 rd.length a2,.slice B2 rp.length b2] 25)) (w.heap.size+1) 25 #[.int .i64 r0,.int .i64 r1,.int .i64 r2,.slice A2 rd.length a2,.slice B2 rp.length b2]):=Hd (.new (by simp));have X1:Hid (Ext w ((w.alloc (.cells #[.int .i64 s0,.int .i64 s1,.int .i64 s2,.slice A sd.length a,.slice B sp.length b] 25)).alloc (.cells #[.int .i64 r0,.int .i64 r1,.int .i64 r2,.slice A2 rd.length a2,.slice B2 rp.length b2] 25))):=Hd (((Ext.rf w).alloc _).alloc _);obtain⟨nd,hnd⟩:∃ n,sd.length=n:=⟨_,rfl⟩;obtain⟨md,hmd⟩:∃ n,rd.length=n:=⟨_,rfl⟩;obtain⟨np,hnp⟩:∃ n,sp.length=n:=⟨_,rfl⟩;obtain⟨mp,hmp⟩:∃ n,rp.length=n:=⟨_,rfl⟩;rw[hnd,hmd,hnp,hmp] at BS BR X1;rw[hnd] at ld;rw[hmd] at ld2;rw[hnp] at ls;rw[hmp] at lr;rw[hnd,hmd,hnp,hmp];replace hnd:=Hd hnd;replace hmd:=Hd hmd;replace hnp:=Hd hnp;replace hmp:=Hd hmp;go_enter Tryz.func10,Tryz.ntmps10;go_upto_region 1 with(fail);generalize (w.alloc (.cells #[.int .i64 s0,.int .i64 s1,.int .i64 s2,.slice A nd a,.slice B np b] 25)).alloc (.cells #[.int .i64 r0,.int .i64 r1,.int .i64 r2,.slice A2 md a2,.slice B2 mp b2] 25)=w1 at *;obtain⟨g1,hg1⟩:∃ g,g=w.heap.size:=⟨_,rfl⟩;obtain⟨g2,hg2⟩:∃ g,g=w.heap.size+1:=⟨_,rfl⟩;rw[<-hg1] at BS;rw[<-hg2] at BR;rw[<-hg2,<-hg1];clear hg1 hg2;have cS:Hid (∀ W,Ext w1 W->W.cell? ⟨g1,0,none⟩=some (.int .i64 s0)/\W.cell? ⟨g1,1,none⟩=some (.int .i64 s1)/\W.cell? ⟨g1,2,none⟩=some (.int .i64 s2)/\W.cell? ⟨g1,3,none⟩=some (.slice A nd a)/\W.cell? ⟨g1,4,none⟩=some (.slice B np b)):=Hd fun W X=>⟨(BS.out.ext X).cell 0,(BS.out.ext X).cell 1,(BS.out.ext X).cell 2,(BS.out.ext X).cell 3,(BS.out.ext X).cell 4⟩
 have cR:Hid (∀ W,Ext w1 W->W.cell? ⟨g2,0,none⟩=some (.int .i64 r0)/\W.cell? ⟨g2,1,none⟩=some (.int .i64 r1)/\W.cell? ⟨g2,2,none⟩=some (.int .i64 r2)/\W.cell? ⟨g2,3,none⟩=some (.slice A2 md a2)/\W.cell? ⟨g2,4,none⟩=some (.slice B2 mp b2)):=Hd fun W X=>⟨(BR.out.ext X).cell 0,(BR.out.ext X).cell 1,(BR.out.ext X).cell 2,(BR.out.ext X).cell 3,(BR.out.ext X).cell 4⟩
 obtain⟨a0,a1,a2',a3,a4⟩:=cS.out w1 (Ext.rf _);obtain⟨b0,b1,b2',b3,b4⟩:=cR.out w1 (Ext.rf _);clear BS BR;have FAIL:Hid (R=false->∀ W,Ext w W->(Ending.returned (.bool false)=.returned (.bool R)/\Ext w W)):=Hd fun h W X=>by rw[h];exact⟨rfl,X⟩
 by_cases h0:s0=r0
 case neg =>
  have q1:(s0==r0)=false:=beq_eq_false_iff_ne.2 h0;have q2:(s0 != r0)=true:=bne_iff_ne.2 h0;have e1:=Hd (RF.out fun h=>h0 h.1);clear RF RT h0;go_wp2_with (fail);go_ret;exact FAIL.out e1.out _ (X1.out.tr XI)
 by_cases h1:s1=r1
 case neg =>
  have q1:(s1==r1)=false:=beq_eq_false_iff_ne.2 h1;have q2:(s1 != r1)=true:=bne_iff_ne.2 h1;have e1:=Hd (RF.out fun h=>h1 h.2.1);clear RF RT h1;subst h0;go_wp2_with (fail);go_ret;exact FAIL.out e1.out _ (X1.out.tr XI)
 by_cases h2:s2=r2
 case neg =>
  have q1:(s2==r2)=false:=beq_eq_false_iff_ne.2 h2;have q2:(s2 != r2)=true:=bne_iff_ne.2 h2;have e1:=Hd (RF.out fun h=>h2 h.2.2.1);clear RF RT h2;subst h0;subst h1;go_wp2_with (fail);go_ret;exact FAIL.out e1.out _ (X1.out.tr XI)
 subst h0;subst h1;subst h2
 by_cases hn:nd=md
 case neg =>
  have q1:((nd:Int)==(md:Int))=false:=beq_eq_false_iff_ne.2 (by omega);have q2:((nd:Int) != (md:Int))=true:=bne_iff_ne.2 (by omega);have e1:=Hd (RF.out fun h=>hn (by rw[<-hnd.out,<-hmd.out,h.2.2.2.1]));clear RF RT hn;go_wp2_with (fail);go_ret;exact FAIL.out e1.out _ (X1.out.tr XI)
 by_cases hm:np=mp
 case neg =>
  have q1:((np:Int)==(mp:Int))=false:=beq_eq_false_iff_ne.2 (by omega);have q2:((np:Int) != (mp:Int))=true:=bne_iff_ne.2 (by omega);have e1:=Hd (RF.out fun h=>hm (by rw[<-hnp.out,<-hmp.out,h.2.2.2.2]));clear RF RT hm;subst hn;go_wp2_with (fail);go_ret;exact FAIL.out e1.out _ (X1.out.tr XI)
 subst hn;subst hm;go_wp2_with (fail);go_loopw [5] (fun kv wr=>∃ k:Nat,kv=.int .i64 k/\k<=nd/\Hid (∀ j,j<k->sd[j]?=rd[j]?)/\Hid (Ext w1 wr)) (fun kv _=>nd-(intOf kv).toNat)
 case atStart=>exact⟨0,rfl,by omega,Hd (fun j hj=>by omega),Hd XI⟩
 case round =>
  clear a0 a1 a2' a3 a4 b0 b1 b2' b3 b4;obtain⟨k,rfl,hk,HN,Y⟩:=hrel;obtain⟨a0,a1,a2',a3,a4⟩:=cS.out _ Y.out;obtain⟨b0,b1,b2',b3,b4⟩:=cR.out _ Y.out
  by_cases hlt:k<nd
  ·have hlt2:(k:Int)<(nd:Int):=by omega
   obtain⟨p,hp⟩:∃ p,sd[k]?=some p:=⟨_,List.getElem?_eq_getElem (by rw[hnd.out];exact hlt)⟩;obtain⟨q,hq⟩:∃ q,rd[k]?=some q:=⟨_,List.getElem?_eq_getElem (by rw[hmd.out];exact hlt)⟩;obtain⟨ba,oa,v,rfl,za,ca,ea,-⟩:=(HA.out.1.ext (X1.out.tr Y.out)).at (k:=k) (by rw[hnd.out];exact hlt);obtain⟨bb,ob,v2,rfl,zb,cb,eb,-⟩:=(HB.out.1.ext (X1.out.tr Y.out)).at (k:=k) (by rw[hmd.out];exact hlt);obtain rfl:v=p:=by have h:=ea.out;rw[hp] at h;simpa using h.symm
   obtain rfl:v2=q:=by have h:=eb.out;rw[hq] at h;simpa using h.symm
   have rA:Hid (∀ W,Ext wr W->W.cell? ⟨ba,oa+k,none⟩=some (.int .i64 v)):=Hd fun W X=>Zb X za ca
   have rB:Hid (∀ W,Ext wr W->W.cell? ⟨bb,ob+k,none⟩=some (.int .i64 v2)):=Hd fun W X=>Zb X zb cb
   have cS3:Hid (∀ W,Ext wr W->W.cell? ⟨g1,3,none⟩=some (.slice (some ⟨ba,oa,none⟩) nd a)):=Hd fun W X=>(cS.out W (Y.out.tr X)).2.2.2.1
   have cR3:Hid (∀ W,Ext wr W->W.cell? ⟨g2,3,none⟩=some (.slice (some ⟨bb,ob,none⟩) nd a2)):=Hd fun W X=>(cR.out W (Y.out.tr X)).2.2.2.1
   clear ea eb ca cb;go_upto_region 6 with(fail);refine wp_region_any (by kernel_rfl) ?_
   change wpAny _ _ _ _ _ _ _ (World.drew _)
   refine Za 0 (.fieldAddr 25 (.tmp 2) 3) 0 (some 51) rfl (by kernel_rfl) Hq (by intro _;go_simp;try rfl) ?_;simp only[lay];refine Za 2 (.move (.tmp 5)) 3 (some 53) rfl (by kernel_rfl) Hq (by intro _;go_simp;try rfl) ?_;simp only[lay];refine Za 5 (.fieldAddr 25 (.tmp 3) 3) 0 (some 56) rfl (by kernel_rfl) Hq (by intro _;go_simp;try rfl) ?_;simp only[lay];refine Za 7 (.move (.tmp 5)) 3 (some 58) rfl (by kernel_rfl) Hq (by intro _;go_simp;try rfl) ?_;simp only[lay];refine Zh (n:=1) [(1,some 52),(3,some 54),(4,some 55),(6,some 57),(8,some 59),(9,some 60)] (Ext wr) (VF (fun | 1=>some (.slice (some ⟨ba,oa,none⟩) nd a) | 3=>some (.pointer (some ⟨ba,oa+k,none⟩)) | 4=>some (.int .i64 v) | 6=>some (.slice (some ⟨bb,ob,none⟩) nd a2) | 8=>some (.pointer (some ⟨bb,ob+k,none⟩)) | 9=>some (.int .i64 v2) | _=>none) (fun i v W=>True)) Ext #[true,true,true,true,true,true,true,true,true,true,false] (by decide +kernel) (VF.stab ?_) ?_ ?_ (by first | exact(Ext.rf _).drew | exact Ext.rf _)
   ·intro j v W W' _ _ _;trivial
   ·intro pS hpm uS wS hRW hD K hK
    simp only[List.mem_cons,List.not_mem_nil,or_false] at hpm;rcases hpm with rfl | rfl | rfl | rfl | rfl | rfl
    ·( have rX:=cS3.out _ hRW;exact Ze (T:=22) (x:=Operand.tmp 51) (t:=22) (d:=some 52) rfl (.pointer (some ⟨g1,3,none⟩)) (by kernel_rfl) (.slice (some ⟨ba,oa,none⟩) nd a) (by go_simp) (hK _ _ (VF.mk rfl) hRW (Ext.rf _)))
    ·(have e1:uS 1=.slice (some ⟨ba,oa,none⟩) nd a:=(hD 1 (Zg (by kernel_rfl))).k rfl;exact Zl (op:=Op.indexAddr 22 (Operand.tmp 52) (Operand.tmp 53)) (t:=0) (d:=some 54) rfl (.pointer (some ⟨ba,oa+k,none⟩)) (by simp only[Zc,Act.put,List.setIfInBounds_toArray,List.set_cons_zero,List.set_cons_succ];unfold Zj;(try go_simp);(try simp only[e1]);(try go_simp);(try rfl);(try (exact IntWalk.i64_in _ (by omega)))) (hK _ _ (VF.mk rfl) hRW (Ext.rf _)))
    ·(have e3:uS 3=.pointer (some ⟨ba,oa+k,none⟩):=(hD 3 (Zg (by kernel_rfl))).k rfl;have rX:=rA.out _ hRW;exact Ze (T:=3) (x:=Operand.tmp 54) (t:=3) (d:=some 55) rfl (.pointer (some ⟨ba,oa+k,none⟩)) (Eq.trans (b:=uS 3) (by kernel_rfl) e3) (.int .i64 v) (by go_simp) (hK _ _ (VF.mk rfl) hRW (Ext.rf _)))
    ·( have rX:=cR3.out _ hRW;exact Ze (T:=22) (x:=Operand.tmp 56) (t:=22) (d:=some 57) rfl (.pointer (some ⟨g2,3,none⟩)) (by kernel_rfl) (.slice (some ⟨bb,ob,none⟩) nd a2) (by go_simp) (hK _ _ (VF.mk rfl) hRW (Ext.rf _)))
    ·(have e6:uS 6=.slice (some ⟨bb,ob,none⟩) nd a2:=(hD 6 (Zg (by kernel_rfl))).k rfl;exact Zl (op:=Op.indexAddr 22 (Operand.tmp 57) (Operand.tmp 58)) (t:=0) (d:=some 59) rfl (.pointer (some ⟨bb,ob+k,none⟩)) (by simp only[Zc,Act.put,List.setIfInBounds_toArray,List.set_cons_zero,List.set_cons_succ];unfold Zj;(try go_simp);(try simp only[e6]);(try go_simp);(try rfl);(try (exact IntWalk.i64_in _ (by omega)))) (hK _ _ (VF.mk rfl) hRW (Ext.rf _)))
    ·(have e8:uS 8=.pointer (some ⟨bb,ob+k,none⟩):=(hD 8 (Zg (by kernel_rfl))).k rfl;have rX:=rB.out _ hRW;exact Ze (T:=3) (x:=Operand.tmp 59) (t:=3) (d:=some 60) rfl (.pointer (some ⟨bb,ob+k,none⟩)) (Eq.trans (b:=uS 8) (by kernel_rfl) e8) (.int .i64 v2) (by go_simp) (hK _ _ (VF.mk rfl) hRW (Ext.rf _)))
   intro u w9 hR9 hV;have h1:=(hV (1,some 52) (by simp)).k rfl;have h3:=(hV (3,some 54) (by simp)).k rfl;have h4:=(hV (4,some 55) (by simp)).k rfl;have h6:=(hV (6,some 57) (by simp)).k rfl;have h8:=(hV (8,some 59) (by simp)).k rfl;have h9:=(hV (9,some 60) (by simp)).k rfl;simp only[Zc,h1,h3,h4,h6,h8,h9];clear hV h1 h3 h4 h6 h8 h9
   try simp only[lay]
   refine Za 10 (.binOp .neq 3 (.tmp 55) (.tmp 60) 3) 4 (some 61) rfl (by kernel_rfl) Hq (by intro _;go_simp;try rfl) ?_;simp only[lay];refine wpAny_done (by kernel_rfl) ?_ _;have Y9:=Hd (Y.out.tr hR9);clear rA rB cS3 cR3 hR9 a0 a1 a2' a3 a4 b0 b1 b2' b3 b4;go_simp
   by_cases hpq:v=v2
   ·have HN2:Hid (∀ j,j<k+1->sd[j]?=rd[j]?):=Hd fun j hj=>by
     by_cases hjk:j=k
     ·rw[hjk,hp,hq,hpq]
     ·exact HN.out j (by omega)
    subst hpq;clear hp hq HN;go_wp2_with (fail);go_roundw
    case rel=>exact⟨k+1,by go_num,by omega,HN2,Hd (Y9.out.tr XI)⟩
    case measure=>simp[intOf];omega
   ·have e1:=Hd (RF.out fun h=>hpq (by have h5:=h.2.2.2.1;rw[h5,hq] at hp;injection hp with hp;exact hp.symm))
    have q1:(v==v2)=false:=beq_eq_false_iff_ne.2 hpq;have q2:(v != v2)=true:=bne_iff_ne.2 hpq;clear hp hq HN RF RT hpq;go_wp2_with (fail);go_ret;exact FAIL.out e1.out _ (X1.out.tr (Y9.out.tr XI))
  ·have hlt2:¬(k:Int)<(nd:Int):=by omega
   obtain rfl:k=nd:=by omega
   have ED:Hid (sd=rd):=Hd (by
    refine List.ext_getElem? fun j=>?_
    by_cases hj:j<k
    ·exact HN.out j hj
    ·rw[List.getElem?_eq_none (by rw[hnd.out];omega),List.getElem?_eq_none (by rw[hmd.out];omega)])
   obtain⟨wo,rfl⟩:=Wq wr;clear HN;go_wp2_with (fail);go_loopw [6] (fun kv wr=>∃ j:Nat,kv=.int .i64 j/\j<=np/\Hid (∀ i,i<j->sp[i]?=rp[i]?)/\Hid (Ext wo wr)) (fun kv _=>np-(intOf kv).toNat)
   case atStart=>exact⟨0,rfl,by omega,Hd (fun j hj=>by omega),Hd XI⟩
   case round =>
    clear a0 a1 a2' a3 a4 b0 b1 b2' b3 b4;obtain⟨j,rfl,hj,HN,Y2⟩:=hrel;have Y3:=Hd (Y.out.tr Y2.out);obtain⟨a0,a1,a2',a3,a4⟩:=cS.out _ Y3.out;obtain⟨b0,b1,b2',b3,b4⟩:=cR.out _ Y3.out
    by_cases hlj:j<np
    ·have hlt3:(j:Int)<(np:Int):=by omega
     obtain⟨p,hp⟩:∃ p,sp[j]?=some p:=⟨_,List.getElem?_eq_getElem (by rw[hnp.out];exact hlj)⟩;obtain⟨q,hq⟩:∃ q,rp[j]?=some q:=⟨_,List.getElem?_eq_getElem (by rw[hmp.out];exact hlj)⟩;obtain⟨ba,oa,rfl,za,p0,p1,p2,p3,p4⟩:=(HA.out.2.ext (X1.out.tr Y3.out)).rprt hp;obtain⟨bb,ob,rfl,zb,t0,t1,t2,t3,t4⟩:=(HB.out.2.ext (X1.out.tr Y3.out)).rprt hq;have rA:Hid (∀ W,Ext wr W->W.cell? ⟨ba,oa+j*5,none⟩=some (.int .i64 p.kind)/\W.cell? ⟨ba,oa+j*5+1,none⟩=some (.int .i64 p.count)/\W.cell? ⟨ba,oa+j*5+2,none⟩=some (.int .i64 p.who)/\W.cell? ⟨ba,oa+j*5+3,none⟩=some (.int .i64 p.every)/\W.cell? ⟨ba,oa+j*5+4,none⟩=some (.int .i64 p.seed)):=Hd fun W X=>⟨Zb X za p0,Zb X za p1,Zb X za p2,Zb X za p3,Zb X za p4⟩
     have rB:Hid (∀ W,Ext wr W->W.cell? ⟨bb,ob+j*5,none⟩=some (.int .i64 q.kind)/\W.cell? ⟨bb,ob+j*5+1,none⟩=some (.int .i64 q.count)/\W.cell? ⟨bb,ob+j*5+2,none⟩=some (.int .i64 q.who)/\W.cell? ⟨bb,ob+j*5+3,none⟩=some (.int .i64 q.every)/\W.cell? ⟨bb,ob+j*5+4,none⟩=some (.int .i64 q.seed)):=Hd fun W X=>⟨Zb X zb t0,Zb X zb t1,Zb X zb t2,Zb X zb t3,Zb X zb t4⟩
     have cS4:Hid (∀ W,Ext wr W->W.cell? ⟨g1,4,none⟩=some (.slice (some ⟨ba,oa,none⟩) np b)):=Hd fun W X=>(cS.out W (Y3.out.tr X)).2.2.2.2
     have cR4:Hid (∀ W,Ext wr W->W.cell? ⟨g2,4,none⟩=some (.slice (some ⟨bb,ob,none⟩) np b2)):=Hd fun W X=>(cR.out W (Y3.out.tr X)).2.2.2.2
     clear p0 p1 p2 p3 p4 t0 t1 t2 t3 t4
     by_cases hpq:p=q
     ·have HN2:Hid (∀ i,i<j+1->sp[i]?=rp[i]?):=Hd fun i hi=>by
       by_cases hij:i=j
       ·rw[hij,hp,hq,hpq]
       ·exact HN.out i (by omega)
      subst hpq;clear hp hq HN;obtain⟨k0,k1,k2,k3,k4⟩:=p;simp only at rA rB;go_upto_region 11 with(fail);refine wp_region_any (by kernel_rfl) ?_
      change wpAny _ _ _ _ _ _ _ (World.drew _)
      refine Za 0 (.fieldAddr 25 (.tmp 2) 4) 0 (some 69) rfl (by kernel_rfl) Hq (by intro _;go_simp;try rfl) ?_;simp only[lay];refine Za 2 (.move (.tmp 6)) 3 (some 71) rfl (by kernel_rfl) Hq (by intro _;go_simp;try rfl) ?_;simp only[lay];refine Za 5 (.fieldAddr 25 (.tmp 3) 4) 0 (some 74) rfl (by kernel_rfl) Hq (by intro _;go_simp;try rfl) ?_;simp only[lay];refine Za 7 (.move (.tmp 6)) 3 (some 76) rfl (by kernel_rfl) Hq (by intro _;go_simp;try rfl) ?_;simp only[lay];refine Zh (n:=1) [(1,some 70),(3,some 72),(4,some 73),(6,some 75),(8,some 77),(9,some 78)] (Ext wr) (VF (fun | 1=>some (.slice (some ⟨ba,oa,none⟩) np b) | 3=>some (.pointer (some ⟨ba,oa+j*5,none⟩)) | 4=>some (.agg #[.int .i64 k0,.int .i64 k1,.int .i64 k2,.int .i64 k3,.int .i64 k4]) | 6=>some (.slice (some ⟨bb,ob,none⟩) np b2) | 8=>some (.pointer (some ⟨bb,ob+j*5,none⟩)) | 9=>some (.agg #[.int .i64 k0,.int .i64 k1,.int .i64 k2,.int .i64 k3,.int .i64 k4]) | _=>none) (fun i v W=>True)) Ext #[true,true,true,true,true,true,true,true,true,true,false] (by decide +kernel) (VF.stab ?_) ?_ ?_ (by first | exact(Ext.rf _).drew | exact Ext.rf _)
      ·intro j v W W' _ _ _;trivial
      ·intro pS hpm uS wS hRW hD K hK
       simp only[List.mem_cons,List.not_mem_nil,or_false] at hpm;rcases hpm with rfl | rfl | rfl | rfl | rfl | rfl
       ·( have rX:=cS4.out _ hRW;exact Ze (T:=23) (x:=Operand.tmp 69) (t:=23) (d:=some 70) rfl (.pointer (some ⟨g1,4,none⟩)) (by kernel_rfl) (.slice (some ⟨ba,oa,none⟩) np b) (by go_simp) (hK _ _ (VF.mk rfl) hRW (Ext.rf _)))
       ·(have e1:uS 1=.slice (some ⟨ba,oa,none⟩) np b:=(hD 1 (Zg (by kernel_rfl))).k rfl;exact Zl (op:=Op.indexAddr 23 (Operand.tmp 70) (Operand.tmp 71)) (t:=0) (d:=some 72) rfl (.pointer (some ⟨ba,oa+j*5,none⟩)) (by simp only[Zc,Act.put,List.setIfInBounds_toArray,List.set_cons_zero,List.set_cons_succ];unfold Zj;(try go_simp);(try simp only[e1]);(try go_simp);(try rfl);(try (exact IntWalk.i64_in _ (by omega)))) (hK _ _ (VF.mk rfl) hRW (Ext.rf _)))
       ·(have e3:uS 3=.pointer (some ⟨ba,oa+j*5,none⟩):=(hD 3 (Zg (by kernel_rfl))).k rfl;have rX:=rA.out _ hRW;exact Ze (T:=50) (x:=Operand.tmp 72) (t:=50) (d:=some 73) rfl (.pointer (some ⟨ba,oa+j*5,none⟩)) (Eq.trans (b:=uS 3) (by kernel_rfl) e3) (.agg #[.int .i64 k0,.int .i64 k1,.int .i64 k2,.int .i64 k3,.int .i64 k4]) (by go_simp) (hK _ _ (VF.mk rfl) hRW (Ext.rf _)))
       ·( have rX:=cR4.out _ hRW;exact Ze (T:=23) (x:=Operand.tmp 74) (t:=23) (d:=some 75) rfl (.pointer (some ⟨g2,4,none⟩)) (by kernel_rfl) (.slice (some ⟨bb,ob,none⟩) np b2) (by go_simp) (hK _ _ (VF.mk rfl) hRW (Ext.rf _)))
       ·(have e6:uS 6=.slice (some ⟨bb,ob,none⟩) np b2:=(hD 6 (Zg (by kernel_rfl))).k rfl;exact Zl (op:=Op.indexAddr 23 (Operand.tmp 75) (Operand.tmp 76)) (t:=0) (d:=some 77) rfl (.pointer (some ⟨bb,ob+j*5,none⟩)) (by simp only[Zc,Act.put,List.setIfInBounds_toArray,List.set_cons_zero,List.set_cons_succ];unfold Zj;(try go_simp);(try simp only[e6]);(try go_simp);(try rfl);(try (exact IntWalk.i64_in _ (by omega)))) (hK _ _ (VF.mk rfl) hRW (Ext.rf _)))
       ·(have e8:uS 8=.pointer (some ⟨bb,ob+j*5,none⟩):=(hD 8 (Zg (by kernel_rfl))).k rfl;have rX:=rB.out _ hRW;exact Ze (T:=50) (x:=Operand.tmp 77) (t:=50) (d:=some 78) rfl (.pointer (some ⟨bb,ob+j*5,none⟩)) (Eq.trans (b:=uS 8) (by kernel_rfl) e8) (.agg #[.int .i64 k0,.int .i64 k1,.int .i64 k2,.int .i64 k3,.int .i64 k4]) (by go_simp) (hK _ _ (VF.mk rfl) hRW (Ext.rf _)))
      intro u w9 hR9 hV;have h1:=(hV (1,some 70) (by simp)).k rfl;have h3:=(hV (3,some 72) (by simp)).k rfl;have h4:=(hV (4,some 73) (by simp)).k rfl;have h6:=(hV (6,some 75) (by simp)).k rfl;have h8:=(hV (8,some 77) (by simp)).k rfl;have h9:=(hV (9,some 78) (by simp)).k rfl;simp only[Zc,h1,h3,h4,h6,h8,h9];clear hV h1 h3 h4 h6 h8 h9
      try simp only[lay]
      refine Zu (i:=10) (op:=Op.binOp BinOp.neq 50 (Operand.tmp 73) (Operand.tmp 78) 50) (t:=4) (d:=some 79) (v:=.bool false) rfl (by decide +kernel) (by decide +kernel) (by decide +kernel) Hq ?_ ?_
      ·(intro _;unfold Zj;go_simp;skip)
      try simp only[lay]
      refine wpAny_done (by kernel_rfl) ?_ _;have Y9:=Hd (Y2.out.tr hR9);clear rA rB cS4 cR4 hR9 a0 a1 a2' a3 a4 b0 b1 b2' b3 b4;go_simp;go_wp2_with (fail);go_roundw
      case rel=>exact⟨j+1,by go_num,by omega,HN2,Hd (Y9.out.tr XI)⟩
      case measure=>simp[intOf];omega
     ·have e1:=Hd (RF.out fun h=>hpq (by have h5:=h.2.2.2.2;rw[h5,hq] at hp;injection hp with hp;exact hp.symm))
      have NE:p.kind=q.kind->p.count=q.count->p.who=q.who->p.every=q.every->¬p.seed=q.seed:=fun h0 h1 h2 h3 h4=>hpq (by cases p;cases q;simp_all)
      clear hp hq HN RF RT hpq;obtain⟨k0,k1,k2,k3,k4⟩:=p;obtain⟨j0,j1,j2,j3,j4⟩:=q;simp only at rA rB NE;replace NE:=Hd NE;go_upto_region 11 with(fail);refine wp_region_any (by kernel_rfl) ?_
      change wpAny _ _ _ _ _ _ _ (World.drew _)
      refine Za 0 (.fieldAddr 25 (.tmp 2) 4) 0 (some 69) rfl (by kernel_rfl) Hq (by intro _;go_simp;try rfl) ?_;simp only[lay];refine Za 2 (.move (.tmp 6)) 3 (some 71) rfl (by kernel_rfl) Hq (by intro _;go_simp;try rfl) ?_;simp only[lay];refine Za 5 (.fieldAddr 25 (.tmp 3) 4) 0 (some 74) rfl (by kernel_rfl) Hq (by intro _;go_simp;try rfl) ?_;simp only[lay];refine Za 7 (.move (.tmp 6)) 3 (some 76) rfl (by kernel_rfl) Hq (by intro _;go_simp;try rfl) ?_;simp only[lay];refine Zh (n:=1) [(1,some 70),(3,some 72),(4,some 73),(6,some 75),(8,some 77),(9,some 78)] (Ext wr) (VF (fun | 1=>some (.slice (some ⟨ba,oa,none⟩) np b) | 3=>some (.pointer (some ⟨ba,oa+j*5,none⟩)) | 4=>some (.agg #[.int .i64 k0,.int .i64 k1,.int .i64 k2,.int .i64 k3,.int .i64 k4]) | 6=>some (.slice (some ⟨bb,ob,none⟩) np b2) | 8=>some (.pointer (some ⟨bb,ob+j*5,none⟩)) | 9=>some (.agg #[.int .i64 j0,.int .i64 j1,.int .i64 j2,.int .i64 j3,.int .i64 j4]) | _=>none) (fun i v W=>True)) Ext #[true,true,true,true,true,true,true,true,true,true,false] (by decide +kernel) (VF.stab ?_) ?_ ?_ (by first | exact(Ext.rf _).drew | exact Ext.rf _)
      ·intro j v W W' _ _ _;trivial
      ·intro pS hpm uS wS hRW hD K hK
       simp only[List.mem_cons,List.not_mem_nil,or_false] at hpm;rcases hpm with rfl | rfl | rfl | rfl | rfl | rfl
       ·( have rX:=cS4.out _ hRW;exact Ze (T:=23) (x:=Operand.tmp 69) (t:=23) (d:=some 70) rfl (.pointer (some ⟨g1,4,none⟩)) (by kernel_rfl) (.slice (some ⟨ba,oa,none⟩) np b) (by go_simp) (hK _ _ (VF.mk rfl) hRW (Ext.rf _)))
       ·(have e1:uS 1=.slice (some ⟨ba,oa,none⟩) np b:=(hD 1 (Zg (by kernel_rfl))).k rfl;exact Zl (op:=Op.indexAddr 23 (Operand.tmp 70) (Operand.tmp 71)) (t:=0) (d:=some 72) rfl (.pointer (some ⟨ba,oa+j*5,none⟩)) (by simp only[Zc,Act.put,List.setIfInBounds_toArray,List.set_cons_zero,List.set_cons_succ];unfold Zj;(try go_simp);(try simp only[e1]);(try go_simp);(try rfl);(try (exact IntWalk.i64_in _ (by omega)))) (hK _ _ (VF.mk rfl) hRW (Ext.rf _)))
       ·(have e3:uS 3=.pointer (some ⟨ba,oa+j*5,none⟩):=(hD 3 (Zg (by kernel_rfl))).k rfl;have rX:=rA.out _ hRW;exact Ze (T:=50) (x:=Operand.tmp 72) (t:=50) (d:=some 73) rfl (.pointer (some ⟨ba,oa+j*5,none⟩)) (Eq.trans (b:=uS 3) (by kernel_rfl) e3) (.agg #[.int .i64 k0,.int .i64 k1,.int .i64 k2,.int .i64 k3,.int .i64 k4]) (by go_simp) (hK _ _ (VF.mk rfl) hRW (Ext.rf _)))
       ·( have rX:=cR4.out _ hRW;exact Ze (T:=23) (x:=Operand.tmp 74) (t:=23) (d:=some 75) rfl (.pointer (some ⟨g2,4,none⟩)) (by kernel_rfl) (.slice (some ⟨bb,ob,none⟩) np b2) (by go_simp) (hK _ _ (VF.mk rfl) hRW (Ext.rf _)))
       ·(have e6:uS 6=.slice (some ⟨bb,ob,none⟩) np b2:=(hD 6 (Zg (by kernel_rfl))).k rfl;exact Zl (op:=Op.indexAddr 23 (Operand.tmp 75) (Operand.tmp 76)) (t:=0) (d:=some 77) rfl (.pointer (some ⟨bb,ob+j*5,none⟩)) (by simp only[Zc,Act.put,List.setIfInBounds_toArray,List.set_cons_zero,List.set_cons_succ];unfold Zj;(try go_simp);(try simp only[e6]);(try go_simp);(try rfl);(try (exact IntWalk.i64_in _ (by omega)))) (hK _ _ (VF.mk rfl) hRW (Ext.rf _)))
       ·(have e8:uS 8=.pointer (some ⟨bb,ob+j*5,none⟩):=(hD 8 (Zg (by kernel_rfl))).k rfl;have rX:=rB.out _ hRW;exact Ze (T:=50) (x:=Operand.tmp 77) (t:=50) (d:=some 78) rfl (.pointer (some ⟨bb,ob+j*5,none⟩)) (Eq.trans (b:=uS 8) (by kernel_rfl) e8) (.agg #[.int .i64 j0,.int .i64 j1,.int .i64 j2,.int .i64 j3,.int .i64 j4]) (by go_simp) (hK _ _ (VF.mk rfl) hRW (Ext.rf _)))
      intro u w9 hR9 hV;have h1:=(hV (1,some 70) (by simp)).k rfl;have h3:=(hV (3,some 72) (by simp)).k rfl;have h4:=(hV (4,some 73) (by simp)).k rfl;have h6:=(hV (6,some 75) (by simp)).k rfl;have h8:=(hV (8,some 77) (by simp)).k rfl;have h9:=(hV (9,some 78) (by simp)).k rfl;simp only[Zc,h1,h3,h4,h6,h8,h9];clear hV h1 h3 h4 h6 h8 h9
      try simp only[lay]
      refine Zu (i:=10) (op:=Op.binOp BinOp.neq 50 (Operand.tmp 73) (Operand.tmp 78) 50) (t:=4) (d:=some 79) (v:=.bool true) rfl (by decide +kernel) (by decide +kernel) (by decide +kernel) Hq ?_ ?_
      ·(intro _;unfold Zj;go_simp;exact NE.out)
      try simp only[lay]
      refine wpAny_done (by kernel_rfl) ?_ _;have Y9:=Hd (Y3.out.tr hR9);clear rA rB cS4 cR4 hR9 NE a0 a1 a2' a3 a4 b0 b1 b2' b3 b4;go_simp;go_wp2_with (fail);go_ret;exact FAIL.out e1.out _ (X1.out.tr (Y9.out.tr XI))
    ·have hlt3:¬(j:Int)<(np:Int):=by omega
     obtain rfl:j=np:=by omega
     have e1:=Hd (RT.out ⟨by trivial,by trivial,by trivial,ED.out,by
      refine List.ext_getElem? fun i=>?_
      by_cases hi:i<j
      ·exact HN.out i hi
      ·rw[List.getElem?_eq_none (by rw[hnp.out];omega),List.getElem?_eq_none (by rw[hmp.out];omega)]⟩)
     clear HN RF RT HA HB;go_wp2_with (fail);go_ret;rw[e1.out];exact⟨rfl,X1.out.tr (Y3.out.tr XI)⟩
def Zfw (_:World)(cs:List Value)(p:PartP) : Prop:=cs=Xa p/\p.In
def RScr (w:World)(vs:List Value)(s:ScrP) : Prop:=∃ (A:Option Addr) (a:Nat) (B:Option Addr) (b:Nat),vs=[.int .i64 s.wk,.int .i64 s.sl,.int .i64 s.lv,.slice A s.draws.length a,.slice B s.parts.length b]/\(RdI w A s.draws/\Ints s.draws/\s.draws.length<=a/\a<=maxLen)/\(RdE 5 Zfw w B s.parts/\s.parts.length<=b/\b<=maxLen)
def Zek (s:ScrP) : Prop:=We s.wk/\We s.sl/\We s.lv
section
variable {H:Type} {enc:TypeId×Value->H} {W:World}
theorem Jh : Tryz.prog.cellsOf 50=5:=by kernel_rfl
theorem Zbv : Tryz.prog.cellsOf 23=1:=by kernel_rfl
theorem ZcW : Tryz.prog.cellsOf 25=5:=by kernel_rfl
theorem ZcX : UE enc W 50 Zfw:=fun fuel cs x h=>by
 obtain⟨hlen,_⟩:=J2 Tryz.underlying50 h;rw[Jh] at hlen
 match cs,hlen with
 | [c0,c1,c2,c3,c4],_ =>
  obtain⟨n0,y0,h0⟩:=YI Tryz.underlying50 h 0 3 0 1 rfl Yx;obtain⟨n1,y1,h1⟩:=YI Tryz.underlying50 h 1 3 1 1 rfl Yx;obtain⟨n2,y2,h2⟩:=YI Tryz.underlying50 h 2 3 2 1 rfl Yx;obtain⟨n3,y3,h3⟩:=YI Tryz.underlying50 h 3 3 3 1 rfl Yx;obtain⟨n4,y4,h4⟩:=YI Tryz.underlying50 h 4 3 4 1 rfl Yx;obtain⟨x0,e0,b0⟩:=Yy (W:=W) _ _ _ h0;obtain⟨x1,e1,b1⟩:=Yy (W:=W) _ _ _ h1;obtain⟨x2,e2,b2⟩:=Yy (W:=W) _ _ _ h2;obtain⟨x3,e3,b3⟩:=Yy (W:=W) _ _ _ h3;obtain⟨x4,e4,b4⟩:=Yy (W:=W) _ _ _ h4
  injection e0 with e0
  injection e1 with e1
  injection e2 with e2
  injection e3 with e3
  injection e4 with e4
  subst e0 e1 e2 e3 e4;exact⟨⟨x0,x1,x2,x3,x4⟩,rfl,⟨b0,b1,b2,b3,b4⟩⟩
theorem Zaq {base:Nat}{v:Value}{d:DataW H}{p:List MemPlace}(hd:DataW.Trod enc Tryz.prog W 0 (fun _=>true) true 25 v d p)(hv:Value.okWide Tryz.prog W .any base 25 v) :
  ∃ vs s,v=.agg (List.toArray vs)/\RScr W vs s/\Zek s:=by
 obtain⟨cs,rfl,hsz⟩:=okWide_struct Tryz.underlying25 hv;rw[ZcW] at hsz;obtain⟨l⟩:=cs
 match l,hsz with
 | [c0,c1,c2,c3,c4],_ =>
  obtain⟨fuel,h⟩:=hd;obtain⟨n0,y0,h0⟩:=YI Tryz.underlying25 h 0 3 0 1 rfl Yx;obtain⟨n1,y1,h1⟩:=YI Tryz.underlying25 h 1 3 1 1 rfl Yx;obtain⟨n2,y2,h2⟩:=YI Tryz.underlying25 h 2 3 2 1 rfl Yx;obtain⟨n3,y3,h3⟩:=YI Tryz.underlying25 h 3 22 3 1 rfl ZdX;obtain⟨n4,y4,h4⟩:=YI Tryz.underlying25 h 4 23 4 1 rfl Zbv;obtain⟨x0,e0,b0⟩:=Yy (W:=W) _ _ _ h0;obtain⟨x1,e1,b1⟩:=Yy (W:=W) _ _ _ h1;obtain⟨x2,e2,b2⟩:=Yy (W:=W) _ _ _ h2;obtain⟨l3,A3,a3,e3,r3⟩:=Zbc _ _ _ h3;obtain⟨A4,l4,a4,e4,r4⟩:=ZdS Tryz.underlying23 Jh (by omega) ZcX h4
  injection e0 with e0
  injection e1 with e1
  injection e2 with e2
  injection e3 with e3
  injection e4 with e4
  subst e0 e1 e2 e3 e4;exact⟨_,⟨x0,x1,x2,l3,l4⟩,rfl,⟨A3,a3,A4,a4,rfl,r3,r4⟩,b0,b1,b2⟩
end
theorem RdE.prts {w:World}{A:Option Addr}{xs:List PartP}(h:RdE 5 Zfw w A xs)(n:Nat) : RdC w A (ZG (xs.take n)):=by
 rcases h with rfl | ⟨b,off,rfl,hlt,hc⟩
 ·left;simp[ZG]
 ·refine .inr ⟨b,off,rfl,hlt,fun j v hj=>?_⟩
  have hjl:=(List.getElem?_eq_some_iff.1 hj).1;rw[XT] at hjl;have hk:j / 5<(xs.take n).length:=by omega
  obtain⟨e,he⟩:∃ e,(xs.take n)[j / 5]?=some e:=⟨_,List.getElem?_eq_getElem hk⟩;have he':xs[j / 5]?=some e:=by
   rw[List.getElem?_take] at he;split at he
   ·exact he
   ·cases he
  obtain⟨cs,⟨rfl,_⟩,_,hcell⟩:=hc _ e he';have hm:j%5<5:=Nat.mod_lt _ (by decide);have hv:(Xa e)[j%5]?=some ((Xa e)[j%5]'(by show _<5;exact hm)):=List.getElem?_eq_getElem _;have e6:j / 5*5+j%5=j:=by omega
  have h1:=Vo (xs.take n) (j / 5) e he (j%5) _ hv;rw[e6] at h1;rw[h1] at hj;have h2:=hcell (j%5) _ hv;rw[Nat.add_assoc,e6,hj] at h2;exact h2
theorem RdE.prtsIn {w:World}{A:Option Addr}{xs:List PartP}(h:RdE 5 Zfw w A xs) : ∀ e∈xs,e.In:=by
 intro e he;rcases h with rfl | ⟨b,off,rfl,hlt,hc⟩
 ·cases he
 ·obtain⟨i,hi,rfl⟩:=List.mem_iff_getElem.1 he
  obtain⟨cs,⟨_,h1⟩,_⟩:=hc i _ (List.getElem?_eq_getElem hi);exact h1
theorem QW (l:List PartP) : ∀ u∈ZG l,u.oneCell'=true:=by
 intro u hu;unfold ZG at hu;obtain⟨e,_,he⟩:=List.mem_flatMap.1 hu;unfold Xa at he;simp only[List.mem_cons,List.not_mem_nil,or_false] at he;rcases he with rfl | rfl | rfl | rfl | rfl<;>rfl
end
end Go.Proofs.YtocfmioihaefoaaGreatDoor
