/- parts, packed by a program -/
import Derived.Test.YtocfmioihaefoaaGreatDoorShellWritesP9
import Derived.Handy
set_option maxRecDepth 100000
set_option maxHeartbeats 16000000
set_option linter.all false
namespace Go.Proofs.YtocfmioihaefoaaGreatDoor
section
open Go.RowKit Go.ChangeShapes Go.WideShapes Go.ChangeAt Go.Deep
theorem HStep.of4 {F:Fix}{j g:Nat}{M M':List Int}{P:PoolS}{a a':HAct}{b:Bool}(h:a.ph=4)(hb':(a'.ph==15)=b)(C:∀ W,HW W F.E.bs F.E.gm F.E.gc F.E.gp F.E.gn F.E.go (F.gh j) (hb j) 3 g M P a->Calls Tryz.prog 282 #[.pointer (some ⟨g,0,none⟩)] W fun e w'=>e=.returned (.tuple #[])/\HW w' F.E.bs F.E.gm F.E.gc F.E.gp F.E.gn F.E.go (F.gh j) (hb j) 3 g M' P a'/\Mod (PT g F.E.gm F.E.gc) W w') : HStep F j g M P a M' a' b:=fun W H=>by
 refine(ZcA g (F.gh j) a W H.a h (fun V x=>x=a'/\HW V F.E.bs F.E.gm F.E.gc F.E.gp F.E.gn F.E.go (F.gh j) (hb j) 3 g M' P x/\Mod (PT g F.E.gm F.E.gc) W V) (fun V x h=>h.2.1.a) ((C W H).mono fun e w' h=>⟨h.1,a',rfl,h.2⟩)).mono ?_;rintro e w' ⟨x,rfl,rfl,h1,h2⟩;exact⟨by rw[hb'],h1,h2⟩
theorem HStep.of5 {F:Fix}{j g:Nat}{M M':List Int}{P:PoolS}{a a':HAct}{b:Bool}(h:a.ph=5)(hb':(a'.ph==15)=b)(C:∀ W,HW W F.E.bs F.E.gm F.E.gc F.E.gp F.E.gn F.E.go (F.gh j) (hb j) 3 g M P a->Calls Tryz.prog 283 #[.pointer (some ⟨g,0,none⟩)] W fun e w'=>e=.returned (.tuple #[])/\HW w' F.E.bs F.E.gm F.E.gc F.E.gp F.E.gn F.E.go (F.gh j) (hb j) 3 g M' P a'/\Mod (PT g F.E.gm F.E.gc) W w') : HStep F j g M P a M' a' b:=fun W H=>by
 refine(ZfG g (F.gh j) a W H.a h (fun V x=>x=a'/\HW V F.E.bs F.E.gm F.E.gc F.E.gp F.E.gn F.E.go (F.gh j) (hb j) 3 g M' P x/\Mod (PT g F.E.gm F.E.gc) W V) (fun V x h=>h.2.1.a) ((C W H).mono fun e w' h=>⟨h.1,a',rfl,h.2⟩)).mono ?_;rintro e w' ⟨x,rfl,rfl,h1,h2⟩;exact⟨by rw[hb'],h1,h2⟩
theorem HStep.of6 {F:Fix}{j g:Nat}{M M':List Int}{P:PoolS}{a a':HAct}{b:Bool}(h:a.ph=6)(hb':(a'.ph==15)=b)(C:∀ W,HW W F.E.bs F.E.gm F.E.gc F.E.gp F.E.gn F.E.go (F.gh j) (hb j) 3 g M P a->Calls Tryz.prog 284 #[.pointer (some ⟨g,0,none⟩)] W fun e w'=>e=.returned (.tuple #[])/\HW w' F.E.bs F.E.gm F.E.gc F.E.gp F.E.gn F.E.go (F.gh j) (hb j) 3 g M' P a'/\Mod (PT g F.E.gm F.E.gc) W w') : HStep F j g M P a M' a' b:=fun W H=>by
 refine(ZfH g (F.gh j) a W H.a h (fun V x=>x=a'/\HW V F.E.bs F.E.gm F.E.gc F.E.gp F.E.gn F.E.go (F.gh j) (hb j) 3 g M' P x/\Mod (PT g F.E.gm F.E.gc) W V) (fun V x h=>h.2.1.a) ((C W H).mono fun e w' h=>⟨h.1,a',rfl,h.2⟩)).mono ?_;rintro e w' ⟨x,rfl,rfl,h1,h2⟩;exact⟨by rw[hb'],h1,h2⟩
theorem HStep.of7 {F:Fix}{j g:Nat}{M M':List Int}{P:PoolS}{a a':HAct}{b:Bool}(h:a.ph=7)(hb':(a'.ph==15)=b)(C:∀ W,HW W F.E.bs F.E.gm F.E.gc F.E.gp F.E.gn F.E.go (F.gh j) (hb j) 3 g M P a->Calls Tryz.prog 285 #[.pointer (some ⟨g,0,none⟩)] W fun e w'=>e=.returned (.tuple #[])/\HW w' F.E.bs F.E.gm F.E.gc F.E.gp F.E.gn F.E.go (F.gh j) (hb j) 3 g M' P a'/\Mod (PT g F.E.gm F.E.gc) W w') : HStep F j g M P a M' a' b:=fun W H=>by
 refine(ZfI g (F.gh j) a W H.a h (fun V x=>x=a'/\HW V F.E.bs F.E.gm F.E.gc F.E.gp F.E.gn F.E.go (F.gh j) (hb j) 3 g M' P x/\Mod (PT g F.E.gm F.E.gc) W V) (fun V x h=>h.2.1.a) ((C W H).mono fun e w' h=>⟨h.1,a',rfl,h.2⟩)).mono ?_;rintro e w' ⟨x,rfl,rfl,h1,h2⟩;exact⟨by rw[hb'],h1,h2⟩
theorem HStep.of8 {F:Fix}{j g:Nat}{M M':List Int}{P:PoolS}{a a':HAct}{b:Bool}(h:a.ph=8)(hb':(a'.ph==15)=b)(C:∀ W,HW W F.E.bs F.E.gm F.E.gc F.E.gp F.E.gn F.E.go (F.gh j) (hb j) 3 g M P a->Calls Tryz.prog 286 #[.pointer (some ⟨g,0,none⟩)] W fun e w'=>e=.returned (.tuple #[])/\HW w' F.E.bs F.E.gm F.E.gc F.E.gp F.E.gn F.E.go (F.gh j) (hb j) 3 g M' P a'/\Mod (PT g F.E.gm F.E.gc) W w') : HStep F j g M P a M' a' b:=fun W H=>by
 refine(ZfJ g (F.gh j) a W H.a h (fun V x=>x=a'/\HW V F.E.bs F.E.gm F.E.gc F.E.gp F.E.gn F.E.go (F.gh j) (hb j) 3 g M' P x/\Mod (PT g F.E.gm F.E.gc) W V) (fun V x h=>h.2.1.a) ((C W H).mono fun e w' h=>⟨h.1,a',rfl,h.2⟩)).mono ?_;rintro e w' ⟨x,rfl,rfl,h1,h2⟩;exact⟨by rw[hb'],h1,h2⟩
theorem HStep.of9 {F:Fix}{j g:Nat}{M M':List Int}{P:PoolS}{a a':HAct}{b:Bool}(h:a.ph=9)(hb':(a'.ph==15)=b)(C:∀ W,HW W F.E.bs F.E.gm F.E.gc F.E.gp F.E.gn F.E.go (F.gh j) (hb j) 3 g M P a->Calls Tryz.prog 287 #[.pointer (some ⟨g,0,none⟩)] W fun e w'=>e=.returned (.tuple #[])/\HW w' F.E.bs F.E.gm F.E.gc F.E.gp F.E.gn F.E.go (F.gh j) (hb j) 3 g M' P a'/\Mod (PT g F.E.gm F.E.gc) W w') : HStep F j g M P a M' a' b:=fun W H=>by
 refine(ZfK g (F.gh j) a W H.a h (fun V x=>x=a'/\HW V F.E.bs F.E.gm F.E.gc F.E.gp F.E.gn F.E.go (F.gh j) (hb j) 3 g M' P x/\Mod (PT g F.E.gm F.E.gc) W V) (fun V x h=>h.2.1.a) ((C W H).mono fun e w' h=>⟨h.1,a',rfl,h.2⟩)).mono ?_;rintro e w' ⟨x,rfl,rfl,h1,h2⟩;exact⟨by rw[hb'],h1,h2⟩
structure MF (M:List Int)(x c:Int) : Prop where
 h65:M[65]?=some x
 h66:M[66]?=some 0
 h67:M[67]?=some 0
 h72:M[72]?=some (-1)
 h136:M[136]?=some 0
 h137:M[137]?=some 0
 h138:M[138]?=some 0
 h207:M[207]?=some (c*64+4)
 h208:M[208]?=some 1
 h209:M[209]?=some 2
def x0 : Int:=upP 0 0
def x4 : Int:=upP x0 (-1)
theorem px0 : Zt x0:=QB _ _
theorem px4 : Zt x4:=QB _ _
theorem ZfS : pla x0=((0:Nat):Int):=by decide
theorem Zg3 : pla x4=-1:=by decide
theorem pk0 : Zt 0:=by unfold Zt;omega
theorem pl0 : pla 0=-1:=by decide
theorem ZcE (bd:Nat->Int)(y:Int) : Ux bd 0 y=false:=by unfold Ux;rw[pl0];simp
theorem MF.start {M:List Int}{c:Int}(L:Lay0 M c) : MF (QJ M) x0 c:=by
 have hl:=L.len;have g:∀ j,j≠0->j≠72->j≠65->(QJ M)[j]?=M[j]?:=fun j h0 h1 h2=>by
  unfold QJ;rw[List.getElem?_set_ne (Ne.symm h2),List.getElem?_set_ne (Ne.symm h1),List.getElem?_set_ne (Ne.symm h0)]
 refine⟨?_,?_,?_,?_,?_,?_,?_,?_,?_,?_⟩
 ·unfold QJ;rw[List.getElem?_set_self (by simp;omega)];rfl
 ·rw[g _ (by decide) (by decide) (by decide)];exact L.h0 2 (by omega) (by omega)
 ·rw[g _ (by decide) (by decide) (by decide)];exact L.h0 3 (by omega) (by omega)
 ·unfold QJ;rw[List.getElem?_set_ne (by decide),List.getElem?_set_self (by simp;omega)]
 ·rw[g _ (by decide) (by decide) (by decide)];exact L.h1 1 (by omega) (by omega)
 ·rw[g _ (by decide) (by decide) (by decide)];exact L.h1 2 (by omega) (by omega)
 ·rw[g _ (by decide) (by decide) (by decide)];exact L.h1 3 (by omega) (by omega)
 ·rw[g _ (by decide) (by decide) (by decide)];exact L.best
 ·rw[g _ (by decide) (by decide) (by decide)];exact L.cnt
 ·rw[g _ (by decide) (by decide) (by decide)];exact L.wrk
theorem MF.taken {M:List Int}{x c:Int}(h:MF M x c) : MF (M.set 65 x4) x4 c:=by
 have hl:=(List.getElem?_eq_some_iff.1 h.h65).1;refine⟨List.getElem?_set_self hl,?_,?_,?_,?_,?_,?_,?_,?_,?_⟩
 all_goals rw[List.getElem?_set_ne (by decide)]
 ·exact h.h66
 ·exact h.h67
 ·exact h.h72
 ·exact h.h136
 ·exact h.h137
 ·exact h.h138
 ·exact h.h207
 ·exact h.h208
 ·exact h.h209
def ac0 : HAct:=Xl 4 (-1) false ⟨none,0,[]⟩ 1
def ac1 : HAct:={ ac0 with hd:=x0,ph:=5 }
def ac2 : HAct:={ ac1 with nx:=-1,ph:=6 }
def ac3 : HAct:={ ac2 with slot:=pla x0,ph:=7 }
def ac4 : HAct:={ ac3 with hd:=x4,ph:=8 }
def ac5 : HAct:={ ac4 with lh:=0,ph:=9 }
def ac6 : HAct:={ ac5 with rh:=0,ch:=2*((1:Nat):Int),chh:=0,pos:=1,ph:=15 }
def bc1 : HAct:={ ac0 with hd:=0,tidied:=true,ph:=7 }
def bc2 : HAct:={ bc1 with hd:=0,ph:=8 }
def bc3 : HAct:={ bc2 with lh:=0,ph:=9 }
def bc4 : HAct:={ bc3 with rh:=0,ch:=2*((1:Nat):Int),chh:=0,pos:=1,ph:=4 }
def bc5 : HAct:={ bc4 with hd:=0,ph:=15 }
section
variable {F:Fix} {M:List Int} {P:PoolS} {x c:Int}
theorem sa1 (g:Nat)(h:MF M x0 c) : HStep F 0 g M P ac0 M ac1 false:=.of4 rfl rfl fun W H=>ZaG _ _ _ _ _ _ _ _ _ _ M P ac0 W H (by decide) 1 rfl (by decide) (by decide) x0 h.h65 px0 (by rw[ZfS];decide)
theorem sa2 (g:Nat)(h:MF M x0 c) : HStep F 0 g M P ac1 M ac2 false:=.of5 rfl rfl fun W H=>ZaJ _ _ _ _ _ _ _ _ _ _ M P ac1 W H (by decide) (by decide) px0 0 ZfS (by decide) (-1) h.h72
theorem sa3 (g:Nat)(h:MF M x0 c) : HStep F 0 g M P ac2 (M.set 65 x4) ac3 false:=.of6 rfl rfl fun W H=>Zdj _ _ _ _ _ _ _ _ _ _ M P ac2 W H (by decide) 1 rfl (by decide) (by decide) x0 h.h65 px0 rfl rfl
theorem sa4 (g:Nat)(h:MF M x4 c) : HStep F 0 g M P ac3 M ac4 false:=.of7 rfl rfl fun W H=>ZaK _ _ _ _ _ _ _ _ _ _ M P ac3 W H (by decide) (by decide) 1 rfl (by decide) (by decide) x4 h.h65 (by decide)
theorem sa5 (g:Nat)(h:MF M x4 c) : HStep F 0 g M P ac4 M ac5 false:=.of8 rfl rfl fun W H=>Jt _ _ _ _ _ _ _ _ _ _ M P ac4 W H (by decide) 1 rfl (by decide) (by decide) 0 h.h66
theorem sa6 (g:Nat)(h:MF M x4 c)(bd:Nat->Int)(hbd:PB P bd)(hn:P.n<=100000)(h1:1<=P.n) : HStep F 0 g M P ac5 M ac6 true:=.of9 rfl rfl fun W H=>Zdm _ _ _ _ _ _ _ _ _ _ M P bd ac5 W H hbd hn (by decide) 1 rfl (by decide) (by decide) 0 h.h67 px4 (by show pla x4<_;rw[Zg3];omega) pk0 (by show pla 0<_;rw[pl0];omega) pk0 (by rw[pl0];omega) (by show 0<=pla x0;rw[ZfS];decide) (ZcE _ _) (ZcE _ _)
theorem sb1 (g:Nat)(h:MF M x c) : HStep F 1 g M P ac0 M bc1 false:=.of4 rfl rfl fun W H=>ZaH _ _ _ _ _ _ _ _ _ _ M P ac0 W H (by decide) 1 rfl (by decide) (by decide) 0 h.h136 pk0 (by rw[pl0];decide) rfl rfl
theorem sb2 (g:Nat)(h:MF M x c) : HStep F 1 g M P bc1 M bc2 false:=.of7 rfl rfl fun W H=>ZaK _ _ _ _ _ _ _ _ _ _ M P bc1 W H (by decide) (by decide) 1 rfl (by decide) (by decide) 0 h.h136 (by decide)
theorem sb3 (g:Nat)(h:MF M x c) : HStep F 1 g M P bc2 M bc3 false:=.of8 rfl rfl fun W H=>Jt _ _ _ _ _ _ _ _ _ _ M P bc2 W H (by decide) 1 rfl (by decide) (by decide) 0 h.h137
theorem sb4 (g:Nat)(h:MF M x c)(bd:Nat->Int)(hbd:PB P bd)(hn:P.n<=100000)(h1:1<=P.n) : HStep F 1 g M P bc3 M bc4 false:=.of9 rfl rfl fun W H=>UC _ _ _ _ _ _ _ _ _ _ M P bd bc3 W H hbd hn (by decide) 1 rfl (by decide) (by decide) 0 h.h138 pk0 (by show pla 0<_;rw[pl0];omega) pk0 (by show pla 0<_;rw[pl0];omega) pk0 (by rw[pl0];omega) (by decide) (ZcE _ _) (ZcE _ _)
theorem sb5 (g:Nat)(h:MF M x c) : HStep F 1 g M P bc4 M bc5 true:=.of4 rfl rfl fun W H=>Uy _ _ _ _ _ _ _ _ _ _ M P bc4 W H (by decide) 1 rfl (by decide) (by decide) 0 h.h136 pk0 (by rw[pl0];decide) rfl
end
end
section
open Go.RowKit Go.ChangeShapes Go.WideShapes Go.ChangeAt Go.Deep
def MFi (c:Int) : Nat->List Int->Prop
 | 0,M=>MF M x0 c
 | 1,M=>MF M x0 c
 | 2,M=>MF M x0 c
 | 9,M=>∃ M',MF M' x4 c/\M=M'.set 208 0
 | _,M=>MF M x4 c
def Pi8 (F:Fix)(P:PoolS) : Prop:=∃ A c,P={ Yd (Xm F.A F.k F.bb) with ows:=(Yd (Xm F.A F.k F.bb)).ows.set 0 ⟨A,c,[0]⟩ }
def Pii (F:Fix) : Nat->PoolS->Prop
 | 8,P=>Pi8 F P
 | 9,P=>Pi8 F P
 | _,P=>P=Yd (Xm F.A F.k F.bb)
def ZeQ (F:Fix)(s:WkS)(o:Option (Nat×HAct))(a:HAct) : Prop:=s.ph=0/\s.me=0/\s.logv=.slice none 0 0/\s.slot=none/\∃ g,s.own=some g/\F.w1.heap.size<=g/\o=some (g,a)
def W0 (F:Fix) : Nat->WkS->Option (Nat×HAct)->Prop
 | 0,s,_=>s.ph=0/\s.me=0/\s.own=none/\s.logv=.slice none 0 0/\s.slot=none
 | 1,s,o=>ZeQ F s o ac1
 | 2,s,o=>ZeQ F s o ac2
 | 3,s,o=>ZeQ F s o ac3
 | 4,s,o=>ZeQ F s o ac4
 | 5,s,o=>ZeQ F s o ac5
 | 6,s,_=>s.ph=4/\s.me=0/\s.path.xs=[]/\s.logv=.slice none 0 0/\s.slot=none/\s.node=((0:Nat):Int)
 | 7,s,_=>s.ph=13/\s.me=0/\s.slot=none/\s.node=((0:Nat):Int)
 | 8,s,_=>s.ph=14
 | _,_,_=>True
def ZfT (F:Fix)(s:WkS)(o:Option (Nat×HAct))(a:HAct) : Prop:=s.ph=0/\s.me=1/\s.theft=none/\∃ g,s.own=some g/\F.w1.heap.size<=g/\o=some (g,a)
def Zhq (s:WkS)(c:Nat) : Prop:=s.ph=1/\s.me=1/\s.theft=none/\s.cursor=(c:Int)/\s.tried=(c:Int)
def W1 (F:Fix) : Nat->WkS->Option (Nat×HAct)->Prop
 | 0,s,_=>s.ph=0/\s.me=1/\s.own=none/\s.theft=none
 | 1,s,o=>ZfT F s o bc1
 | 2,s,o=>ZfT F s o bc2
 | 3,s,o=>ZfT F s o bc3
 | 4,s,o=>ZfT F s o bc4
 | n+5,s,_=>Zhq s n
def LGi : Nat->Option Addr->Nat->List Value->List Rec->Value->Prop
 | 7,L,cL,_,rs,v=>rs=[⟨1,[]⟩]/\v=.slice L 1 cL
 | 8,L,cL,_,rs,v=>rs=[⟨1,[]⟩]/\v=.slice L 1 cL
 | 9,L,cL,_,rs,v=>rs=[⟨1,[]⟩]/\v=.slice L 1 cL
 | _,L,cL,vs,rs,_=>L=none/\cL=0/\vs=[]/\rs=[]
def RI (F:Fix)(i j:Nat)(w:World) : Prop:=∃ (M:List Int) (P:PoolS) (p:Nat->Int) (s:Nat->WkS) (o:Nat->Option (Nat×HAct)) (L:Option Addr) (cL:Nat) (vs:List Value) (rs:List Rec) (dq:Nat),
 RS F w M P p s o L cL vs rs dq/\MFi F.c i M/\Pii F i P/\(∀ k,k<2->0<=p k/\p k<=((i+j:Nat):Int))/\W0 F i (s 0) (o 0)/\W1 F j (s 1) (o 1)/\LGi i L cL vs rs (s 0).logv/\(s 1).logv=.slice none 0 0/\dq<=1000/\(j<=4->dq=0)
theorem RI.ext {F:Fix}{i j:Nat}{w w':World}(h:RI F i j w)(x:Ext w w') : RI F i j w':=by
 obtain⟨M,P,p,s,o,L,cL,vs,rs,dq,R,h⟩:=h;exact⟨M,P,p,s,o,L,cL,vs,rs,dq,R.ext x,h⟩
theorem Xn {p:Nat->Int}{n:Nat}(h:∀ k,k<2->0<=p k/\p k<=(n:Int))(a:Nat)(ha:a<2) : ∀ k,k<2->0<=Zx p a (p a+1) k/\Zx p a (p a+1) k<=(n:Int)+1:=fun k hk=>by
 have h1:=h k hk;have h2:=h a ha;unfold Zx;split
 ·omega
 ·omega
theorem YK {F:Fix}{i:Nat}{P:PoolS}(h:Pii F i P) : PB P (fun t=>if t=0 then F.bb else 0)/\P.n=64:=by
 have h0:P=Yd (Xm F.A F.k F.bb)\/Pi8 F P:=by
  unfold Pii at h;split at h
  ·exact .inr h
  ·exact .inr h
  ·exact .inl h
 rcases h0 with rfl | ⟨A,c,rfl⟩
 ·exact⟨QK _ _ _,rfl⟩
 ·exact⟨QK F.A F.k F.bb,rfl⟩
theorem YU {c:Int}{i:Nat}{M:List Int}(h:MFi c i M)(hi:i<=8) : ∃ x,MF M x c/\(3<=i->x=x4):=by
 rcases i with _ | _ | _ | _ | _ | _ | _ | _ | _ | i
 ·exact⟨_,h,by omega⟩
 ·exact⟨_,h,by omega⟩
 ·exact⟨_,h,by omega⟩
 all_goals first | exact⟨_,h,fun _=>rfl⟩ | omega
theorem Zhr {F:Fix}{w:World}(O:FixOk F)(hc:F.c<=F.bb)(j:Nat)(hj:j<=8)(R:RI F 0 j w) : Calls Tryz.prog 54 #[.pointer (some ⟨F.gM,0,none⟩),.int .i64 ((0:Nat):Int)] w fun e w'=>e=.returned (.int .i64 0)/\RI F 1 j w':=by
 obtain⟨M,P,p,s,o,L,cL,vs,rs,dq,R,hm,hp,hpk,h0,h1,hl,hl1,hd,hd0⟩:=R;have bp:=hpk 0 (by decide);have hpk':=Xn hpk 0 (by decide);obtain⟨q1,q2,q3,q4,q5⟩:=h0;refine(ZaW R O 0 (by decide) ⟨bp.1,by have:=bp.2;omega⟩ q1 q2 q3 (fun g=>sa1 g hm)).mono ?_;rintro e w' ⟨rfl,g,z,R'⟩;exact⟨rfl,M,P,_,_,_,L,cL,vs,rs,dq,R',hm,hp,(fun k hk=>by have:=hpk' k hk;omega),(by rw[Zf,Zf];exact⟨q1,q2,q4,q5,g,rfl,z,rfl⟩),(by rw[Zr _ _ (by decide),Zr _ _ (by decide)];exact h1),hl,(by rw[Zr _ _ (by decide)];exact hl1),hd,hd0⟩
theorem Zhs {F:Fix}{w:World}(O:FixOk F)(hc:F.c<=F.bb)(j:Nat)(hj:j<=8)(R:RI F 1 j w) : Calls Tryz.prog 54 #[.pointer (some ⟨F.gM,0,none⟩),.int .i64 ((0:Nat):Int)] w fun e w'=>e=.returned (.int .i64 0)/\RI F 2 j w':=by
 obtain⟨M,P,p,s,o,L,cL,vs,rs,dq,R,hm,hp,hpk,h0,h1,hl,hl1,hd,hd0⟩:=R;have bp:=hpk 0 (by decide);have hpk':=Xn hpk 0 (by decide);obtain⟨q1,q2,q3,q4,g,q5,z,q6⟩:=h0;refine(Wt R O 0 (by decide) ⟨bp.1,by have:=bp.2;omega⟩ q1 q5 q6 z (sa2 g hm)).mono ?_;rintro e w' ⟨rfl,R'⟩;exact⟨rfl,M,P,_,_,_,L,cL,vs,rs,dq,R',hm,hp,(fun k hk=>by have:=hpk' k hk;omega),(by rw[Zf];exact⟨q1,q2,q3,q4,g,q5,z,rfl⟩),(by rw[Zr _ _ (by decide)];exact h1),hl,hl1,hd,hd0⟩
theorem Zht {F:Fix}{w:World}(O:FixOk F)(hc:F.c<=F.bb)(j:Nat)(hj:j<=8)(R:RI F 2 j w) : Calls Tryz.prog 54 #[.pointer (some ⟨F.gM,0,none⟩),.int .i64 ((0:Nat):Int)] w fun e w'=>e=.returned (.int .i64 0)/\RI F 3 j w':=by
 obtain⟨M,P,p,s,o,L,cL,vs,rs,dq,R,hm,hp,hpk,h0,h1,hl,hl1,hd,hd0⟩:=R;have bp:=hpk 0 (by decide);have hpk':=Xn hpk 0 (by decide);obtain⟨q1,q2,q3,q4,g,q5,z,q6⟩:=h0;refine(Wt R O 0 (by decide) ⟨bp.1,by have:=bp.2;omega⟩ q1 q5 q6 z (sa3 g hm)).mono ?_;rintro e w' ⟨rfl,R'⟩;exact⟨rfl,_,P,_,_,_,L,cL,vs,rs,dq,R',hm.taken,hp,(fun k hk=>by have:=hpk' k hk;omega),(by rw[Zf];exact⟨q1,q2,q3,q4,g,q5,z,rfl⟩),(by rw[Zr _ _ (by decide)];exact h1),hl,hl1,hd,hd0⟩
theorem Zhu {F:Fix}{w:World}(O:FixOk F)(hc:F.c<=F.bb)(j:Nat)(hj:j<=8)(R:RI F 3 j w) : Calls Tryz.prog 54 #[.pointer (some ⟨F.gM,0,none⟩),.int .i64 ((0:Nat):Int)] w fun e w'=>e=.returned (.int .i64 0)/\RI F 4 j w':=by
 obtain⟨M,P,p,s,o,L,cL,vs,rs,dq,R,hm,hp,hpk,h0,h1,hl,hl1,hd,hd0⟩:=R;have bp:=hpk 0 (by decide);have hpk':=Xn hpk 0 (by decide);obtain⟨q1,q2,q3,q4,g,q5,z,q6⟩:=h0;refine(Wt R O 0 (by decide) ⟨bp.1,by have:=bp.2;omega⟩ q1 q5 q6 z (sa4 g hm)).mono ?_;rintro e w' ⟨rfl,R'⟩;exact⟨rfl,M,P,_,_,_,L,cL,vs,rs,dq,R',hm,hp,(fun k hk=>by have:=hpk' k hk;omega),(by rw[Zf];exact⟨q1,q2,q3,q4,g,q5,z,rfl⟩),(by rw[Zr _ _ (by decide)];exact h1),hl,hl1,hd,hd0⟩
theorem Zhv {F:Fix}{w:World}(O:FixOk F)(hc:F.c<=F.bb)(j:Nat)(hj:j<=8)(R:RI F 4 j w) : Calls Tryz.prog 54 #[.pointer (some ⟨F.gM,0,none⟩),.int .i64 ((0:Nat):Int)] w fun e w'=>e=.returned (.int .i64 0)/\RI F 5 j w':=by
 obtain⟨M,P,p,s,o,L,cL,vs,rs,dq,R,hm,hp,hpk,h0,h1,hl,hl1,hd,hd0⟩:=R;have bp:=hpk 0 (by decide);have hpk':=Xn hpk 0 (by decide);obtain⟨q1,q2,q3,q4,g,q5,z,q6⟩:=h0;refine(Wt R O 0 (by decide) ⟨bp.1,by have:=bp.2;omega⟩ q1 q5 q6 z (sa5 g hm)).mono ?_;rintro e w' ⟨rfl,R'⟩;exact⟨rfl,M,P,_,_,_,L,cL,vs,rs,dq,R',hm,hp,(fun k hk=>by have:=hpk' k hk;omega),(by rw[Zf];exact⟨q1,q2,q3,q4,g,q5,z,rfl⟩),(by rw[Zr _ _ (by decide)];exact h1),hl,hl1,hd,hd0⟩
theorem Zhw {F:Fix}{w:World}(O:FixOk F)(hc:F.c<=F.bb)(j:Nat)(hj:j<=8)(R:RI F 5 j w) : Calls Tryz.prog 54 #[.pointer (some ⟨F.gM,0,none⟩),.int .i64 ((0:Nat):Int)] w fun e w'=>e=.returned (.int .i64 0)/\RI F 6 j w':=by
 obtain⟨M,P,p,s,o,L,cL,vs,rs,dq,R,hm,hp,hpk,h0,h1,hl,hl1,hd,hd0⟩:=R;have bp:=hpk 0 (by decide);have hpk':=Xn hpk 0 (by decide);obtain⟨q1,q2,q3,q4,g,q5,z,q6⟩:=h0;obtain⟨pb,pn⟩:=YK hp;have hp':P=Yd (Xm F.A F.k F.bb):=hp;refine(ZgD R O 0 (by decide) ⟨bp.1,by have:=bp.2;omega⟩ q1 q5 q6 z (sa6 g hm _ pb (by omega) (by omega)) rfl rfl ZfS ⟨by omega,by omega⟩ (by rw[hp'];rfl) (by rw[hp'];rfl)).mono ?_;rintro e w' ⟨rfl,A,c,R'⟩;exact⟨rfl,M,P,_,_,_,L,cL,vs,rs,dq,R',hm,hp,(fun k hk=>by have:=hpk' k hk;omega),(by rw[Zf];exact⟨rfl,q2,rfl,q3,q4,rfl⟩),(by rw[Zr _ _ (by decide),Zr _ _ (by decide)];exact h1),hl,(by rw[Zr _ _ (by decide)];exact hl1),hd,hd0⟩
theorem Zhx {F:Fix}{w:World}(O:FixOk F)(hc:F.c<=F.bb)(j:Nat)(hj:j<=8)(R:RI F 6 j w) : Calls Tryz.prog 54 #[.pointer (some ⟨F.gM,0,none⟩),.int .i64 ((0:Nat):Int)] w fun e w'=>e=.returned (.int .i64 0)/\RI F 7 j w':=by
 obtain⟨M,P,p,s,o,L,cL,vs,rs,dq,R,hm,hp,hpk,h0,h1,hl,hl1,hd,hd0⟩:=R;have bp:=hpk 0 (by decide);have hpk':=Xn hpk 0 (by decide);obtain⟨q1,q2,q3,q4,q5,q6⟩:=h0;obtain⟨rfl,rfl,rfl,rfl⟩:=hl;refine(ZfP R O 0 (by decide) ⟨bp.1,by have:=bp.2;omega⟩ q1 q3 q4 hc hm.h207).mono ?_;rintro e w' ⟨rfl,L,cL,vs,R'⟩;exact⟨rfl,M,P,_,_,_,L,cL,vs,_,dq,R',hm,hp,(fun k hk=>by have:=hpk' k hk;omega),(by rw[Zf];exact⟨rfl,q2,q5,q6⟩),(by rw[Zr _ _ (by decide)];exact h1),(by rw[Zf];exact⟨rfl,rfl⟩),(by rw[Zr _ _ (by decide)];exact hl1),hd,hd0⟩
theorem Zhy {F:Fix}{w:World}(O:FixOk F)(hc:F.c<=F.bb)(j:Nat)(hj:j<=8)(R:RI F 7 j w) : Calls Tryz.prog 54 #[.pointer (some ⟨F.gM,0,none⟩),.int .i64 ((0:Nat):Int)] w fun e w'=>e=.returned (.int .i64 0)/\RI F 8 j w':=by
 obtain⟨M,P,p,s,o,L,cL,vs,rs,dq,R,hm,hp,hpk,h0,h1,hl,hl1,hd,hd0⟩:=R;have bp:=hpk 0 (by decide);have hpk':=Xn hpk 0 (by decide);obtain⟨q1,q2,q3,q4⟩:=h0;have hp':P=Yd (Xm F.A F.k F.bb):=hp;obtain⟨pb,pn⟩:=YK hp;refine(ZfQ R O 0 (by decide) ⟨bp.1,by have:=bp.2;omega⟩ q1 q2 q3 q4 ⟨by omega,by omega,by rw[hp'];rfl⟩ (by rw[hp'];rfl)).mono ?_;rintro e w' ⟨rfl,A,c,R'⟩;exact⟨rfl,M,_,_,_,_,L,cL,vs,rs,dq,R',hm,⟨A,c,by rw[hp']⟩,(fun k hk=>by have:=hpk' k hk;omega),(by rw[Zf];exact rfl),(by rw[Zr _ _ (by decide)];exact h1),(by rw[Zf];exact hl),(by rw[Zr _ _ (by decide)];exact hl1),hd,hd0⟩
theorem Zhz {F:Fix}{w:World}(O:FixOk F)(hc:F.c<=F.bb)(j:Nat)(hj:j<=8)(R:RI F 8 j w) : Calls Tryz.prog 54 #[.pointer (some ⟨F.gM,0,none⟩),.int .i64 ((0:Nat):Int)] w fun e w'=>e=.returned (.int .i64 0)/\RI F 9 j w':=by
 obtain⟨M,P,p,s,o,L,cL,vs,rs,dq,R,hm,hp,hpk,h0,h1,hl,hl1,hd,hd0⟩:=R;have bp:=hpk 0 (by decide);have hpk':=Xn hpk 0 (by decide);refine(ZdA R O 0 (by decide) ⟨bp.1,by have:=bp.2;omega⟩ h0 hm.h208).mono ?_;rintro e w' ⟨rfl,R'⟩;exact⟨rfl,_,P,_,_,_,L,cL,vs,rs,dq,R',⟨M,hm,rfl⟩,hp,(fun k hk=>by have:=hpk' k hk;omega),trivial,(by rw[Zr _ _ (by decide)];exact h1),(by rw[Zf];exact hl),(by rw[Zr _ _ (by decide)];exact hl1),hd,hd0⟩
theorem ZhA {F:Fix}{w:World}(O:FixOk F)(i:Nat)(hi:i<=8)(R:RI F i 0 w) : Calls Tryz.prog 54 #[.pointer (some ⟨F.gM,0,none⟩),.int .i64 ((1:Nat):Int)] w fun e w'=>e=.returned (.int .i64 0)/\RI F i 1 w':=by
 obtain⟨M,P,p,s,o,L,cL,vs,rs,dq,R,hm,hp,hpk,h0,h1,hl,hl1,hd,hd0⟩:=R;have bp:=hpk 1 (by decide);have hpk':=Xn hpk 1 (by decide);obtain⟨x,mf,hx4⟩:=YU hm hi;obtain⟨pb,pn⟩:=YK hp;obtain⟨q1,q2,q3,q4⟩:=h1;refine(ZaW R O 1 (by decide) ⟨bp.1,by have:=bp.2;omega⟩ q1 q2 q3 (fun g=>sb1 g mf)).mono ?_;rintro e w' ⟨rfl,g,z,R'⟩;exact⟨rfl,M,P,_,_,_,L,cL,vs,rs,dq,R',hm,hp,(fun k hk=>by have:=hpk' k hk;omega),(by rw[Zr _ _ (by decide),Zr _ _ (by decide)];exact h0),(by rw[Zf,Zf];exact⟨q1,q2,q4,g,rfl,z,rfl⟩),(by rw[Zr _ _ (by decide)];exact hl),(by rw[Zf];exact hl1),hd,fun _=>hd0 (by omega)⟩
theorem ZhB {F:Fix}{w:World}(O:FixOk F)(i:Nat)(hi:i<=8)(R:RI F i 1 w) : Calls Tryz.prog 54 #[.pointer (some ⟨F.gM,0,none⟩),.int .i64 ((1:Nat):Int)] w fun e w'=>e=.returned (.int .i64 0)/\RI F i 2 w':=by
 obtain⟨M,P,p,s,o,L,cL,vs,rs,dq,R,hm,hp,hpk,h0,h1,hl,hl1,hd,hd0⟩:=R;have bp:=hpk 1 (by decide);have hpk':=Xn hpk 1 (by decide);obtain⟨x,mf,hx4⟩:=YU hm hi;obtain⟨pb,pn⟩:=YK hp;obtain⟨q1,q2,q3,g,q5,z,q6⟩:=h1;refine(Wt R O 1 (by decide) ⟨bp.1,by have:=bp.2;omega⟩ q1 q5 q6 z (sb2 g mf)).mono ?_;rintro e w' ⟨rfl,R'⟩;exact⟨rfl,M,P,_,_,_,L,cL,vs,rs,dq,R',hm,hp,(fun k hk=>by have:=hpk' k hk;omega),(by rw[Zr _ _ (by decide)];exact h0),(by rw[Zf];exact⟨q1,q2,q3,g,q5,z,rfl⟩),hl,hl1,hd,fun _=>hd0 (by omega)⟩
theorem ZhC {F:Fix}{w:World}(O:FixOk F)(i:Nat)(hi:i<=8)(R:RI F i 2 w) : Calls Tryz.prog 54 #[.pointer (some ⟨F.gM,0,none⟩),.int .i64 ((1:Nat):Int)] w fun e w'=>e=.returned (.int .i64 0)/\RI F i 3 w':=by
 obtain⟨M,P,p,s,o,L,cL,vs,rs,dq,R,hm,hp,hpk,h0,h1,hl,hl1,hd,hd0⟩:=R;have bp:=hpk 1 (by decide);have hpk':=Xn hpk 1 (by decide);obtain⟨x,mf,hx4⟩:=YU hm hi;obtain⟨pb,pn⟩:=YK hp;obtain⟨q1,q2,q3,g,q5,z,q6⟩:=h1;refine(Wt R O 1 (by decide) ⟨bp.1,by have:=bp.2;omega⟩ q1 q5 q6 z (sb3 g mf)).mono ?_;rintro e w' ⟨rfl,R'⟩;exact⟨rfl,M,P,_,_,_,L,cL,vs,rs,dq,R',hm,hp,(fun k hk=>by have:=hpk' k hk;omega),(by rw[Zr _ _ (by decide)];exact h0),(by rw[Zf];exact⟨q1,q2,q3,g,q5,z,rfl⟩),hl,hl1,hd,fun _=>hd0 (by omega)⟩
theorem ZhD {F:Fix}{w:World}(O:FixOk F)(i:Nat)(hi:i<=8)(R:RI F i 3 w) : Calls Tryz.prog 54 #[.pointer (some ⟨F.gM,0,none⟩),.int .i64 ((1:Nat):Int)] w fun e w'=>e=.returned (.int .i64 0)/\RI F i 4 w':=by
 obtain⟨M,P,p,s,o,L,cL,vs,rs,dq,R,hm,hp,hpk,h0,h1,hl,hl1,hd,hd0⟩:=R;have bp:=hpk 1 (by decide);have hpk':=Xn hpk 1 (by decide);obtain⟨x,mf,hx4⟩:=YU hm hi;obtain⟨pb,pn⟩:=YK hp;obtain⟨q1,q2,q3,g,q5,z,q6⟩:=h1;refine(Wt R O 1 (by decide) ⟨bp.1,by have:=bp.2;omega⟩ q1 q5 q6 z (sb4 g mf _ pb (by omega) (by omega))).mono ?_;rintro e w' ⟨rfl,R'⟩;exact⟨rfl,M,P,_,_,_,L,cL,vs,rs,dq,R',hm,hp,(fun k hk=>by have:=hpk' k hk;omega),(by rw[Zr _ _ (by decide)];exact h0),(by rw[Zf];exact⟨q1,q2,q3,g,q5,z,rfl⟩),hl,hl1,hd,fun _=>hd0 (by omega)⟩
theorem ZhE {F:Fix}{w:World}(O:FixOk F)(i:Nat)(hi:i<=8)(R:RI F i 4 w) : Calls Tryz.prog 54 #[.pointer (some ⟨F.gM,0,none⟩),.int .i64 ((1:Nat):Int)] w fun e w'=>e=.returned (.int .i64 0)/\RI F i 5 w':=by
 obtain⟨M,P,p,s,o,L,cL,vs,rs,dq,R,hm,hp,hpk,h0,h1,hl,hl1,hd,hd0⟩:=R;have bp:=hpk 1 (by decide);have hpk':=Xn hpk 1 (by decide);obtain⟨x,mf,hx4⟩:=YU hm hi;obtain⟨pb,pn⟩:=YK hp;obtain⟨q1,q2,q3,g,q5,z,q6⟩:=h1;have hq:=hd0 (by omega);refine(ZfR R O 1 (by decide) ⟨bp.1,by have:=bp.2;omega⟩ q1 q2 q5 q6 z (sb5 g mf) rfl rfl rfl hd).mono ?_;rintro e w' ⟨rfl,R'⟩;exact⟨rfl,M,P,_,_,_,L,cL,vs,rs,_,R',hm,hp,(fun k hk=>by have:=hpk' k hk;omega),(by rw[Zr _ _ (by decide),Zr _ _ (by decide)];exact h0),(by rw[Zf];exact⟨rfl,q2,q3,rfl,rfl⟩),(by rw[Zr _ _ (by decide)];exact hl),(by rw[Zf];exact hl1),by omega,by omega⟩
theorem ZhF {F:Fix}{w:World}(O:FixOk F)(i:Nat)(hi:i<=8)(h3:3<=i)(R:RI F i 5 w) : Calls Tryz.prog 54 #[.pointer (some ⟨F.gM,0,none⟩),.int .i64 ((1:Nat):Int)] w fun e w'=>e=.returned (.int .i64 0)/\RI F i 6 w':=by
 obtain⟨M,P,p,s,o,L,cL,vs,rs,dq,R,hm,hp,hpk,h0,h1,hl,hl1,hd,hd0⟩:=R;have bp:=hpk 1 (by decide);have hpk':=Xn hpk 1 (by decide);obtain⟨x,mf,hx4⟩:=YU hm hi;obtain⟨pb,pn⟩:=YK hp;obtain⟨q1,q2,q3,q4,q5⟩:=h1;refine(Zb4 R O 1 (by decide) ⟨bp.1,by have:=bp.2;omega⟩ q1 q2 q3 0 q4 q5 (by decide) x (by exact mf.h65) (by rw[hx4 h3];exact px4) (by rw[hx4 h3,Zg3];decide)).mono ?_;rintro e w' ⟨rfl,R'⟩;exact⟨rfl,M,P,_,_,_,L,cL,vs,rs,dq,R',hm,hp,(fun k hk=>by have:=hpk' k hk;omega),(by rw[Zr _ _ (by decide)];exact h0),(by rw[Zf];exact⟨q1,q2,rfl,rfl,rfl⟩),(by rw[Zr _ _ (by decide)];exact hl),(by rw[Zf];exact hl1),hd,by omega⟩
theorem ZhG {F:Fix}{w:World}(O:FixOk F)(i:Nat)(hi:i<=8)(R:RI F i 6 w) : Calls Tryz.prog 54 #[.pointer (some ⟨F.gM,0,none⟩),.int .i64 ((1:Nat):Int)] w fun e w'=>e=.returned (.int .i64 0)/\RI F i 7 w':=by
 obtain⟨M,P,p,s,o,L,cL,vs,rs,dq,R,hm,hp,hpk,h0,h1,hl,hl1,hd,hd0⟩:=R;have bp:=hpk 1 (by decide);have hpk':=Xn hpk 1 (by decide);obtain⟨x,mf,hx4⟩:=YU hm hi;obtain⟨pb,pn⟩:=YK hp;obtain⟨q1,q2,q3,q4,q5⟩:=h1;refine(Zb4 R O 1 (by decide) ⟨bp.1,by have:=bp.2;omega⟩ q1 q2 q3 1 q4 q5 (by decide) 0 mf.h66 pk0 (by rw[pl0];decide)).mono ?_;rintro e w' ⟨rfl,R'⟩;exact⟨rfl,M,P,_,_,_,L,cL,vs,rs,dq,R',hm,hp,(fun k hk=>by have:=hpk' k hk;omega),(by rw[Zr _ _ (by decide)];exact h0),(by rw[Zf];exact⟨q1,q2,rfl,rfl,rfl⟩),(by rw[Zr _ _ (by decide)];exact hl),(by rw[Zf];exact hl1),hd,by omega⟩
theorem ZhH {F:Fix}{w:World}(O:FixOk F)(i:Nat)(hi:i<=8)(R:RI F i 7 w) : Calls Tryz.prog 54 #[.pointer (some ⟨F.gM,0,none⟩),.int .i64 ((1:Nat):Int)] w fun e w'=>e=.returned (.int .i64 0)/\RI F i 8 w':=by
 obtain⟨M,P,p,s,o,L,cL,vs,rs,dq,R,hm,hp,hpk,h0,h1,hl,hl1,hd,hd0⟩:=R;have bp:=hpk 1 (by decide);have hpk':=Xn hpk 1 (by decide);obtain⟨x,mf,hx4⟩:=YU hm hi;obtain⟨pb,pn⟩:=YK hp;obtain⟨q1,q2,q3,q4,q5⟩:=h1;refine(Zb4 R O 1 (by decide) ⟨bp.1,by have:=bp.2;omega⟩ q1 q2 q3 2 q4 q5 (by decide) 0 mf.h67 pk0 (by rw[pl0];decide)).mono ?_;rintro e w' ⟨rfl,R'⟩;exact⟨rfl,M,P,_,_,_,L,cL,vs,rs,dq,R',hm,hp,(fun k hk=>by have:=hpk' k hk;omega),(by rw[Zr _ _ (by decide)];exact h0),(by rw[Zf];exact⟨q1,q2,rfl,rfl,rfl⟩),(by rw[Zr _ _ (by decide)];exact hl),(by rw[Zf];exact hl1),hd,by omega⟩
theorem ZeR {F:Fix}{w:World}(O:FixOk F)(hc:F.c<=F.bb)(n:Nat)(hn:n<17)(R:RI F ((n+1) / 2) (n / 2) w) : Calls Tryz.prog 54 #[.pointer (some ⟨F.gM,0,none⟩),.int .i64 ((n%2:Nat):Int)] w fun e w'=>e=.returned (.int .i64 0)/\RI F ((n+1+1) / 2) ((n+1) / 2) w':=by
 rcases n with _ | _ | _ | _ | _ | _ | _ | _ | _ | _ | _ | _ | _ | _ | _ | _ | _ | n
 ·exact Zhr O hc 0 (by decide) R
 ·exact ZhA O 1 (by decide) R
 ·exact Zhs O hc 1 (by decide) R
 ·exact ZhB O 2 (by decide) R
 ·exact Zht O hc 2 (by decide) R
 ·exact ZhC O 3 (by decide) R
 ·exact Zhu O hc 3 (by decide) R
 ·exact ZhD O 4 (by decide) R
 ·exact Zhv O hc 4 (by decide) R
 ·exact ZhE O 5 (by decide) R
 ·exact Zhw O hc 5 (by decide) R
 ·exact ZhF O 6 (by decide) (by decide) R
 ·exact Zhx O hc 6 (by decide) R
 ·exact ZhG O 7 (by decide) R
 ·exact Zhy O hc 7 (by decide) R
 ·exact ZhH O 8 (by decide) R
 ·exact Zhz O hc 8 (by decide) R
 ·omega
def OneR (w:World)(base:Nat)(A:Option Addr)(c:Nat) : Prop:=∃ A' c',OwV w base 223 2 A 1 c [.int .i64 1,.slice A' 0 c']/\OwI w base A' c' []
theorem OneR.of {w:World}{base:Nat}{A:Option Addr}{c:Nat}{vs:List Value}(h1:OwV w base 223 2 A 1 c vs)(h2:RecsO w base vs [⟨1,[]⟩]) : OneR w base A c:=by
 obtain⟨A',c',e0,e1,o⟩:=h2.2 0 _ rfl;have hl:=h2.1
 match vs,hl with
 | [x,y],_ =>
  obtain rfl:=Option.some.inj e0;obtain rfl:=Option.some.inj e1;exact⟨A',c',h1,o⟩
theorem OneR.ext {w w':World}{base:Nat}{A:Option Addr}{c:Nat}(h:OneR w base A c)(x:Ext w w') : OneR w' base A c:=by
 obtain⟨A',c',h1,h2⟩:=h;exact⟨A',c',h1.ext x,h2.ext x⟩
theorem OneR.modT' {w w':World}{b0 base:Nat}{ts:List TypeId}{A:Option Addr}{c:Nat}(h:OneR w base A c)(k:ModT b0 ts w w')(h1:223∉ts)(h2:3∉ts) : OneR w' base A c:=by
 obtain⟨A',c',o1,o2⟩:=h;exact⟨A',c',o1.modT k h1,o2.modT k h2⟩
theorem OneR.at {w:World}{base:Nat}{A:Option Addr}{c:Nat}(h:OneR w base A c) : ∃ b off A' c',A=some ⟨b,off,none⟩/\w.cell? ⟨b,off,none⟩=some (.int .i64 1)/\w.cell? ⟨b,off+1,none⟩=some (.slice A' 0 c')/\OwI w base A' c' []:=by
 obtain⟨A',c',h1,h2⟩:=h;obtain⟨b,off,v,e,hb,a0,e0⟩:=h1.read.at (j:=0) (by simp);obtain⟨b',off',v',e',-,a1,e1⟩:=h1.read.at (j:=1) (by simp);subst e;obtain⟨rfl,rfl⟩:b=b'/\off=off':=by simpa using e'
 obtain rfl:=Option.some.inj e0.out;obtain rfl:=Option.some.inj e1.out;exact⟨b,off,A',c',rfl,a0,a1,h2⟩
theorem Ext.keeps {w w':World}(x:Ext w w'){a:Addr}{v:Value}(h:w.cell? a=some v) : w'.cell? a=some v:=(x.cell (World.block_lt_of_cell? w a h)).trans h
theorem ZfU (g io:Nat)(w:World)(c0:w.cell? ⟨g,io,none⟩=some (.slice none 0 0)) :
  Calls Tryz.prog 191 #[.pointer (some ⟨g,io,none⟩)] w fun e w'=>e=.returned (.slice none 0 0)/\Ext w w':=by
 go_enter Tryz.func191,Tryz.ntmps191;go_wp2_with (fail);refine wp_loop_rounds 1 ?_;rw[rounds_succ];go_wp2_with (fail);go_ret;exact⟨rfl,XI⟩
theorem ZfV (g io base:Nat)(L:Option Addr)(cL:Nat)(w:World)(c0:w.cell? ⟨g,io,none⟩=some (.slice L 1 cL))(H:OneR w base L cL) :
  Calls Tryz.prog 191 #[.pointer (some ⟨g,io,none⟩)] w fun e w'=>∃ A c,e=.returned (.slice A 1 c)/\OneR w' w.heap.size A c/\Ext w w':=by
 obtain⟨b,off,A2,c2,rfl,a0,a1,o2⟩:=H.at;have r2:=Hd o2.read;obtain⟨i0,hi,hz0,hz1,hz2⟩:=info_parts WK;replace hi:=Hd hi;replace hz0:=Hd hz0;replace hz1:=Hd hz1;replace hz2:=Hd hz2;clear o2 H;go_enter Tryz.func191,Tryz.ntmps191;go_wp2_with (fail);refine wp_loop_rounds 2 ?_;rw[rounds_succ];go_wp2_with (fail);refine(Qs ⟨1,[]⟩ A2 c2 _ (r2.out.ext XI) (by decide)).mono ?_;rintro e w2 ⟨A3,c3,rfl,o3,x3⟩;have X:=Ext.tr (a:=w) XI x3;have hzw:=X.size;have o3':=Hd (OwI.more (base':=w.heap.size) o3 (by simp));clear a0 a1 r2 o3 x3;go_wp2_with (at_builtin;refine Zw _ (e:=223) Tryz.underlying136 hi.out hz0.out hz1.out hz2.out (by simp[Value.cells]) (by omega) rfl _ _ rfl w.heap.size none 0 0 [] (some ⟨w2.heap.size,0,none⟩) 1 1 [.int .i64 1,.slice A3 0 c3] rfl rfl ?_ ?_ ?_ ?_ ?_ ?_ ?_ ?_;(exact OwV.nil _ _ _ _);(exact(RdV.blk (.new (by simp))).rdC);(simp);(simp[Value.oneCell']);(simp only[maxLen];omega);omega;(first | exact Nat.le_refl _ | omega | (focus (simp;try omega)));rintro A5 c5 w5 o5 g5 _);have M5:ModT w.heap.size [223] w2 w5:=(ModT.of_ext ((Ext.rf _).alloc _)).tr ((OwV.nil _ _ 223 2).grownT g5);have R5:=Hd (o3'.out.modT M5 (by decide));have X5:=X.modT M5 (Nat.le_refl _);replace o5:=Hd o5;rw[rounds_succ];go_wp2_with (fail);go_ret;exact⟨A5,c5,rfl,⟨A3,c3,o5.out,R5.out⟩,X5⟩
theorem ZfW (A:Option Addr)(c:Nat)(fv:Value)(w:World) : Calls Tryz.prog 254 #[.slice A 1 c,.int .i64 0,.int .i64 1,fv] w fun e w'=>e=.returned (.tuple #[])/\Ext w w':=by
 go_enter Tryz.func254,Tryz.ntmps254;go_wp2_with (fail);refine wp_loop_rounds 1 ?_;rw[rounds_succ];go_wp2_with (fail);go_end0;exact⟨rfl,XI⟩
theorem ZfX (A:Option Addr)(c:Nat)(fv:Value)(w:World) : Calls Tryz.prog 188 #[.slice A 1 c,.int .i64 1,fv] w fun e w'=>e=.returned (.tuple #[])/\Ext w w':=by
 go_enter Tryz.func188,Tryz.ntmps188;go_wp2_with (fail);refine wp_loop_rounds 1 ?_;rw[rounds_succ];go_wp2_with (fail);refine(ZfW A c fv _).mono ?_;rintro e w1 ⟨rfl,x1⟩;have X:=Ext.tr (a:=w) XI x1;clear x1;go_wp2_with (fail);refine wp_loop_rounds 1 ?_;rw[rounds_succ];go_wp2_with (fail);go_end0;exact⟨rfl,X.tr XI⟩
theorem Zgh (A:Option Addr)(c:Nat)(fv:Value)(w:World) : Calls Tryz.prog 111 #[.slice A 1 c,fv] w fun e w'=>e=.returned (.tuple #[])/\Ext w w':=by
 go_enter Tryz.func111,Tryz.ntmps111;go_wp2_with (fail);refine(ZfX A c fv _).mono ?_;rintro e w1 ⟨rfl,x1⟩;have X:=Ext.tr (a:=w) XI x1;clear x1;go_wp2_with (fail);go_end0;exact⟨rfl,X.tr XI⟩
theorem Zg4 (base io g0 g1:Nat)(P:Option Addr)(cp:Nat)(L:Option Addr)(cL:Nat)(w:World)(hP:RdV w 233 P [.pointer (some ⟨g0,io,none⟩),.pointer (some ⟨g1,io,none⟩)])(c0:w.cell? ⟨g0,io,none⟩=some (.slice L 1 cL))(c1:w.cell? ⟨g1,io,none⟩=some (.slice none 0 0))(H:OneR w base L cL) :
  Calls Tryz.prog 119 #[.slice P 2 cp] w fun e w'=>∃ A c,e=.returned (.slice A 1 c)/\OneR w' w.heap.size A c/\Ext w w':=by
 obtain⟨i0,hi,hz0,hz1,hz2⟩:=info_parts WK;replace hi:=Hd hi;replace hz0:=Hd hz0;replace hz1:=Hd hz1;replace hz2:=Hd hz2;obtain⟨pb,po,v0,rfl,hpb,p0,e0⟩:=hP.at (j:=0) (by simp);obtain⟨pb',po',v1,e1,-,p1,e2⟩:=hP.at (j:=1) (by simp);obtain⟨rfl,rfl⟩:pb=pb'/\po=po':=by simpa using e1
 obtain rfl:=Option.some.inj e0.out;obtain rfl:=Option.some.inj e2.out;rw[Nat.add_zero] at p0;replace H:=Hd H;replace c0:=Hd c0;replace c1:=Hd c1;clear e0 e1 e2 hP;go_enter Tryz.func119,Tryz.ntmps119;go_wp2_with (fail);refine wp_loop_rounds 3 ?_;rw[rounds_succ];go_wp2_with (fail);refine(ZfV g0 io base L cL _ ((show Ext w _ from XI).keeps c0.out) (H.out.ext XI)).mono ?_;rintro e w2 ⟨A3,c3,rfl,⟨A4,c4,o3,r3⟩,x3⟩;have X:=Ext.tr (a:=w) XI x3;have hzw:=X.size;have o3r:=Hd o3.read.rdC;have r31:=Hd (r3.more (base':=w.heap.size) (by simp));clear x3 o3 r3;go_wp2_with (at_builtin;refine Zw _ (e:=223) Tryz.underlying136 hi.out hz0.out hz1.out hz2.out (by simp[Value.cells]) (by omega) rfl _ _ rfl w.heap.size none 0 0 [] A3 1 c3 [.int .i64 1,.slice A4 0 c4] rfl rfl ?_ ?_ ?_ ?_ ?_ ?_ ?_ ?_;(exact OwV.nil _ _ _ _);(exact o3r.out);(simp);(simp[Value.oneCell']);(simp only[maxLen];omega);omega;(first | exact Nat.le_refl _ | omega | (focus (simp;try omega)));rintro A5 c5 w5 o5 g5 _);have M5:ModT w.heap.size [223] w2 w5:=(OwV.nil _ _ 223 2).grownT g5;have R5:=Hd (r31.out.modT M5 (by decide));have X5:=X.modT M5 (Nat.le_refl _);replace o5:=Hd o5;have q1:=X5.keeps p1;have d1:=Hd (X5.keeps c1.out);clear M5 g5 X o3r r31 p0 p1 c0 c1 H;rw[rounds_succ];go_wp2_with (fail);refine(ZfU g1 io _ ((show Ext w5 _ from XI).keeps d1.out)).mono ?_;rintro e w6 ⟨rfl,x6⟩;have X6:=Ext.tr (a:=w5) XI x6;have o6:=Hd (o5.out.ext X6);have R6:=Hd (R5.out.ext X6);have X7:=X5.tr X6;have hz7:=X7.size;clear x6 X6 o5 R5 X5;go_wp2_with (at_builtin;refine Zw _ (e:=223) Tryz.underlying136 hi.out hz0.out hz1.out hz2.out (by simp[Value.cells]) (by omega) rfl _ _ rfl w.heap.size A5 1 c5 [.int .i64 1,.slice A4 0 c4] none 0 0 [] rfl rfl ?_ ?_ ?_ ?_ ?_ ?_ ?_ ?_;(exact o6.out);(exact(RdV.nil _ 223 _).rdC);(simp);(simp);(simp only[maxLen];omega);omega;(first | exact Nat.le_refl _ | omega | (focus (simp;try omega)));rintro A8 c8 w8 o8 g8 _);have M8:ModT w.heap.size [223] w6 w8:=o6.out.grownT g8;have R8:=Hd (R6.out.modT M8 (by decide));have X8:=X7.modT M8 (Nat.le_refl _);replace o8:=Hd o8;clear M8 g8 X7 o6 R6;rw[rounds_succ];go_wp2_with (fail);refine(Zgh A8 c8 _ _).mono ?_;rintro e w9 ⟨rfl,x9⟩;have X9:=Ext.tr (a:=w8) XI x9;clear x9;go_wp2_with (fail);go_ret;exact⟨A8,c8,rfl,⟨A4,c4,o8.out.ext X9,R8.out.ext X9⟩,X8.tr X9⟩
theorem ZaX (g:Nat)(w:World)(hg:g<w.heap.size) :
  Calls Tryz.prog 118 #[.pointer (some ⟨g,0,none⟩)] w fun e w'=>e=.returned (.pointer (some ⟨g,8,none⟩))/\Ext w w':=by
 go_enter Tryz.func118,Tryz.ntmps118;go_wp2_with (fail);go_ret;exact⟨rfl,XI⟩
theorem ZeS : (Tryz.prog.info? 233).map (fun i=>(i.zero,i.size,i.bytes))=some (some (.pointer none),1,8):=by kernel_rfl
theorem ZhI (base gM gW g0 g1 cW:Nat)(L:Option Addr)(cL:Nat)(w:World)(cm:w.cell? ⟨gM,13,none⟩=some (.slice (some ⟨gW,0,none⟩) 2 cW))(d0:w.cell? ⟨gW,0,none⟩=some (.pointer (some ⟨g0,0,none⟩)))(d1:w.cell? ⟨gW,1,none⟩=some (.pointer (some ⟨g1,0,none⟩)))(l0:w.cell? ⟨g0,8,none⟩=some (.slice L 1 cL))(l1:w.cell? ⟨g1,8,none⟩=some (.slice none 0 0))(H:OneR w base L cL) :
  Calls Tryz.prog 58 #[.pointer (some ⟨gM,0,none⟩)] w fun e w'=>∃ A c,e=.returned (.slice A 1 c)/\OneR w' w.heap.size A c/\Ext w w':=by
 obtain⟨i0,hi,hz0,hz1,hz2⟩:=info_parts ZeS;replace hi:=Hd hi;replace hz0:=Hd hz0;replace hz1:=Hd hz1;replace hz2:=Hd hz2;have b0:=World.block_lt_of_cell? w _ l0;have b1:=World.block_lt_of_cell? w _ l1;replace H:=Hd H;replace l0:=Hd l0;replace l1:=Hd l1;go_enter Tryz.func58,Tryz.ntmps58;go_wp2_with (fail);refine wp_loop_rounds 3 ?_;rw[rounds_succ];go_wp2_with (fail);refine(ZaX g0 _ (by(first | exact Nat.le_refl _ | omega | (focus (simp;try omega))))).mono ?_;rintro e w2 ⟨rfl,x2⟩;have X:=Ext.tr (a:=w) XI x2;clear x2;go_wp2_with (at_builtin;refine Zw _ (e:=233) Tryz.underlying232 hi.out hz0.out hz1.out hz2.out (by simp[Value.cells]) (by omega) rfl _ _ rfl w.heap.size none 0 0 [] (some ⟨w2.heap.size,0,none⟩) 1 1 [.pointer (some ⟨g0,8,none⟩)] rfl rfl ?_ ?_ ?_ ?_ ?_ ?_ ?_ ?_;(exact OwV.nil _ _ _ _);(exact(RdV.blk (.new (by simp))).rdC);(simp);(simp[Value.oneCell']);(simp only[maxLen];omega);omega;(have:=X.size;(first | exact Nat.le_refl _ | omega | (focus (simp;try omega))));rintro A5 c5 w5 o5 g5 _);have M5:ModT w.heap.size [233] w2 w5:=(ModT.of_ext ((Ext.rf _).alloc _)).tr ((OwV.nil _ _ 233 1).grownT g5);have X5:=X.modT M5 (Nat.le_refl _);have e1:=X5.keeps d1;have z5:=X5.size;replace o5:=Hd o5;clear M5 g5 X;rw[rounds_succ];go_wp2_with (fail);refine(ZaX g1 _ (by(first | exact Nat.le_refl _ | omega | (focus (simp;try omega))))).mono ?_;rintro e w6 ⟨rfl,x6⟩;have X6:=Ext.tr (a:=w5) XI x6;have o6:=Hd (o5.out.ext X6);have X7:=X5.tr X6;have z7:=X7.size;clear x6 X6 o5 X5 e1;go_wp2_with (at_builtin;refine Zw _ (e:=233) Tryz.underlying232 hi.out hz0.out hz1.out hz2.out (by simp[Value.cells]) (by omega) rfl _ _ rfl w.heap.size A5 1 c5 [.pointer (some ⟨g0,8,none⟩)] (some ⟨w6.heap.size,0,none⟩) 1 1 [.pointer (some ⟨g1,8,none⟩)] rfl rfl ?_ ?_ ?_ ?_ ?_ ?_ ?_ ?_;(exact o6.out.ext ((Ext.rf _).alloc _));(exact(RdV.blk (.new (by simp))).rdC);(simp);(simp[Value.oneCell']);(simp only[maxLen];omega);omega;(first | exact Nat.le_refl _ | omega | (focus (simp;try omega)));rintro A8 c8 w8 o8 g8 _);have M8:ModT w.heap.size [233] w6 w8:=(ModT.of_ext ((Ext.rf _).alloc _)).tr ((o6.out.ext ((Ext.rf _).alloc _)).grownT g8);have X8:=X7.modT M8 (Nat.le_refl _);have r8:=Hd o8.read;have z8:=X8.size;clear M8 g8 X7 o6 o8;rw[rounds_succ];go_wp2_with (fail);refine(Zg4 base 8 g0 g1 A8 c8 L cL _ (r8.out.ext XI) ((show Ext w _ from by(repeat (first | assumption | exact Ext.rf _ | apply Ext.drew | apply Ext.drewN | apply Ext.alloc))).keeps l0.out) ((show Ext w _ from by(repeat (first | assumption | exact Ext.rf _ | apply Ext.drew | apply Ext.drewN | apply Ext.alloc))).keeps l1.out) (H.out.ext (by(repeat (first | assumption | exact Ext.rf _ | apply Ext.drew | apply Ext.drewN | apply Ext.alloc))))).mono ?_;rintro e w9 ⟨A9,c9,rfl,o9,x9⟩;have X9:=Ext.tr (a:=w) (by(repeat (first | assumption | exact Ext.rf _ | apply Ext.drew | apply Ext.drewN | apply Ext.alloc))) x9;have o9:=Hd o9;clear x9;go_wp2_with (fail);go_ret;obtain⟨A',c',h1,h2⟩:=o9.out;exact⟨A9,c9,rfl,⟨A',c',h1.more (by(first | exact Nat.le_refl _ | omega | (focus (simp;try omega)))),h2.more (by(first | exact Nat.le_refl _ | omega | (focus (simp;try omega))))⟩,X9⟩
theorem ZgE {F:Fix}{j:Nat}{w:World}(R:RI F 9 j w)(O:FixOk F) : Calls Tryz.prog 58 #[.pointer (some ⟨F.gM,0,none⟩)] w fun e w'=>∃ A c,e=.returned (.slice A 1 c)/\OneR w' w.heap.size A c/\Ext w w':=by
 obtain⟨M,P,p,s,o,L,cL,vs,rs,dq,R,-,-,-,-,-,⟨hrs,h0⟩,h1,-,-⟩:=R;subst hrs;exact ZhI F.zo F.gM F.gW (F.gw 0) (F.gw 1) F.cW L cL w (Blk.cell R.ma 13) ((R.wl.cell 0).trans O.w0) ((R.wl.cell 1).trans O.w1) (by rw[Blk.cell (R.wk 0 (by decide)) 8,<-h0];rfl) (by rw[Blk.cell (R.wk 1 (by decide)) 8,<-h1];rfl) (OneR.of R.lo R.lr)
theorem ZfY (u:World)(A:Option Addr)(n c:Nat) : (binOp .eql 136 (.slice A n c) (.slice none 0 0)).run Tryz.prog u=.ok (.bool A.isNone) u:=Lib.run_eql_slice_nil u _ 223 _ _ _ _ _ Tryz.underlying136
theorem ZgF (base:Nat)(A:Option Addr)(c:Nat)(w:World)(H:OneR w base A c)(hb:base<=w.heap.size) :
  Calls Tryz.prog 110 #[.slice A 1 c] w fun e w'=>∃ A' c',e=.returned (.slice A' 1 c')/\OneR w' base A' c'/\Ext w w':=by
 obtain⟨b,off,A2,c2,rfl,a0,a1,o2⟩:=H.at;obtain⟨A3,c3,h1,h2⟩:=H;obtain⟨i0,hi,hz0,hz1,hz2⟩:=info_parts WK;replace hi:=Hd hi;replace hz0:=Hd hz0;replace hz1:=Hd hz1;replace hz2:=Hd hz2;have rd:=Hd h1.read.rdC;have hnil:=fun u:World=>ZfY u (some ⟨b,off,none⟩) 1 c
 replace h2:=Hd h2;clear h1 a0 a1 o2;go_enter Tryz.func110,Tryz.ntmps110;go_wp2_with (at_builtin;refine Zw _ (e:=223) Tryz.underlying136 hi.out hz0.out hz1.out hz2.out (by simp[Value.cells]) (by omega) rfl _ _ rfl w.heap.size (some ⟨w.heap.size,0,none⟩) 0 0 [] (some ⟨b,off,none⟩) 1 c [.int .i64 1,.slice A3 0 c3] rfl rfl ?_ ?_ ?_ ?_ ?_ ?_ ?_ ?_;(exact OwV.full (.new rfl) (Nat.le_refl _) rfl (by simp[maxLen]));(exact rd.out.ext XI);(simp);(simp[Value.oneCell']);(simp only[maxLen];omega);omega;(simp);rintro A5 c5 w5 o5 g5 _);go_ret;have X5:Ext w w5:=Ext.grow (a:=w) ((Ext.rf w).alloc _) g5 (fun z hz=>by simp[bl] at hz;omega);exact⟨A5,c5,rfl,⟨A3,c3,o5.more hb,h2.out.ext X5⟩,X5⟩
def ZeT (gr g:Nat)(w0:World)(e:Ending)(w':World) : Prop:=∃ M mc,e=.returned (.int .i64 0)/\Blk w' gr 303 #[.pointer (some ⟨g,0,none⟩),.string ⟨#[112]⟩,.int .i64 1,.slice M 1 mc]/\OneR w' w0.heap.size M mc/\Ext w0 w'
def UK (g:Nat)(w0:World) : Prop:=∀ W,Ext w0 W->Calls Tryz.prog 242 #[.pointer (some ⟨g,0,none⟩)] W fun e w'=>e=.returned (.int .i64 1)/\Ext W w'
theorem Zg5 (gr g:Nat)(w0 w:World)(X:Ext w0 w)(hgr:w0.heap.size<=gr)(hB:Blk w gr 303 #[.pointer (some ⟨g,0,none⟩),.string ⟨#[112]⟩,.int .i64 0,.slice none 0 0])(DE:UK g w0) :
  Calls Tryz.prog 190 #[.pointer (some ⟨gr,0,none⟩),.slice none 0 0] w (ZeT gr g w0):=by
 have zgr:=hB.lt;have c0:w.cell? ⟨gr,0,none⟩=some (.pointer (some ⟨g,0,none⟩)):=(hB.cell 0);have c1:w.cell? ⟨gr,1,none⟩=some (.string ⟨#[112]⟩):=(hB.cell 1);have c2:w.cell? ⟨gr,2,none⟩=some (.int .i64 0):=(hB.cell 2);have DE1:=Hd (fun(V:World) (x:Ext w V)=>DE V (X.tr x));replace hB:=Hd hB;replace X:=Hd X;go_enter Tryz.func190,Tryz.ntmps190;go_wp2_with (go_quiet (fail));refine(DE1.out _ XI).mono ?_;rintro e w2 ⟨rfl,x2⟩;have X2:=Hd (Ext.tr (a:=w) XI x2);have d1:w2.cell? ⟨gr,1,none⟩=some (.string ⟨#[112]⟩):=(Blk.ext hB.out X2.out).cell 1;have d2:w2.cell? ⟨gr,2,none⟩=some (.int .i64 0):=(Blk.ext hB.out X2.out).cell 2;have f2:=(Blk.ext hB.out X2.out).free 2;clear x2 c0 c1 c2 DE1;go_upto_region 17 with(go_quiet (fail));have NX:Hid (Blk ((w2.drewN nq).setCell ⟨gr,2,none⟩ (.int .i64 1)) gr 303 #[.pointer (some ⟨g,0,none⟩),.string ⟨#[112]⟩,.int .i64 1,.slice none 0 0]):=Hd ((Blk.ext hB.out (X2.out.drewN nq)).set 2 (.int .i64 1));have X0:Hid (Ext w0 ((w2.drewN nq).setCell ⟨gr,2,none⟩ (.int .i64 1))):=Hd (((X.out.tr X2.out).drewN nq).setNew hgr _);generalize (w2.drewN nq).setCell ⟨gr,2,none⟩ (.int .i64 1)=wd at *;have zd:=NX.out.lt;have zw:=X0.out.size;have c3:wd.cell? ⟨gr,3,none⟩=some (.slice none 0 0):=(NX.out.cell 3);have hbs:∀ (u:World) (A':Option Addr) (c':Nat),(Instr.buildSlice 136 1 #[(0,.agg #[.int .i64 1,.slice A' 0 c'])]).run Tryz.prog u=.ok (.slice (some ⟨u.heap.size,0,none⟩) 1 1) (u.alloc (.cells #[.int .i64 1,.slice A' 0 c'] 223)):=fun u A' c'=>by go_simp
 obtain⟨i0,hi,hz0,hz1,hz2⟩:=info_parts WK;replace hbs:=Hd hbs;replace hi:=Hd hi;replace hz0:=Hd hz0;replace hz1:=Hd hz1;replace hz2:=Hd hz2;clear hB X X2 d1 d2 f2 DE;refine wp_region_any (by kernel_rfl) ?_
 change wpAny _ _ _ _ _ _ _ (World.drew _)
 refine Za 0 (.move (.tmp 0)) 301 (some 50) rfl (by kernel_rfl) Hq (by intro _;go_simp;try rfl) ?_;simp only[lay];refine Za 1 (.move (.tmp 0)) 301 (some 51) rfl (by kernel_rfl) Hq (by intro _;go_simp;try rfl) ?_;simp only[lay];refine Za 2 (.nilCheck (.tmp 51)) 0 (some 52) rfl (by kernel_rfl) Hq (by intro _;go_simp;try rfl) ?_;simp only[lay];refine Za 3 (.fieldAddr 303 (.tmp 52) 3) 0 (some 53) rfl (by kernel_rfl) Hq (by intro _;go_simp;try rfl) ?_;simp only[lay];refine Za 5 (.move (.tmp 6)) 3 (some 55) rfl (by kernel_rfl) Hq (by intro _;go_simp;try rfl) ?_;simp only[lay];refine Za 6 (.move (.tmp 1)) 22 (some 56) rfl (by kernel_rfl) Hq (by intro _;go_simp;try rfl) ?_;simp only[lay];refine Wj (n:=4) [(4,some 54),(7,some 57),(8,some 58),(9,some 59)] (Ext wd)
  (VF (fun | 4=>some (.slice none 0 0) | _=>none)
   (fun i v V=>(i=7->∃ A' c',v=.slice A' 0 c'/\OwI V wd.heap.size A' c' [])/\(i=8->∃ A' c',v=.agg #[.int .i64 1,.slice A' 0 c']/\OwI V wd.heap.size A' c' [])/\(i=9->∃ q A' c',v=.slice (some ⟨q,0,none⟩) 1 1/\Blk V q 223 #[.int .i64 1,.slice A' 0 c']/\OwI V wd.heap.size A' c' [])))
  Ext #[true,true,true,true,true,true,true,true,true,true,false,false,false,false] (by kernel_rfl) (VF.stab ?_) ?_ ?_ ((Ext.rf _).drew)
 ·intro j v V V' _ ⟨g7,g8,g9⟩ hx
  refine⟨fun h=>?_,fun h=>?_,fun h=>?_⟩
  ·obtain⟨A',c',q1,q2⟩:=g7 h
   exact⟨A',c',q1,q2.ext hx⟩
  ·obtain⟨A',c',q1,q2⟩:=g8 h
   exact⟨A',c',q1,q2.ext hx⟩
  ·obtain⟨q,A',c',q1,q2,q3⟩:=g9 h
   exact⟨q,A',c',q1,q2.ext hx,q3.ext hx⟩
 ·intro pq hpm u w2 hRW hD K hK
  have r0:=(hRW.cells.1 _ 3 zd).trans c3;have z2:=hRW.size;simp only[List.mem_cons,List.not_mem_nil,or_false] at hpm;rcases hpm with rfl | rfl | rfl | rfl
  ·exact Ze (T:=136) rfl (.pointer (some ⟨gr,3,none⟩)) (by kernel_rfl) (.slice none 0 0) (by go_simp) (hK _ _ (VF.mk rfl) hRW (Ext.rf _))
  ·refine Zi rfl #[.slice none 0 0] (by go_simp) (by kernel_rfl) _ (ZO none 0 [] w2 (OwI.nil w2 0).read (by decide)) ?_
   rintro e w3 ⟨A3,c3,rfl,o3,x3⟩;exact⟨_,rfl,hK _ _ (VF.mg rfl ⟨fun _=>⟨A3,c3,rfl,o3.more z2⟩,(fun h=>by cases h),(fun h=>by cases h)⟩) (hRW.tr x3) x3⟩
  ·obtain⟨A3,c3,h7,o3⟩:=((hD 7 (Zg (by kernel_rfl))).g rfl).1 rfl
   exact Zl (op:=.build 223 #[(0,.tmp 55),(1,.tmp 57)]) rfl (.agg #[.int .i64 1,.slice A3 0 c3]) (by simp only[Zc,Act.put,List.setIfInBounds_toArray,List.set_cons_zero,List.set_cons_succ];unfold Zj;go_simp;try simp only[h7];try go_simp) (hK _ _ (VF.mg rfl ⟨(fun h=>by cases h),fun _=>⟨A3,c3,rfl,o3⟩,(fun h=>by cases h)⟩) hRW (Ext.rf _))
  ·obtain⟨A3,c3,h8,o3⟩:=((hD 8 (Zg (by kernel_rfl))).g rfl).2.1 rfl
   exact ZdV rfl _ (Eq.trans (b:=u 8) (by kernel_rfl) h8) _ (hbs.out _ _ _) (hK _ _ (VF.mg rfl ⟨(fun h=>by cases h),(fun h=>by cases h),fun _=>⟨_,A3,c3,rfl,.new rfl,o3.ext ((Ext.rf _).alloc _)⟩⟩) (hRW.alloc _) ((Ext.rf _).alloc _))
 ·intro u w3 hRW hV
  have h4:=(hV (4,some 54) (by simp)).k rfl;obtain⟨_,_,h7,_⟩:=((hV (7,some 57) (by simp)).g rfl).1 rfl;obtain⟨_,_,h8,_⟩:=((hV (8,some 58) (by simp)).g rfl).2.1 rfl;obtain⟨q,A3,c3,h9,b9,o9⟩:=((hV (9,some 59) (by simp)).g rfl).2.2 rfl;simp only[Zc,h4,h7,h8,h9];have ho:=OwV.nil w3 w0.heap.size 223 2;obtain⟨A4,c4,w4,hrun,o4,g4,_⟩:=Wa w3 (e:=223) Tryz.underlying136 hi.out hz0.out hz1.out hz2.out (by simp[Value.cells]) (by omega) w0.heap.size 136 none 0 0 [] (some ⟨q,0,none⟩) 1 1 [.int .i64 1,.slice A3 0 c3] ho ((RdV.blk b9).rdC) (by simp) (by simp[Value.oneCell']) (by simp only[maxLen];omega) (by omega) (by have:=hRW.size;omega);have M4:=ho.grownT g4;have hb4:=(Blk.ext NX.out hRW).modT M4 (by decide);have f4:=hb4.free 3;have c4':w4.cell? ⟨gr,3,none⟩=some (.slice none 0 0):=(hb4.cell 3);have M5:ModT w0.heap.size [303] w4 (w4.setCell ⟨gr,3,none⟩ (.slice A4 1 c4)):=ModT.set w4 hb4 (by simp) hgr 3 _;have NB:Hid (Blk (w4.setCell ⟨gr,3,none⟩ (.slice A4 1 c4)) gr 303 #[.pointer (some ⟨g,0,none⟩),.string ⟨#[112]⟩,.int .i64 1,.slice A4 1 c4]):=Hd (hb4.set 3 _);have NR:Hid (OneR (w4.setCell ⟨gr,3,none⟩ (.slice A4 1 c4)) w0.heap.size A4 c4):=Hd ⟨A3,c3,o4.modT M5 (by decide),((o9.more zw).modT M4 (by decide)).modT M5 (by decide)⟩;have X9:=Hd (((X0.out.tr hRW).modT M4 (Nat.le_refl _)).modT M5 (Nat.le_refl _));clear h4 h7 h8 h9 hV g4 M4 M5 o4 b9 o9 hb4 NX X0 hbs hi hz0 hz1 hz2 ho;refine Zd 10 (by kernel_rfl) (Vh rfl (.slice none 0 0) (.slice (some ⟨q,0,none⟩) 1 1) (by kernel_rfl) (by kernel_rfl) _ hrun ?_)
  try simp only[lay]
  refine Za 11 (.nilCheck (.tmp 50)) 0 (some 61) rfl (by kernel_rfl) Hq (by intro _;go_simp;try rfl) ?_;simp only[lay];refine Za 12 (.fieldAddr 303 (.tmp 61) 3) 0 (some 62) rfl (by kernel_rfl) Hq (by intro _;go_simp;try rfl) ?_;simp only[lay];refine Zd 13 (by kernel_rfl) (ZR rfl (.pointer (some ⟨gr,3,none⟩)) (.slice A4 1 c4) (by kernel_rfl) (by kernel_rfl) (by go_simp;rfl) ?_);refine wpAny_done (by kernel_rfl) ?_ _;clear hrun c4' f4;go_simp;generalize w4.setCell ⟨gr,3,none⟩ (.slice A4 1 c4)=w6 at *;go_wp2_with (fail);go_ret;exact⟨A4,c4,rfl,NB.out,NR.out,X9.out⟩
def Zb5 (w0:World)(e:Ending)(w':World) : Prop:=∃ M mc,e=.returned (.tuple #[.slice M 1 mc,.int .i64 0,.int .i64 0])/\OneR w' w0.heap.size M mc/\Ext w0 w'
theorem ZgG (g:Nat)(w:World)(DE:UK g w) :
  Calls Tryz.prog 115 #[.pointer (some ⟨g,0,none⟩),.string ⟨#[112]⟩] w (Zb5 w):=by
 have ND:=Hd (fun(W:World) (X:Ext w W) (gr:Nat) (hgr:w.heap.size<=gr) (hB:Blk W gr 303 #[.pointer (some ⟨g,0,none⟩),.string ⟨#[112]⟩,.int .i64 0,.slice none 0 0])=>Zg5 gr g w W X hgr hB DE);clear DE;go_enter Tryz.func115,Tryz.ntmps115;go_wp2_with (fail);refine(ND.out _ XI w.heap.size (Nat.le_refl _) (.new rfl)).mono ?_;rintro e w2 ⟨M,mc,rfl,b2,o2,x2⟩;have c2:=(b2.cell 2);have c3:=(b2.cell 3);have X2:=Hd x2;replace o2:=Hd o2;clear b2 ND x2;go_wp2_with (fail);go_ret3;exact⟨M,mc,rfl,o2.out,X2.out⟩
theorem Zg6 (A B:Option Addr)(c d:Nat)(w:World)(hA:RdI w A [])(hB:RdI w B []) :
  Calls Tryz.prog 117 #[.agg #[.int .i64 1,.slice A 0 c],.agg #[.int .i64 1,.slice B 0 d]] w fun e w'=>e=.returned (.bool true)/\Ext w w':=by
 have SE:=Hd (fun(W:World) (x:Ext w W)=>Zal A B c d [] [] W (hA.ext x) (hB.ext x) (by decide) (by decide));clear hA hB;go_enter Tryz.func117,Tryz.ntmps117;go_wp2_with (fail);refine(SE.out _ XI).mono ?_;rintro e w' ⟨rfl,x1⟩;have X1:=Hd (Ext.tr (a:=w) XI x1);clear x1;go_wp2_with (fail);go_ret;exact⟨rfl,X1.out.tr XI⟩
theorem ZhJ (base base':Nat)(A B:Option Addr)(c d:Nat)(w:World)(HA:OneR w base A c)(HB:OneR w base' B d) :
  Calls Tryz.prog 116 #[.slice A 1 c,.slice B 1 d,.func (.func 117) #[] #[]] w fun e w'=>e=.returned (.bool true)/\Ext w w':=by
 obtain⟨b,off,A2,c2,rfl,a0,a1,o2⟩:=HA.at;obtain⟨b',off',A3,c3,rfl,b0,b1,o3⟩:=HB.at;have SM:=Hd (fun(W:World) (x:Ext w W)=>Zg6 A2 A3 c2 c3 W (o2.read.ext x) (o3.read.ext x));have zb:=World.block_lt_of_cell? w _ b0;clear o2 o3 HA HB;go_enter Tryz.func116,Tryz.ntmps116;go_wp2_with (fail);refine wp_loop_rounds 2 ?_;rw[rounds_succ];go_wp2_with (fail);refine(SM.out _ XI).mono ?_;rintro e w5 ⟨rfl,x5⟩;have X5:=Hd (Ext.tr (a:=w) XI x5);clear x5 SM a0 a1 b0 b1;go_wp2_with (fail);rw[rounds_succ];go_wp2_with (fail);go_ret;exact⟨rfl,X5.out⟩
theorem ZfZ (w:World) : Calls Tryz.prog 114 #[.int .i64 1] w fun e w'=>e=.returned (.int .u8 112)/\Ext w w':=by
 go_enter Tryz.func114,Tryz.ntmps114;go_wp2_with (fail);go_ret;exact⟨rfl,XI⟩
theorem Zgi {w:World}{A:Option Addr}(c:Nat)(h:RdV w 5 A [.int .u8 112]) : (convert 64 9 (.slice A 1 c)).run Tryz.prog w=.ok (.string ⟨#[112]⟩) w:=by
 obtain⟨b,off,rfl,hb,hc⟩:=h.form (by simp);exact run_convert_bytes_back (P:=Tryz.prog) w 64 9 5 ⟨b,off,none⟩ c [112] Tryz.underlying64 Tryz.underlying5 Tryz.underlying9 fun j hj=>by
  rw[add_plain];obtain rfl:j=0:=by simpa using hj
  exact hc 0 _ rfl
theorem ZeU : (Tryz.prog.info? 5).map (fun i=>(i.zero,i.size,i.bytes))=some (some (.int .u8 0),1,1):=by kernel_rfl
theorem Zg7 (base g:Nat)(A:Option Addr)(c:Nat)(w:World)(H:OneR w base A c)(hb:base<=w.heap.size)(DE:UK g w) :
  Calls Tryz.prog 57 #[.pointer (some ⟨g,0,none⟩),.slice A 1 c] w fun e w'=>e=.returned (.tuple #[.string ⟨#[112]⟩,.int .i64 0])/\Ext w w':=by
 obtain⟨i0,hi,hz0,hz1,hz2⟩:=info_parts ZeU;replace hi:=Hd hi;replace hz0:=Hd hz0;replace hz1:=Hd hz1;replace hz2:=Hd hz2;replace H:=Hd H;replace DE:=Hd DE;go_enter Tryz.func57,Tryz.ntmps57;go_wp2_with (fail);refine(ZgF base A c _ (H.out.ext XI) (by(first | exact Nat.le_refl _ | omega | (focus (simp;try omega))))).mono ?_;rintro e w1 ⟨A1,c1,rfl,r1,x1⟩;have X1:=Ext.tr (a:=w) XI x1;replace r1:=Hd r1;clear x1 H;go_wp2_with (fail);refine(Zgh A1 c1 _ _).mono ?_;rintro e w2 ⟨rfl,x2⟩;have y2:=Ext.tr (a:=w1) XI x2;have r2:=Hd (r1.out.ext y2);have X2:=X1.tr y2;obtain⟨b,off,A2,c2,rfl,a0,a1,-⟩:=r2.out.at;clear r1 X1 x2 y2;go_wp2_with (fail);refine wp_loop_rounds 2 ?_;rw[rounds_succ];go_wp2_with (fail);refine(ZfZ _).mono ?_;rintro e w5 ⟨rfl,x5⟩;have Y5:=Ext.tr (a:=w2) XI x5;have z5:=(X2.tr Y5).size;clear x5 a0 a1;go_wp2_with (at_builtin;refine Zw _ (e:=5) Tryz.underlying64 hi.out hz0.out hz1.out hz2.out (by simp[Value.cells]) (by omega) rfl _ _ rfl w.heap.size none 0 0 [] (some ⟨w5.heap.size,0,none⟩) 1 1 [.int .u8 112] rfl rfl ?_ ?_ ?_ ?_ ?_ ?_ ?_ ?_;(exact OwV.nil _ _ _ _);(exact(RdV.blk (.new (by simp))).rdC);(simp);(simp[Value.oneCell']);(simp only[maxLen];omega);omega;(simp;omega);rintro A6 c6 w6 o6 g6 _);have M6:ModT w.heap.size [5] w5 w6:=(ModT.of_ext ((Ext.rf _).alloc _)).tr ((OwV.nil _ _ 5 1).grownT g6);have X6:=(X2.tr Y5).modT M6 (Nat.le_refl _);have r6:=Hd ((r2.out.ext Y5).modT' M6 (by decide) (by decide));replace o6:=Hd o6;clear M6 g6 X2 Y5 r2;rw[rounds_succ];have CV1:=Zgi c6 o6.out.read;go_wp2_with (fail);refine(ZgG g _ (fun W x=>DE.out W ((show Ext w _ from by(repeat (first | assumption | exact Ext.rf _ | apply Ext.drew | apply Ext.drewN | apply Ext.alloc))).tr x))).mono ?_;rintro e w7 ⟨M,mc,rfl,o7,x7⟩;have Y7:=Ext.tr (a:=w6) XI x7;have r7:=Hd (r6.out.ext Y7);have q7:=Hd (o6.out.ext Y7);have X7:=X6.tr Y7;replace o7:=Hd o7;clear x7 Y7 X6 r6 o6 CV1 DE;go_wp2_with (fail);refine(ZhJ _ _ _ M c1 mc _ (r7.out.ext XI) (o7.out.ext XI)).mono ?_;rintro e w8 ⟨rfl,x8⟩;have Y8:=Ext.tr (a:=w7) XI x8;have CV2:=Zgi c6 (q7.out.ext Y8).read;have X8:=X7.tr Y8;clear x8 Y8 X7 r7 o7 q7;go_wp2_with (fail);go_ret2;exact⟨rfl,X8⟩
theorem ZeV (k nn cap c:Int)(wv vv cv:Value)(hk:k≠1)(w:World) :
  Calls Tryz.prog 107 #[.agg #[.int .i64 k,.int .i64 nn,.int .i64 cap,wv,vv,cv],.int .i64 c] w fun e w'=>e=.returned (.int .i64 c)/\Ext w w':=by
 go_enter Tryz.func107,Tryz.ntmps107;go_wp2_with (go_quiet (fail));go_ret;exact⟨rfl,XI⟩
def Zb6 (x:Int)(A:Option Addr)(n k:Nat)(c:Int) : Value:=.agg #[.int .i64 (if x=0 then 1 else 0),.slice A n k,.int .i64 c,.int .i64 c]
def UL (x:Int)(xs:List Int)(c:Int)(w:World)(e:Ending)(w':World) : Prop:=∃ (A:Option Addr) (k:Nat),e=.returned (Zb6 x A xs.length k c)/\OwI w' w.heap.size A k xs/\Ext w w'
theorem ZaY (gM:Nat)(m:MaS)(x y c:Int)(xs:List Int)(w:World)(M:MaB w gM m)(hk:m.kind≠1)(HB:∀ W,Ext w W->Calls Tryz.prog 106 #[.pointer (some ⟨m.sh.gi,0,none⟩)] W (Zay xs c W))(HN:∀ W,Ext w W->Calls Tryz.prog 253 #[.pointer (some ⟨m.sh.gu,0,none⟩)] W fun e w'=>e=.returned (.tuple #[.int .i64 x,.int .i64 y])/\Ext W w') :
  Calls Tryz.prog 55 #[.pointer (some ⟨gM,0,none⟩)] w (UL x xs c w):=by
 have X0:Hid (Ext w (w.alloc (.cells #[.int .i64 0,.slice none 0 0,.int .i64 0,.int .i64 0] 133))):=Hd ((Ext.rf w).alloc _);have B0:Hid (Blk (w.alloc (.cells #[.int .i64 0,.slice none 0 0,.int .i64 0,.int .i64 0] 133)) w.heap.size 133 #[.int .i64 0,.slice none 0 0,.int .i64 0,.int .i64 0]):=Hd (Blk.new rfl);have M0:Hid (MaB (w.alloc (.cells #[.int .i64 0,.slice none 0 0,.int .i64 0,.int .i64 0] 133)) gM m):=Hd (Blk.ext M X0.out);have DN:=fun(W:World) (X:Ext w W)=>Zc9 gM m x y W (Blk.ext M X) (fun W' X'=>HN W' (X.tr X'))
 have OF:=Hd (fun(W:World)=>ZeV m.kind m.nn m.cap c m.wv m.vv m.cv hk W);replace HB:=Hd HB;replace DN:=Hd DN;clear M HN hk;go_enter Tryz.func55,Tryz.ntmps55;go_upto_region 3 with(go_quiet (fail));have zM:gM<(w.alloc (.cells #[.int .i64 0,.slice none 0 0,.int .i64 0,.int .i64 0] 133)).heap.size:=Blk.lt M0.out;have zR:w.heap.size<(w.alloc (.cells #[.int .i64 0,.slice none 0 0,.int .i64 0,.int .i64 0] 133)).heap.size:=Blk.lt B0.out;generalize w.alloc (.cells #[.int .i64 0,.slice none 0 0,.int .i64 0,.int .i64 0] 133)=w0 at *;obtain⟨gr,hgr⟩:∃ gr,gr=w.heap.size:=⟨_,rfl⟩;rw[<-hgr] at B0 zR;rw[<-hgr];replace hgr:=Hd hgr;have k0:w0.cell? ⟨gM,0,none⟩=some (.int .i64 m.kind):=(Blk.cell M0.out 0);have k1:w0.cell? ⟨gM,1,none⟩=some (.int .i64 m.nn):=(Blk.cell M0.out 1);have k2:w0.cell? ⟨gM,2,none⟩=some (.int .i64 m.cap):=(Blk.cell M0.out 2);have k3:w0.cell? ⟨gM,3,none⟩=some m.wv:=(Blk.cell M0.out 3);have k4:w0.cell? ⟨gM,4,none⟩=some m.vv:=(Blk.cell M0.out 4);have k5:w0.cell? ⟨gM,5,none⟩=some m.cv:=(Blk.cell M0.out 5);have k10:w0.cell? ⟨gM,10,none⟩=some (.pointer (some ⟨m.sh.gi,0,none⟩)):=(Blk.cell M0.out 10);clear M0;obtain⟨kind,nn,cap,wv,vv,cv,gm,sh,gW,nW,cW,gP⟩:=m;simp only at *;go_wp2_with (go_quiet (fail));refine(HB.out _ (X0.out.tr XI)).mono ?_;rintro e w1 ⟨A,k,rfl,o1,x1⟩;have X1:=Hd (Ext.tr (a:=w0) XI x1);have O1:=Hd (OwI.more (base':=w.heap.size) o1 (by have:=X0.out.size;first | exact this | (simp;omega)));replace k0:=Zb X1.out zM k0;replace k1:=Zb X1.out zM k1;replace k2:=Zb X1.out zM k2;replace k3:=Zb X1.out zM k3;replace k4:=Zb X1.out zM k4;replace k5:=Zb X1.out zM k5;clear x1 o1 HB k10;go_wp2_with (go_quiet (fail));refine(OF.out _).mono ?_;rintro e w2 ⟨rfl,x2⟩;have X2:=Hd (X1.out.tr (Ext.tr (a:=w1) XI x2));replace O1:=Hd (O1.out.ext (Ext.tr (a:=w1) XI x2));have B2:=Hd (B0.out.ext X2.out);clear x2 X1 OF B0 k0 k1 k2 k3 k4 k5;go_upto_region 5 with(go_quiet (fail));have zR2:gr<w2.heap.size:=Blk.lt B2.out;have B3:Hid (Blk (w2.alloc (.cells #[.int .i64 0,.slice A xs.length k,.int .i64 c,.int .i64 c] 133)) w2.heap.size 133 #[.int .i64 0,.slice A xs.length k,.int .i64 c,.int .i64 c]):=Hd (Blk.new rfl);have Y3:Hid (Ext w2 (w2.alloc (.cells #[.int .i64 0,.slice A xs.length k,.int .i64 c,.int .i64 c] 133))):=Hd ((Ext.rf w2).alloc _);replace B2:=Hd (B2.out.ext Y3.out);replace X2:=Hd (X0.out.tr (X2.out.tr Y3.out));replace O1:=Hd (O1.out.ext Y3.out);clear Y3 zR zM X0;generalize w2.alloc (.cells #[.int .i64 0,.slice A xs.length k,.int .i64 c,.int .i64 c] 133)=w3 at *;obtain⟨g5,hg5⟩:∃ g5,g5=w2.heap.size:=⟨_,rfl⟩;rw[<-hg5] at B3 zR2;rw[<-hg5];have z5:w.heap.size<=gr:=by have:=hgr.out;omega
 have z6:w.heap.size<=g5:=by omega
 clear hg5;go_wp2_with (go_quiet (fail));refine(DN.out _ (X2.out.tr XI)).mono ?_;rintro e w4 ⟨rfl,x4⟩;replace B2:=Hd (B2.out.ext (Ext.tr (a:=w3) XI x4));replace B3:=Hd (B3.out.ext (Ext.tr (a:=w3) XI x4));replace X2:=Hd (X2.out.tr (Ext.tr (a:=w3) XI x4));replace O1:=Hd (O1.out.ext (Ext.tr (a:=w3) XI x4));clear x4 DN;have n5:gr≠g5:=by omega
 have n6:g5≠gr:=by omega
 have c0:w4.cell? ⟨g5,0,none⟩=some (.int .i64 0):=(Blk.cell B3.out 0);have c1:w4.cell? ⟨g5,1,none⟩=some (.slice A xs.length k):=(Blk.cell B3.out 1);have c2:w4.cell? ⟨g5,2,none⟩=some (.int .i64 c):=(Blk.cell B3.out 2);have c3:w4.cell? ⟨g5,3,none⟩=some (.int .i64 c):=(Blk.cell B3.out 3);have r0:w4.cell? ⟨gr,0,none⟩=some (.int .i64 0):=(Blk.cell B2.out 0);have r1:w4.cell? ⟨gr,1,none⟩=some (.slice none 0 0):=(Blk.cell B2.out 1);have r2:w4.cell? ⟨gr,2,none⟩=some (.int .i64 0):=(Blk.cell B2.out 2);have r3:w4.cell? ⟨gr,3,none⟩=some (.int .i64 0):=(Blk.cell B2.out 3);have f0:=B2.out.free 0;have f1:=B2.out.free 1;have f2:=B2.out.free 2;have f3:=B2.out.free 3;have f4:=B3.out.free 0;have four:∀ (W:World),Blk W gr 133 #[.int .i64 0,.slice none 0 0,.int .i64 0,.int .i64 0]->∀ a b d e:Value,ModT w.heap.size [133] W ((((W.setCell ⟨gr,0,none⟩ a).setCell ⟨gr,1,none⟩ b).setCell ⟨gr,2,none⟩ d).setCell ⟨gr,3,none⟩ e):=fun W h a b d e=>(((ModT.set W h (ts:=[133]) (base:=w.heap.size) (by simp) z5 0 a).tr (ModT.set _ (h.set 0 a) (by simp) z5 1 b)).tr (ModT.set _ ((h.set 0 a).set 1 b) (by simp) z5 2 d)).tr (ModT.set _ (((h.set 0 a).set 1 b).set 2 d) (by simp) z5 3 e)
 by_cases hx:x=0
 ·have e1:(x==0)=true:=by simp[hx]
  have M0:=Hd (ModT.set w4 B3.out (ts:=[133]) (base:=w.heap.size) (by simp) z6 0 (.int .i64 1));have M1:=Hd (four _ (Blk.far (p:=⟨g5,0,none⟩) B2.out n5 (.int .i64 1)) (.int .i64 1) (.slice A xs.length k) (.int .i64 c) (.int .i64 c));clear B2 B3 four;go_wp2_with (go_quiet (fail));refine bodyPost_ret (v:=Zb6 x A xs.length k c) (by simp[results,Tryz.results55,go_sem,Zb6, *]) rfl ⟨A,k,rfl,(O1.out.modT M0.out (by decide)).modT M1.out (by decide),?_⟩;exact(X2.out.modT M0.out (Nat.le_refl _)).modT M1.out (Nat.le_refl _)
 ·have e1:(x==0)=false:=by simp[hx]
  have M1:=Hd (four _ B2.out (.int .i64 0) (.slice A xs.length k) (.int .i64 c) (.int .i64 c));clear B2 B3 four;go_wp2_with (go_quiet (fail));refine bodyPost_ret (v:=Zb6 x A xs.length k c) (by simp[results,Tryz.results55,go_sem,Zb6, *]) rfl ⟨A,k,rfl,O1.out.modT M1.out (by decide),?_⟩;exact X2.out.modT M1.out (Nat.le_refl _)
def VS (i:Nat) : Int:=if i=9 then 0 else 1
theorem ZdD {c:Int}{i:Nat}{M:List Int}(h:MFi c i M)(hi:i<=9) : M[207]?=some (c*64+4)/\M[208]?=some (VS i)/\M[209]?=some 2:=by
 by_cases h9:i=9
 ·subst h9
  obtain⟨M',h,rfl⟩:=h;have hl:=(List.getElem?_eq_some_iff.1 h.h208).1;refine⟨?_,List.getElem?_set_self hl,?_⟩
  ·rw[List.getElem?_set_ne (by decide)];exact h.h207
  ·rw[List.getElem?_set_ne (by decide)];exact h.h209
 ·obtain⟨x,mf,-⟩:=YU h (by omega)
  exact⟨mf.h207,by unfold VS;rw[if_neg h9];exact mf.h208,mf.h209⟩
theorem Jz {F:Fix}{i j:Nat}{w:World}(R:RI F i j w)(hi:i<=9)(hcr:0<=F.c/\F.c<=1125899906842624)(hxl:F.E.xs.length<=64) :
  Calls Tryz.prog 55 #[.pointer (some ⟨F.gM,0,none⟩)] w (UL (VS i) F.E.xs F.c w):=by
 obtain⟨M,P,p,s,o,L,cL,vs,rs,dq,R,hm,-⟩:=R;obtain⟨h7,h8,h9⟩:=ZdD hm hi;refine ZaY F.gM F.ma (VS i) 2 F.c F.E.xs w R.ma (by show (2:Int)≠1;decide) (fun W X=>?_) (fun W X=>?_)
 ·have R2:=R.ext X
  exact Zc5 F.E.bs F.E.gm F.E.gc F.E.gi F.E.gl _ M W R2.st.i R2.st.m F.c 4 h7 hcr.1 hcr.2 (by decide) ⟨F.E.A,F.E.k,F.E.xs⟩ rfl (by show F.E.xs.length<=_;omega) (by simp)
 ·have R2:=R.ext X
  exact ZfB F.E.gu F.E.gm F.E.gc 208 M W R2.st.u R2.st.m (by decide) (VS i) 2 h8 h9
def Zg8 (j:InstP)(gt:Nat)(w1:World)(E:Env)(A:Option Addr)(k gM gk gW cW gP gw0 gw1 ga bas zo:Nat)(wv vv cv:Value)(cw:Array Value)(c bb:Int)(ta tb:Value)(kb:Nat)(kc:Array Value) : Fix :=
 { E:=E,w1:=w1,n:=j.n,cap:=j.cap,wv:=wv,vv:=vv,cv:=cv,gM:=gM,gk:=gk,gt:=gt,gW:=gW,cW:=cW,gP:=gP,gw:=fun i=>if i=0 then gw0 else gw1,ga:=ga,bas:=bas,zo:=zo,cw:=cw,A:=A,k:=k,bb:=bb,c:=c,cost:=j.cost,ta:=ta,tb:=tb,kb:=kb,kc:=kc }
theorem ZeW {j:InstP}{gt:Nat}{c bb:Int}{w w1 w' wb:World}{E:Env}{M:List Int}{A:Option Addr}{k gM gk gW cW gP gw0 gw1 ga bas zo:Nat}{wv vv cv:Value}{cw:Array Value}(N:NewS j gt c bb w w1 w' E M A k gM gk gW cW gP gw0 gw1 ga bas zo wv vv cv cw)(X:Ext w' wb)(hc:ZQ j=0)(hk:j.kind=2)(hT:Tab w)(hbo:XO j.cost []=(bb,0))(t1 t2:Option Addr)(n1 n2:Nat)(tp:Blk w gt 128 #[.slice t1 0 n1,.slice t2 0 n2,.int .i64 0,.int .i64 0])(kb:Nat)(kc:Array Value)(bx:Blk wb kb 46 kc) :
  FixOk (Zg8 j gt w1 E A k gM gk gW cW gP gw0 gw1 ga bas zo wv vv cv cw c bb (.slice t1 0 n1) (.slice t2 0 n2) kb kc)/\RI (Zg8 j gt w1 E A k gM gk gW cW gP gw0 gw1 ga bas zo wv vv cv cw c bb (.slice t1 0 n1) (.slice t2 0 n2) kb kc) 0 0 wb:=by
 refine⟨⟨N.kn,JL (XD hc (by omega)),hT.ext N.x,hbo,N.z,N.y,N.v,⟨t1,t2,n1,n2,0,0,tp.ext N.x⟩,⟨⟨t1,n1,rfl⟩,t2,n2,rfl⟩,N.wl.2.1,N.wl.2.2⟩,?_⟩;have hz:zo<=gw0/\zo<=gw1:=⟨N.y.2.2.1,by have:=N.y;omega⟩;refine⟨QJ M,Yd (Xm A k bb),fun _=>0,fun i=>wk0 i,fun _=>none,none,0,[],[],0,⟨N.s.ext X,Blk.ext N.ma X,N.p.ext X,N.wl.1.ext X,fun i hi=>?_,fun i g a hi h=>(by cases h),fun g a g' a' h=>(by cases h),N.o.ext X,fun i hi=>OwI.nil _ _,OwV.nil _ _ _ _,RecsO.nil _ _,(tp.ext N.x).ext (N.kx.tr X),bx,Mod.of_ext (N.kx.tr X)⟩,MF.start N.L,rfl,fun i hi=>⟨by simp,by simp⟩,⟨rfl,rfl,rfl,rfl,rfl⟩,⟨rfl,rfl,rfl,rfl⟩,⟨rfl,rfl,rfl,rfl⟩,rfl,by omega,fun _=>rfl⟩;rcases ZT hi with rfl | rfl
 ·exact Blk.ext N.k0 X
 ·exact Blk.ext N.k1 X
theorem UM (n lo hi:Int)(w:World)(h1:lo<=n)(h2:n<=hi) : Calls Tryz.prog 193 #[.int .i64 n,.int .i64 lo,.int .i64 hi] w fun e w'=>e=.returned (.bool true)/\Ext w w':=by
 have e1:decide (lo<=n)=true:=decide_eq_true h1;have e2:decide (n<=hi)=true:=decide_eq_true h2;go_enter Tryz.func193,Tryz.ntmps193;go_wp2_with (fail);go_ret;exact⟨by simp[h1,h2],XI⟩
theorem ZaZ (w:World) : Calls Tryz.prog 124 #[.int .i32 112] w fun e w'=>e=.returned (.bool true)/\Ext w w':=by
 go_enter Tryz.func124,Tryz.ntmps124;go_wp2_with (fail);go_ret;exact⟨rfl,XI⟩
theorem ZgH (X:Option Addr)(cX:Nat)(w:World)(hX:RdI w X [0]) :
  Calls Tryz.prog 120 #[.agg #[.int .i64 7,.slice X 1 cX,.string ⟨#[112]⟩]] w fun e w'=>e=.returned (.bool true)/\Ext w w':=by
 rcases hX with hX | ⟨b,off,rfl,hb,hc⟩
 ·cases hX
 have x0:w.cell? ⟨b,off,none⟩=some (.int .i64 0):=by simpa using hc 0 0 rfl
 clear hc;go_enter Tryz.func120,Tryz.ntmps120;go_wp2_with (fail);refine(UM _ _ _ _ (by decide) (by decide)).mono ?_;rintro e w1 ⟨rfl,x1⟩;have X1:=Ext.tr (a:=w) XI x1;have k1:w1.cell? ⟨w.heap.size,1,none⟩=some (.slice (some ⟨b,off,none⟩) 1 cX):=x1.keeps (by go_simp);have k2:w1.cell? ⟨w.heap.size,2,none⟩=some (.string ⟨#[112]⟩):=x1.keeps (by go_simp);have q0:=X1.keeps x0;clear x1 x0;go_wp2_with (fail);refine(UM _ _ _ _ (by decide) (by decide)).mono ?_;rintro e w2 ⟨rfl,x2⟩;replace k1:=x2.keeps k1;replace k2:=x2.keeps k2;replace q0:=x2.keeps q0;replace X1:=X1.tr x2;clear x2;go_wp2_with (fail);refine(UM _ _ _ _ (by decide) (by decide)).mono ?_;rintro e w3 ⟨rfl,x3⟩;replace k1:=x3.keeps k1;replace k2:=x3.keeps k2;replace q0:=x3.keeps q0;replace X1:=X1.tr x3;clear x3;go_wp2_with (fail);refine wp_loop_rounds 2 ?_;rw[rounds_succ];go_wp2_with (fail);refine(UM _ _ _ _ (by decide) (by decide)).mono ?_;rintro e w4 ⟨rfl,x4⟩;replace k2:=x4.keeps k2;replace X1:=X1.tr x4;clear x4 k1 q0;go_wp2_with (fail);rw[rounds_succ];go_wp2_with (fail);refine wp_loop_rounds 2 ?_;rw[rounds_succ];have hk:=World.iter_heap w4 ⟨#[112]⟩ 0;have hnext:∀ ty,(Instr.next (.pointer (some ⟨w4.heap.size,0,none⟩)) true ty).run Tryz.prog (w4.iter ⟨#[112]⟩ 0)=.ok (.tuple #[.bool true,.int .i64 0,.int .i32 112]) ((w4.iter ⟨#[112]⟩ 0).iterAt w4.heap.size ⟨#[112]⟩ 1):=fun ty=>Lib.run_next_ascii_at _ _ ⟨#[112]⟩ 0 ty hk (by decide) (by decide)
 have hk1:=Lib.iterAt_heap _ w4.heap.size ⟨#[112]⟩ 0 1 hk;have hx1:Ext w4 ((w4.iter ⟨#[112]⟩ 0).iterAt w4.heap.size ⟨#[112]⟩ 1):=YL ((Ext.rf w4).alloc _) (Nat.le_refl _) _ 1;generalize (w4.iter ⟨#[112]⟩ 0).iterAt w4.heap.size ⟨#[112]⟩ 1=W1 at hnext hk1 hx1;clear hk k2;go_wp2_with (fail);refine(ZaZ _).mono ?_;rintro e W2 ⟨rfl,x2⟩;have hk2:W2.heap[w4.heap.size]?=some (.stringIter ⟨#[112]⟩ 1):=(x2.block _ (Array.getElem?_eq_some_iff.1 hk1).1).trans hk1;have hnext2:∀ ty,(Instr.next (.pointer (some ⟨w4.heap.size,0,none⟩)) true ty).run Tryz.prog W2=.ok (.tuple #[.bool false]) W2:=fun ty=>Lib.run_next_end_at W2 _ ⟨#[112]⟩ 1 ty hk2 (by decide)
 have X2:=Hd (X1.tr (hx1.tr x2));clear hnext hk1 hx1 x2 hk2 X1;go_wp2_with (fail);rw[rounds_succ];go_wp2_with (fail);go_ret;exact⟨rfl,X2.out⟩
def cert7T : Txt:=[67,69,82,84,32,55,32,49,10,48,10,112,10]
theorem Zf0 (X:Option Addr)(cX:Nat)(w:World)(hX:RdI w X [0])(hT:Ten w) :
  Calls Tryz.prog 59 #[.agg #[.int .i64 7,.slice X 1 cX,.string ⟨#[112]⟩]] w fun e w'=>e=.returned (.tuple #[.string ⟨cert7T.toArray⟩,.int .i64 0])/\Ext w w':=by
 have RT:=Hd (fun(W:World) (x:Ext w W)=>ZgH X cX W (hX.ext x));have W0:=Hd (fun(W:World) (x:Ext w W)=>WV 0 (by decide) (by decide) W (hT.ext x));have W1:=Hd (fun(W:World) (x:Ext w W)=>WV 1 (by decide) (by decide) W (hT.ext x));have W7:=Hd (fun(W:World) (x:Ext w W)=>WV 7 (by decide) (by decide) W (hT.ext x));rw[show Lib.itoa 0=[48] from by decide +kernel] at W0;rw[show Lib.itoa 1=[49] from by decide +kernel] at W1;rw[show Lib.itoa 7=[55] from by decide +kernel] at W7;rcases hX with hX | ⟨b,off,rfl,hb,hc⟩
 ·cases hX
 have x0:w.cell? ⟨b,off,none⟩=some (.int .i64 0):=by simpa using hc 0 0 rfl
 obtain⟨i0,hi,hz0,hz1,hz2⟩:=info_parts US;replace hi:=Hd hi;replace hz0:=Hd hz0;replace hz1:=Hd hz1;replace hz2:=Hd hz2;clear hc hT;go_enter Tryz.func59,Tryz.ntmps59;go_wp2_with (fail);refine(RT.out _ XI).mono ?_;rintro e w1 ⟨rfl,x1⟩;have X1:=Ext.tr (a:=w) XI x1;have B1:Blk w1 w.heap.size 86 #[.int .i64 7,.slice (some ⟨b,off,none⟩) 1 cX,.string ⟨#[112]⟩]:=Blk.ext (.new rfl) x1;have k1:=(B1.cell 1);have q0:=X1.keeps x0;clear x1 x0 RT;go_wp2_with (fail);refine wp_loop_rounds 2 ?_;rw[rounds_succ];go_wp2_with (fail);refine(W0.out _ (by(repeat (first | assumption | exact Ext.rf _ | apply Ext.drew | apply Ext.drewN | apply Ext.alloc)))).mono ?_;rintro e w2 ⟨rfl,x2⟩;have X2:=Ext.tr (a:=w) (by(repeat (first | assumption | exact Ext.rf _ | apply Ext.drew | apply Ext.drewN | apply Ext.alloc))) x2;have B2:=Hd (B1.ext (Ext.tr XI x2));clear x2 B1 k1 q0 X1 W0;go_wp2_with (at_builtin;refine Zw _ (e:=9) Tryz.underlying57 hi.out hz0.out hz1.out hz2.out (by simp[Value.cells]) (by omega) rfl _ _ rfl (w.heap.size+1) none 0 0 [] (some ⟨w2.heap.size,0,none⟩) 1 1 [.string ⟨[48].toArray⟩] rfl rfl ?_ ?_ ?_ ?_ ?_ ?_ ?_ ?_;(exact OwV.nil _ _ _ _);(exact(RdV.blk (.new (by simp))).rdC);(simp);(simp[Value.oneCell']);(simp only[maxLen];omega);omega;(have:=B2.out.lt;(first | exact Nat.le_refl _ | omega | (focus (simp;try omega))));rintro A6 c6 w6 o6 g6 _);have M6:ModT (w.heap.size+1) [9] w2 w6:=(ModT.of_ext ((Ext.rf _).alloc _)).tr ((OwV.nil _ _ 9 1).grownT g6);have X6:=Hd (X2.modT M6 (Nat.le_succ _));have B6:=Hd (B2.out.modT M6 (by decide));have JO:=Hd (fun(W:World) (x:Ext w6 W)=>ZdQ (w.heap.size+1) A6 c6 [[48]] [32] W (o6.ext x) (by simp) (by decide) (by decide));have zg:=B6.out.lt;clear M6 g6 X2 B2 o6 hi hz0 hz1 hz2;rw[rounds_succ];have c0:w6.cell? ⟨w.heap.size,0,none⟩=some (.int .i64 7):=(B6.out.cell 0);have c1:w6.cell? ⟨w.heap.size,1,none⟩=some (.slice (some ⟨b,off,none⟩) 1 cX):=(B6.out.cell 1);go_upto_region 9 with(fail);refine wp_region_any (by kernel_rfl) ?_
 change wpAny _ _ _ _ _ _ _ (World.drew _)
 refine Za 0 (.fieldAddr 86 (.tmp 1) 0) 0 (some 24) rfl (by kernel_rfl) Hq (by intro _;go_simp;try rfl) ?_;simp only[lay];refine Za 5 (.fieldAddr 86 (.tmp 1) 1) 0 (some 29) rfl (by kernel_rfl) Hq (by intro _;go_simp;try rfl) ?_;simp only[lay];refine Zh (n:=1) [(1,some 25),(2,some 26),(3,some 27),(4,some 28),(6,some 30),(7,some 31),(8,some 32),(9,some 33),(10,some 34)] (Ext w6) (VF (fun | 1=>some (.int .i64 7) | 2=>some (.string ⟨[55].toArray⟩) | 3=>some (.string ⟨(([67,69,82,84,32]:Txt)++[55]).toArray⟩) | 4=>some (.string ⟨((([67,69,82,84,32]:Txt)++[55])++[32]).toArray⟩) | 6=>some (.slice (some ⟨b,off,none⟩) 1 cX) | 7=>some (.int .i64 1) | 8=>some (.string ⟨[49].toArray⟩) | 9=>some (.string ⟨((([67,69,82,84,32]:Txt)++[55]++[32])++[49]).toArray⟩) | 10=>some (.string ⟨((([67,69,82,84,32]:Txt)++[55]++[32]++[49])++[10]).toArray⟩) | _=>none) (fun i v W=>True)) Ext #[true,true,true,true,true,true,true,true,true,true,true,false] (by decide +kernel) (VF.stab ?_) ?_ ?_ (by first | exact(Ext.rf _).drew | exact Ext.rf _)
 ·intro j v W W' _ _ _;trivial
 ·intro pS hpm uS wS hRW hD K hK
  simp only[List.mem_cons,List.not_mem_nil,or_false] at hpm;rcases hpm with rfl | rfl | rfl | rfl | rfl | rfl | rfl | rfl | rfl
  ·( have rX:=Zb hRW zg c0;exact Ze (T:=3) (x:=Operand.tmp 24) (t:=3) (d:=some 25) rfl (.pointer (some ⟨w.heap.size,0,none⟩)) (by kernel_rfl) (.int .i64 7) (by go_simp) (hK _ _ (VF.mk rfl) hRW (Ext.rf _)))
  ·(have e1:uS 1=.int .i64 7:=(hD 1 (Zg (by kernel_rfl))).k rfl;exact Zi (f:=22) (xs:=#[Operand.tmp 25]) (ts:=#[3]) (t:=9) (d:=some 26) rfl #[.int .i64 7] (by go_simp) (Eq.trans (b:=#[uS 1]) (by kernel_rfl) (by rw[e1])) _ (W7.out _ (X6.out.tr hRW)) (by rintro e w9 ⟨rfl,xx⟩;exact⟨_,rfl,hK _ _ (VF.mk rfl) (hRW.tr xx) xx⟩))
  ·(have e2:uS 2=.string ⟨[55].toArray⟩:=(hD 2 (Zg (by kernel_rfl))).k rfl;exact Ye (t:=9) (d:=some 27) rfl (([67,69,82,84,32]:Txt)) ([55]) (by kernel_rfl) (Eq.trans (b:=uS 2) (by kernel_rfl) e2) (by(try simp only[List.length_append,List.length_cons,List.length_nil]);omega) (hK _ _ (VF.mk rfl) hRW (Ext.rf _)))
  ·(have e3:uS 3=.string ⟨(([67,69,82,84,32]:Txt)++[55]).toArray⟩:=(hD 3 (Zg (by kernel_rfl))).k rfl;exact Ye (t:=9) (d:=some 28) rfl ((([67,69,82,84,32]:Txt)++[55])) ([32]) (Eq.trans (b:=uS 3) (by kernel_rfl) e3) (by kernel_rfl) (by(try simp only[List.length_append,List.length_cons,List.length_nil]);omega) (hK _ _ (VF.mk rfl) hRW (Ext.rf _)))
  ·( have rX:=Zb hRW zg c1;exact Ze (T:=22) (x:=Operand.tmp 29) (t:=22) (d:=some 30) rfl (.pointer (some ⟨w.heap.size,1,none⟩)) (by kernel_rfl) (.slice (some ⟨b,off,none⟩) 1 cX) (by go_simp) (hK _ _ (VF.mk rfl) hRW (Ext.rf _)))
  ·(have e6:uS 6=.slice (some ⟨b,off,none⟩) 1 cX:=(hD 6 (Zg (by kernel_rfl))).k rfl;exact Zl (op:=Op.call { callee:=Callee.builtin Builtin.len,args:=#[Operand.tmp 30],argTypes:=#[22] }) (t:=3) (d:=some 31) rfl (.int .i64 1) (by simp only[Zc,Act.put,List.setIfInBounds_toArray,List.set_cons_zero,List.set_cons_succ];unfold Zj;(try go_simp);(try simp only[e6]);(try go_simp);(try rfl);(try (exact IntWalk.i64_in _ (by omega)))) (hK _ _ (VF.mk rfl) hRW (Ext.rf _)))
  ·(have e7:uS 7=.int .i64 1:=(hD 7 (Zg (by kernel_rfl))).k rfl;exact Zi (f:=22) (xs:=#[Operand.tmp 31]) (ts:=#[3]) (t:=9) (d:=some 32) rfl #[.int .i64 1] (by go_simp) (Eq.trans (b:=#[uS 7]) (by kernel_rfl) (by rw[e7])) _ (W1.out _ (X6.out.tr hRW)) (by rintro e w9 ⟨rfl,xx⟩;exact⟨_,rfl,hK _ _ (VF.mk rfl) (hRW.tr xx) xx⟩))
  ·(have e4:uS 4=.string ⟨((([67,69,82,84,32]:Txt)++[55])++[32]).toArray⟩:=(hD 4 (Zg (by kernel_rfl))).k rfl;have e8:uS 8=.string ⟨[49].toArray⟩:=(hD 8 (Zg (by kernel_rfl))).k rfl;exact Ye (t:=9) (d:=some 33) rfl ((([67,69,82,84,32]:Txt)++[55]++[32])) ([49]) (Eq.trans (b:=uS 4) (by kernel_rfl) e4) (Eq.trans (b:=uS 8) (by kernel_rfl) e8) (by(try simp only[List.length_append,List.length_cons,List.length_nil]);omega) (hK _ _ (VF.mk rfl) hRW (Ext.rf _)))
  ·(have e9:uS 9=.string ⟨((([67,69,82,84,32]:Txt)++[55]++[32])++[49]).toArray⟩:=(hD 9 (Zg (by kernel_rfl))).k rfl;exact Ye (t:=9) (d:=some 34) rfl ((([67,69,82,84,32]:Txt)++[55]++[32]++[49])) ([10]) (Eq.trans (b:=uS 9) (by kernel_rfl) e9) (by kernel_rfl) (by(try simp only[List.length_append,List.length_cons,List.length_nil]);omega) (hK _ _ (VF.mk rfl) hRW (Ext.rf _)))
 intro u w7 h7 hV;have h1:=(hV (1,some 25) (by simp)).k rfl;have h2:=(hV (2,some 26) (by simp)).k rfl;have h3:=(hV (3,some 27) (by simp)).k rfl;have h4:=(hV (4,some 28) (by simp)).k rfl;have h6:=(hV (6,some 30) (by simp)).k rfl;have h7:=(hV (7,some 31) (by simp)).k rfl;have h8:=(hV (8,some 32) (by simp)).k rfl;have h9:=(hV (9,some 33) (by simp)).k rfl;have h10:=(hV (10,some 34) (by simp)).k rfl;simp only[Zc,h1,h2,h3,h4,h6,h7,h8,h9,h10];clear hV h1 h2 h3 h4 h6 h7 h8 h9 h10
 try simp only[lay]
 refine Za 11 (.assign (.tmp 34)) 9 (some 7) rfl (by kernel_rfl) Hq (by intro _;go_simp;try rfl) ?_;simp only[lay];refine wpAny_done (by kernel_rfl) ?_ _;have X7:=Hd (X6.out.tr h7);have B7:=Hd (B6.out.ext h7);have c2:w7.cell? ⟨w.heap.size,2,none⟩=some (.string ⟨#[112]⟩):=(B7.out.cell 2);have z7:=B7.out.lt;have J7:=Hd (fun(W:World) (x:Ext w7 W)=>JO.out W (h7.tr x));clear c0 c1 zg W1 W7 X6 B6 B7 h7 JO;go_simp;go_upto_region 10 with(fail);refine wp_region_any (by kernel_rfl) ?_
 change wpAny _ _ _ _ _ _ _ (World.drew _)
 refine Za 0 (.move (.tmp 7)) 9 (some 35) rfl (by kernel_rfl) Hq (by intro _;go_simp;try rfl) ?_;simp only[lay];refine Za 1 (.move (.tmp 4)) 57 (some 36) rfl (by kernel_rfl) Hq (by intro _;go_simp;try rfl) ?_;simp only[lay];refine Za 5 (.fieldAddr 86 (.tmp 1) 2) 0 (some 40) rfl (by kernel_rfl) Hq (by intro _;go_simp;try rfl) ?_;simp only[lay];refine Zh (n:=2) [(2,some 37),(3,some 38),(4,some 39),(6,some 41),(7,some 42),(8,some 43)] (Ext w7) (VF (fun | 2=>some (.string ⟨[48].toArray⟩) | 3=>some (.string ⟨(([67,69,82,84,32,55,32,49,10]:Txt)++[48]).toArray⟩) | 4=>some (.string ⟨((([67,69,82,84,32,55,32,49,10]:Txt)++[48])++[10]).toArray⟩) | 6=>some (.string ⟨[112].toArray⟩) | 7=>some (.string ⟨((([67,69,82,84,32,55,32,49,10]:Txt)++[48]++[10])++[112]).toArray⟩) | 8=>some (.string ⟨((([67,69,82,84,32,55,32,49,10]:Txt)++[48]++[10]++[112])++[10]).toArray⟩) | _=>none) (fun i v W=>True)) Ext #[true,true,true,true,true,true,true,true,true,false,false] (by decide +kernel) (VF.stab ?_) ?_ ?_ (by first | exact(Ext.rf _).drew | exact Ext.rf _)
 ·intro j v W W' _ _ _;trivial
 ·intro pS hpm uS wS hRW hD K hK
  simp only[List.mem_cons,List.not_mem_nil,or_false] at hpm;rcases hpm with rfl | rfl | rfl | rfl | rfl | rfl
  ·( exact Zi (f:=121) (xs:=#[Operand.tmp 36,Operand.const (Value.string { data:=#[32] })]) (ts:=#[57,9]) (t:=9) (d:=some 37) rfl #[.slice A6 1 c6,.string ⟨#[32]⟩] (by go_simp) (by kernel_rfl) _ (J7.out _ hRW) (by rintro e w9 ⟨rfl,xx⟩;exact⟨_,rfl,hK _ _ (VF.mk rfl) (hRW.tr xx) xx⟩))
  ·(have e2:uS 2=.string ⟨[48].toArray⟩:=(hD 2 (Zg (by kernel_rfl))).k rfl;exact Ye (t:=9) (d:=some 38) rfl (([67,69,82,84,32,55,32,49,10]:Txt)) ([48]) (by kernel_rfl) (Eq.trans (b:=uS 2) (by kernel_rfl) e2) (by(try simp only[List.length_append,List.length_cons,List.length_nil]);omega) (hK _ _ (VF.mk rfl) hRW (Ext.rf _)))
  ·(have e3:uS 3=.string ⟨(([67,69,82,84,32,55,32,49,10]:Txt)++[48]).toArray⟩:=(hD 3 (Zg (by kernel_rfl))).k rfl;exact Ye (t:=9) (d:=some 39) rfl ((([67,69,82,84,32,55,32,49,10]:Txt)++[48])) ([10]) (Eq.trans (b:=uS 3) (by kernel_rfl) e3) (by kernel_rfl) (by(try simp only[List.length_append,List.length_cons,List.length_nil]);omega) (hK _ _ (VF.mk rfl) hRW (Ext.rf _)))
  ·( have rX:=Zb hRW z7 c2;exact Ze (T:=9) (x:=Operand.tmp 40) (t:=9) (d:=some 41) rfl (.pointer (some ⟨w.heap.size,2,none⟩)) (by kernel_rfl) (.string ⟨[112].toArray⟩) (by go_simp) (hK _ _ (VF.mk rfl) hRW (Ext.rf _)))
  ·(have e4:uS 4=.string ⟨((([67,69,82,84,32,55,32,49,10]:Txt)++[48])++[10]).toArray⟩:=(hD 4 (Zg (by kernel_rfl))).k rfl;have e6:uS 6=.string ⟨[112].toArray⟩:=(hD 6 (Zg (by kernel_rfl))).k rfl;exact Ye (t:=9) (d:=some 42) rfl ((([67,69,82,84,32,55,32,49,10]:Txt)++[48]++[10])) ([112]) (Eq.trans (b:=uS 4) (by kernel_rfl) e4) (Eq.trans (b:=uS 6) (by kernel_rfl) e6) (by(try simp only[List.length_append,List.length_cons,List.length_nil]);omega) (hK _ _ (VF.mk rfl) hRW (Ext.rf _)))
  ·(have e7:uS 7=.string ⟨((([67,69,82,84,32,55,32,49,10]:Txt)++[48]++[10])++[112]).toArray⟩:=(hD 7 (Zg (by kernel_rfl))).k rfl;exact Ye (t:=9) (d:=some 43) rfl ((([67,69,82,84,32,55,32,49,10]:Txt)++[48]++[10]++[112])) ([10]) (Eq.trans (b:=uS 7) (by kernel_rfl) e7) (by kernel_rfl) (by(try simp only[List.length_append,List.length_cons,List.length_nil]);omega) (hK _ _ (VF.mk rfl) hRW (Ext.rf _)))
 intro u w8 h8 hV;have h2:=(hV (2,some 37) (by simp)).k rfl;have h3:=(hV (3,some 38) (by simp)).k rfl;have h4:=(hV (4,some 39) (by simp)).k rfl;have h6:=(hV (6,some 41) (by simp)).k rfl;have h7:=(hV (7,some 42) (by simp)).k rfl;have h8:=(hV (8,some 43) (by simp)).k rfl;simp only[Zc,h2,h3,h4,h6,h7,h8];clear hV h2 h3 h4 h6 h7 h8
 try simp only[lay]
 refine Za 9 (.assign (.tmp 43)) 9 (some 2) rfl (by kernel_rfl) Hq (by intro _;go_simp;try rfl) ?_;simp only[lay];refine Za 10 (.assign (.const (.int .i64 0))) 27 (some 3) rfl (by kernel_rfl) Hq (by intro _;go_simp;try rfl) ?_;simp only[lay];refine wpAny_done (by kernel_rfl) ?_ _;have X8:=Hd (X7.out.tr h8);clear h8 J7 c2 z7 X7;go_simp;go_wp2_with (fail);go_ret2;exact⟨rfl,X8.out⟩
theorem Mod.heap {g:Nat}{w w':World}(h:Mod (fun k=>k=g) w w'){a:World}(x:Ext a w)(hg:a.heap.size<=g) : Ext a w':=x.mod h fun k hk e=>by omega
def ZeX : Int->List Int->Int
 | b,[]=>b
 | b,x::l=>ZeX (if b<0 then x else if x<b then x else b) l
def offs (ms:List (List Int)) : List Int:=ms.map (ZeX (-1))
theorem ZeY (m i:Nat)(hm:m<18446744073709551616)(hi:i<64)(w:World) : Calls Tryz.prog 318 #[Yf m,.int .i64 i] w fun e w'=>e=.returned (Yf (m ||| 2^i))/\Ext w w':=by
 unfold Yf;have K:=bits_or_u64_nat m (2^i) hm (Nat.pow_lt_pow_right (by omega) hi);have sh:=Zau i hi;generalize 2^i=b2 at *;generalize m ||| b2=z at *
 replace K:=Hd K;replace sh:=Hd sh;have B1':Blk ((w.alloc (.cells #[.int .u64 m,.int .u64 0] 374)).alloc (.cells #[.int .u64 0,.int .u64 0] 374)) w.heap.size 374 #[.int .u64 m,.int .u64 0]:=.alloc (.new rfl) _;have B2:Blk ((w.alloc (.cells #[.int .u64 m,.int .u64 0] 374)).alloc (.cells #[.int .u64 0,.int .u64 0] 374)) (w.heap.size+1) 374 #[.int .u64 0,.int .u64 0]:=.new (by simp);have B1:Blk (w.alloc (.cells #[.int .u64 m,.int .u64 0] 374)) w.heap.size 374 #[.int .u64 m,.int .u64 0]:=.new rfl;go_enter Tryz.func318,Tryz.ntmps318;go_wp2_with (fail);refine(XM _ _).mono ?_;rintro e w1 ⟨rfl,x1⟩;have e1:(decide (0<=(i:Int))&&decide ((i:Int)<128))=true:=by simp;omega
 rw[e1];have c0:w1.cell? ⟨w.heap.size,0,none⟩=some (.int .u64 m):=(B1'.ext x1).cell 0;have c1:w1.cell? ⟨w.heap.size,1,none⟩=some (.int .u64 0):=(B1'.ext x1).cell 1;have f0:=(B1'.ext x1).free 0;have r0:w1.cell? ⟨w.heap.size+1,0,none⟩=some (.int .u64 0):=(B2.ext x1).cell 0;have r1:w1.cell? ⟨w.heap.size+1,1,none⟩=some (.int .u64 0):=(B2.ext x1).cell 1;have g0:=(B2.ext x1).free 0;have g1:=(B2.ext x1).free 1;have X1:=Hd (Ext.tr (a:=w) XI x1);replace K:=K.out;replace sh:=sh.out;have wz:IntKind.i64.wrap 0=0:=by decide
 have q1:(i:Int) / 64=0:=by omega
 have q2:(i:Int).tmod 64=(i:Int):=by rw[Int.tmod_eq_emod_of_nonneg (by omega)];omega
 have bA:=B1'.ext x1;have bR:=B2.ext x1;clear x1 B1' B2 e1 c1 f0 r0 r1 g0 g1;have bA2:=Hd (bA.set 0 (.int .u64 z));have bR2:=Hd (bR.far (p:=⟨w.heap.size,0,none⟩) (by simp) (.int .u64 z));have X2:=Hd (X1.out.setNew (p:=⟨w.heap.size,0,none⟩) (Nat.le_refl _) (.int .u64 z));have fA:w1.frozen? ⟨w.heap.size,0,none⟩=false:=bA.free 0;go_upto_region 2 with(fail);refine wp_region_any (by kernel_rfl) ?_
 change wpAny _ _ _ _ _ _ _ (World.drew _)
 refine Za 0 (.move (.tmp 1)) 3 (some 7) rfl (by kernel_rfl) Hq (by intro _;go_simp;try rfl) ?_;simp only[lay];refine Za 1 (.binOp .quo 3 (.tmp 7) (.const (.int .i64 64)) 3) 3 (some 8) rfl (by kernel_rfl) Hq (by intro _;go_simp;try rfl) ?_;simp only[lay];refine Za 2 (.indexAddr 374 (.tmp 2) (.tmp 8)) 0 (some 9) rfl (by kernel_rfl) Hq (by intro _;go_simp;try rfl) ?_;simp only[lay];refine Za 4 (.move (.tmp 1)) 3 (some 11) rfl (by kernel_rfl) Hq (by intro _;go_simp;try rfl) ?_;simp only[lay];refine Za 5 (.binOp .rem 3 (.tmp 11) (.const (.int .i64 64)) 3) 3 (some 12) rfl (by kernel_rfl) Hq (by intro _;go_simp;try rfl) ?_;simp only[lay];refine Za 6 (.binOp .shl 44 (.const (.int .u64 1)) (.tmp 12) 3) 44 (some 13) rfl (by kernel_rfl) Hq (by intro _;go_simp;try rfl) ?_;simp only[lay];refine Zd 3 (by decide +kernel) (Ze (T:=44) (x:=Operand.tmp 9) (t:=44) (d:=some 10) rfl (.pointer (some ⟨w.heap.size,0,none⟩)) (by kernel_rfl) (.int .u64 m) (by go_simp) ?_)
 try simp only[lay]
 refine Za 7 (.binOp .or 44 (.tmp 10) (.tmp 13) 44) 44 (some 14) rfl (by kernel_rfl) Hq (by intro _;go_simp;try rfl) ?_;simp only[lay];refine Za 8 (.indexAddr 374 (.tmp 2) (.tmp 8)) 0 (some 15) rfl (by kernel_rfl) Hq (by intro _;go_simp;try rfl) ?_;simp only[lay];refine Zd 9 (by decide +kernel) (ZR rfl (.pointer (some ⟨w.heap.size,0,none⟩)) (.int .u64 z) (by kernel_rfl) (by kernel_rfl) (by go_simp;rfl) ?_);refine wpAny_done (by kernel_rfl) ?_ _;clear c0 fA bA bR X1 hm K sh;generalize w1.setCell ⟨w.heap.size,0,none⟩ (.int .u64 z)=w2 at *;clear w1;have c0:=bA2.out.c0;have c1:=bA2.out.c1;have r0:=bR2.out.c0;have r1:=bR2.out.c1;have g0:=bR2.out.free 0;have g1:=bR2.out.free 1;go_simp;go_wp2_with (fail);refine bodyPost_ret (v:=.agg #[.int .u64 z,.int .u64 0]) (by simp[results,Tryz.results318,go_sem, *]) rfl ⟨rfl,?_⟩;exact((X2.out.setNew (p:=⟨w.heap.size+1,0,none⟩) (by simp) _).setNew (p:=⟨w.heap.size+1,1,none⟩) (by simp) _).drew
def UD (a n:Nat)(p:List Int) : List Int:=XL ((List.range n).filter fun c=>decide (a<=c) && !p.contains (c:Int))
theorem Za0 {w:World}{g gk:Nat}{n:Int}(h:FaceB w g 176 gk)(D:Calls Tryz.prog 379 #[.pointer (some ⟨gk,0,none⟩)] w fun e w'=>e=.returned (.int .i64 n)/\Ext w w') :
  Calls Tryz.prog 242 #[.pointer (some ⟨g,0,none⟩)] w fun e w'=>e=.returned (.int .i64 n)/\Ext w w':=by
 have c0:=Blk.c0 h;have hm:∀ (x:Value) (u:World),(callMethod (.iface 176 x) "Depth" #[]).run Tryz.prog u=.ok (.enter 379 #[x]) u:=fun _ _=>by kernel_rfl
 replace D:=Hd D;go_enter Tryz.func242,Tryz.ntmps242;go_wp2_with (fail);refine D.out.mono ?_;rintro e w1 ⟨rfl,x1⟩;go_wp2_with (fail);go_ret;exact⟨rfl,x1⟩
theorem Zf1 (X:Option Addr)(c:Nat)(n:Int)(w:World) : Calls Tryz.prog 130 #[.slice X 0 c,.int .i64 n] w fun e w'=>e=.returned (.bool true)/\Ext w w':=by
 go_enter Tryz.func130,Tryz.ntmps130;go_wp2_with (fail);refine wp_loop_rounds 1 ?_;rw[rounds_succ];go_wp2_with (fail);go_ret;exact⟨rfl,XI⟩
theorem ZeZ (A B:Option Addr)(a b:Nat)(cb co cc rb ro rc xb xo xc:Nat)(w:World)(h0:w.cell? ⟨cb,co,none⟩=some (.slice (some ⟨rb,ro,none⟩) 1 rc))(h1:w.cell? ⟨rb,ro,none⟩=some (.int .i64 7))(hx:w.cell? ⟨xb,xo,none⟩=some (.int .i64 0)) :
  Calls Tryz.prog 64 #[.agg #[.int .i64 2,.int .i64 1,.int .i64 0,(.slice A 0 a),(.slice B 0 b),.slice (some ⟨cb,co,none⟩) 1 cc],.slice (some ⟨xb,xo,none⟩) 1 xc] w fun e w'=>e=.returned (.tuple #[.int .i64 7,.int .i64 7,.int .i64 0])/\Ext w w':=by
 have z0:=World.block_lt_of_cell? w _ h0;have z1:=World.block_lt_of_cell? w _ h1;have zx:=World.block_lt_of_cell? w _ hx;go_enter Tryz.func64,Tryz.ntmps64;go_wp2_with (fail);refine wp_loop_rounds 2 ?_;rw[rounds_succ];go_wp2_with (fail);refine(Zf1 _ _ _ _).mono ?_;rintro e w1 ⟨rfl,x1⟩;have X1:=Ext.tr (a:=w) XI x1;have B1:Blk w1 w.heap.size 74 #[.int .i64 2,.int .i64 1,.int .i64 0,.slice A 0 a,.slice B 0 b,.slice (some ⟨cb,co,none⟩) 1 cc]:=Blk.ext (.new rfl) x1;have k0:=(B1.cell 0);have k5:=(B1.cell 5);have q0:=X1.keeps h0;have q1:=X1.keeps h1;have qx:=X1.keeps hx;clear x1 B1 h0 h1 hx;go_wp2_with (fail);rw[rounds_succ];go_wp2_with (fail);refine wp_loop_rounds 2 ?_;rw[rounds_succ];go_wp2_with (fail);rw[rounds_succ];go_wp2_with (fail);go_ret3;exact⟨rfl,X1.tr XI⟩
theorem Zb7 (A:Option Addr)(c:Nat)(xs:List Int)(n:Int)(w:World)(hA:RdI w A xs)(hl:xs.length<=1000000000) :
  Calls Tryz.prog 130 #[.slice A xs.length c,.int .i64 n] w fun e w'=>e=.returned (.bool (!xs.contains n))/\Ext w w':=by
 have Z0:Hid ((xs.take 0).contains n=false):=rfl;replace hA:=Hd hA;go_enter Tryz.func130,Tryz.ntmps130;go_wp2_with (fail);go_loopw [9] (fun v9 wr=>∃ k:Nat,v9=.int .i64 k/\k<=xs.length/\Hid ((xs.take k).contains n=false)/\Hid (Ext w wr)) (fun v _=>xs.length-(intOf v).toNat)
 case atStart=>exact⟨0,rfl,by omega,Z0,XI⟩
 case round =>
  obtain⟨wo,rfl⟩:=Wq wr;clear Z0;obtain⟨k,rfl,hk,hc,Y⟩:=hrel
  by_cases hlt:k<xs.length
  ·obtain⟨pb,po,y,rfl,zy,cy,ey,_⟩:=(hA.out.ext Y.out).at (k:=k) hlt
   have q1:(k:Int)<(xs.length:Int):=by omega
   by_cases hy:y=n
   ·subst hy
    have R:Hid ((!xs.contains y)=false):=Hd (by
     rw[List.contains_iff_mem.2 (List.mem_of_getElem? ey.out)];rfl)
    go_wp2_with (fail);go_ret;exact⟨Zco R.out.symm,Y.out.tr XI⟩
   ·have hy1:(y==n)=false:=by simpa using hy
    have C1:Hid ((xs.take (k+1)).contains n=false):=Hd (by
     rw[List.take_add_one,ey.out];have h1:=hc.out
     cases h2:(xs.take k++(some y).toList).contains n with
     | false=>rfl
     | true =>
      rw[List.contains_iff_mem,List.mem_append] at h2;rcases h2 with h2 | h2
      ·rw[<-List.contains_iff_mem,h1] at h2;cases h2
      ·simp at h2;exact absurd h2.symm hy)
    clear ey hc;go_wp2_with (fail);go_roundw
    case rel=>exact⟨k+1,by go_num,by omega,C1,Y.out.tr XI⟩
    case measure=>simp[intOf];omega
  ·have R:Hid ((!xs.contains n)=true):=by
    have h:(!xs.contains n)=true:=by
     have h1:=hc.out;rw[List.take_of_length_le (by omega)] at h1;rw[h1];rfl
    exact h
   go_wp2_with (fail);go_ret;exact⟨Zco R.out.symm,Y.out⟩
def Zg9 (l:List Int)(w:World)(e:Ending)(w':World) : Prop:=∃ (A:Option Addr) (c:Nat),e=.returned (.slice A l.length c)/\OwI w' w.heap.size A c l/\Ext w w'
theorem Ze0 {w:World}(x:Int) : OwI (w.alloc (.cells #[.int .i64 x] 3)) w.heap.size (some ⟨w.heap.size,0,none⟩) 1 [x] :=
 OwI.mk (cur:=#[.int .i64 x]) (Nat.le_refl _) (Blk.new (t:=3) (cs:=#[.int .i64 x]) rfl) (by simp) (by simp[maxLen]) rfl rfl
theorem RowsO.upd {w w':World}{base:Nat}{us:List Value}{R:List (List Int)}{k n c c2:Nat}{A:Option Addr}{r r':List Int}(h:RowsO w base us R)(hd:RowsD us)(hk:us[k]?=some (.slice A n c))(hr:R[k]?=some r)(hl:r'.length=r.length)(hn:n=r.length)(m:Mod (fun z=>bl A=some z) w w')(o:OwI w' base A c2 r')(hc:c2=c) : RowsO w' base us (R.set k r'):=by
 subst hc hn;obtain⟨h1,h2⟩:=h;have hkl:=(List.getElem?_eq_some_iff.1 hr).1;refine⟨by rw[h1,List.length_set],fun j q hq=>?_⟩
 by_cases hj:k=j
 ·subst hj
  rw[List.getElem?_set_self hkl] at hq;obtain rfl:=Option.some.inj hq;exact⟨A,c2,by rw[hl];exact hk,o⟩
 ·rw[List.getElem?_set_ne hj] at hq
  obtain⟨A',c',g1,g2⟩:=h2 j q hq;refine⟨A',c',g1,g2.mod m fun b hb hs=>?_⟩;rcases Nat.lt_or_gt_of_ne hj with hlt | hlt
  ·exact hd k j _ _ hlt hk g1 b (by rw[Z7];exact hs) (by rw[Z7];exact hb)
  ·exact hd j k _ _ hlt g1 hk b (by rw[Z7];exact hb) (by rw[Z7];exact hs)
def RwB (w:World)(g:Nat)(rows:List (List Int)) : Prop:=∃ (C:Option Addr) (c:Nat),Blk w g 245 #[.slice C rows.length c]/\rows.length<=c/\c<=maxLen/\RdE 1 RInts w C rows
theorem RwB.ext {w w':World}{g:Nat}{rows:List (List Int)}(h:RwB w g rows)(x:Ext w w') : RwB w' g rows:=by
 obtain⟨C,c,h1,h3,h4,h2⟩:=h;exact⟨C,c,h1.ext x,h3,h4,h2.ext x fun _ _ h=>h.ext x⟩
theorem Za1 (w:World)(g:Nat)(rows:List (List Int))(H:RwB w g rows) :
  Calls Tryz.prog 415 #[.pointer (some ⟨g,0,none⟩)] w fun e w'=>e=.returned (.int .i64 rows.length)/\Ext w w':=by
 obtain⟨C,c,h1,-,-,-⟩:=H;have t1:=h1.c0;go_enter Tryz.func415,Tryz.ntmps415;go_wp2_with (fail);go_ret;exact⟨rfl,XI⟩
theorem ZdE (a k:Nat)(p:List Int) : UD a (k+1) p=UD a k p++if (decide (a<=k) && !p.contains (k:Int))=true then [(k:Int)] else []:=by
 unfold UD XL;rw[List.range_succ,List.filter_append,List.map_append]
 congr 1
 by_cases h:(decide (a<=k) && !p.contains (k:Int))=true
 ·rw[if_pos h];simp only[List.filter_cons,List.filter_nil,h,if_true];rfl
 ·rw[if_neg h];simp only[List.filter_cons,List.filter_nil,h];rfl
theorem Ze1 (a n:Nat)(p:List Int) : (UD a n p).length<=n:=by
 unfold UD;rw[V7];have:=List.length_filter_le (fun c:Nat=>decide (a<=c) && !p.contains (c:Int)) (List.range n)
 rwa [List.length_range] at this
theorem Zb8 (w:World)(g:Nat)(rows:List (List Int))(H:RwB w g rows)(h24:rows.length<=64)(P:Option Addr)(c:Nat)(p:List Int)(hP:RdI w P p)(lp:p.length<=1000000000) :
  Calls Tryz.prog 416 #[.pointer (some ⟨g,0,none⟩),.slice P p.length c] w (Zg9 (UD 0 rows.length p) w):=by
 obtain⟨C,cc,h1,-,-,-⟩:=H;have t1:=h1.c0;have AB:=Hd (fun(W:World) (x:Ext w W) (n:Int)=>Zb7 P c p n W (hP.ext x) lp);generalize rows.length=n at *;have START:Hid (OwI w w.heap.size none 0 (UD 0 0 p)):=OwI.nil w _;have AL:=Hd (fun k=>Ze1 0 k p);have AS:=Hd (fun k=>ZdE 0 k p);replace h1:=Hd h1;clear hP;go_enter Tryz.func416,Tryz.ntmps416;go_wp2_with (fail);go_loopw [5,12] (fun v5 v12 wr=>∃ (k:Nat) (A:Option Addr) (ac:Nat) (xs:List Int),v12=.int .i64 k/\v5=.slice A xs.length ac/\k<=n/\Hid (xs=UD 0 k p)/\Hid (OwI wr w.heap.size A ac xs)/\Hid (Ext w wr)) (fun _ v _=>n-(intOf v).toNat)
 case atStart=>exact⟨0,none,0,[],rfl,rfl,by omega,rfl,START,XI⟩
 case round =>
  obtain⟨wo,rfl⟩:=Wq wr;clear START;obtain⟨k,A,ac,xs,rfl,rfl,hk,hx,oX,Y⟩:=hrel
  by_cases hlt:k<n
  ·have q1:(k:Int)<(n:Int):=by omega
   have lx:xs.length<64:=by rw[hx.out];have:=AL.out k;omega
   have AS2:=AS.out k;rw[<-hx.out] at AS2
   by_cases hc:p.contains (k:Int)=true
   ·have AS3:Hid (xs=UD 0 (k+1) p):=by
     have h:xs=UD 0 (k+1) p:=by rw[AS2,hc];simp
     exact h
    have e1:(!p.contains (k:Int))=false:=by rw[hc];rfl
    have AB2:=Hd (AB.out);clear AS2 hx;go_wp2_with (fail);refine(AB2.out _ (Y.out.tr XI) _).mono ?_;rintro e w2 ⟨rfl,x2⟩;rw[e1];have X2:=Hd (Ext.tr (a:=wo) XI x2);clear x2;go_wp2_with (fail);go_roundw
    case rel=>exact⟨k+1,A,ac,xs,by go_num,rfl,by omega,AS3,oX.out.ext (Ext.tr X2.out XI),Y.out.tr (Ext.tr X2.out XI)⟩
    case measure=>simp[intOf];omega
   ·have hc':p.contains (k:Int)=false:=by simpa using hc
    have AS3:Hid (xs++[(k:Int)]=UD 0 (k+1) p):=Hd (by rw[AS2,hc'];simp);have e1:(!p.contains (k:Int))=true:=by rw[hc'];rfl
    have AB2:=Hd (AB.out);clear AS2 hx;go_wp2_with (fail);refine(AB2.out _ (Y.out.tr XI) _).mono ?_;rintro e w2 ⟨rfl,x2⟩;rw[e1];have X2:=Hd (Ext.tr (a:=wo) XI x2);clear x2;have O2:=Hd (oX.out.ext X2.out);have zz:=(Y.out.tr X2.out).size;go_wp2_with (at_builtin;(refine Yn _ rfl _ _ rfl w.heap.size A xs.length ac xs [(k:Int)] (some ⟨w2.heap.size,0,none⟩) 1 rfl rfl rfl ?_ ?_ ?_ ?_ ?_;(exact O2.out.ext ((Ext.rf _).alloc _));(exact .blk (.new (by simp)) rfl);(simp;omega);(simp;omega);rintro A7 c7 w7 o7 g7 _;have Y7:Ext w w7:=Ext.grow (a:=w) ((Y.out.tr X2.out).alloc _) g7 (fun kk hkk=>(oX.out.lt kk hkk).1)));have O7:Hid (OwI w7 w.heap.size A7 c7 (xs++[(k:Int)])):=o7;replace Y7:=Hd Y7;clear o7 g7;go_wp2_with (fail);go_roundw
    case rel=>exact⟨k+1,A7,c7,xs++[(k:Int)],by go_num,by first | rfl | simp,by omega,AS3,OwI.ext O7.out XI,Ext.tr Y7.out XI⟩
    case measure=>simp[intOf];omega
  ·obtain rfl:k=n:=by omega
   go_wp2_with (fail);go_ret;rw[<-hx.out];exact⟨A,ac,rfl,oX.out,Y.out⟩
theorem ZgI (base g c:Nat)(v:Int)(w:World)(H:OwI w base (some ⟨g,0,none⟩) c [v])(hv:v=7\/v=0) :
  Calls Tryz.prog 418 #[.slice (some ⟨g,0,none⟩) 1 c] w fun e w'=>e=.returned (.int .i64 v)/\OwI w' base (some ⟨g,0,none⟩) c [0]/\Mod (fun k=>k=g) w w':=by
 obtain⟨x,c0,f0,-,hx,hs⟩:=H.cell (k:=0) (by simp);obtain rfl:v=x:=by simpa using hx.out
 have S0:Hid (OwI (w.setCell ⟨g,0,none⟩ (.int .i64 0)) base (some ⟨g,0,none⟩) c [0]):=Hd (hs.out 0);have M0:Hid (Mod (fun k=>k=g) w (w.setCell ⟨g,0,none⟩ (.int .i64 0))):=Hd (Mod.set (S:=fun k=>k=g) (Mod.rf w) (p:=⟨g,0,none⟩) (.inl rfl) _);clear H hx hs;rcases hv with rfl | rfl
 all_goals
  go_enter Tryz.func418,Tryz.ntmps418;go_wp2_with (fail);refine wp_loop_rounds 2 ?_;rw[rounds_succ];go_wp2_with (fail);rw[rounds_succ];go_wp2_with (fail);refine wp_loop_rounds 2 ?_;rw[rounds_succ];go_wp2_with (fail);rw[rounds_succ];go_wp2_with (fail);go_ret;exact⟨rfl,S0.out,M0.out⟩
theorem Ze2 (base g c s so sc:Nat)(w:World)(H:OwI w base (some ⟨g,0,none⟩) c [7])(hs:w.cell? ⟨s,so,none⟩=some (.slice (some ⟨g,0,none⟩) 1 c))(hb:base<=g)(hne:s≠g) :
  Calls Tryz.prog 417 #[.slice (some ⟨s,so,none⟩) 1 sc] w fun e w'=>e=.returned (.int .i64 7)/\Mod (fun k=>k=g) w w':=by
 have zs:=World.block_lt_of_cell? w _ hs;have LO:=Hd (fun(b g c:Nat) (v:Int) (W:World) (H:OwI W b (some ⟨g,0,none⟩) c [v]) (hv:v=7\/v=0)=>ZgI b g c v W H hv);have mk1:∀ u:World,(Instr.makeSlice 22 (.int .i64 1) (.int .i64 1)).run Tryz.prog u=.ok (.slice (some ⟨u.heap.size,0,none⟩) 1 1) (u.alloc (.cells #[.int .i64 0] 3)):=fun u=>by kernel_rfl
 replace H:=Hd H;go_enter Tryz.func417,Tryz.ntmps417;go_wp2_with (fail);refine wp_loop_rounds 2 ?_;rw[rounds_succ];go_wp2_with (fail);refine(LO.out base g c 7 _ (H.out.ext XI) (.inl rfl)).mono ?_;rintro e w2 ⟨rfl,o2,m2⟩;have M2:Mod (fun k=>k=g) w w2:=Mod.tr (Mod.of_ext XI) m2;have h2:w2.cell? ⟨s,so,none⟩=some (.slice (some ⟨g,0,none⟩) 1 c):=(World.cell?_of_block (M2.block s zs hne)).trans hs;obtain⟨x,c2,-,-,hx,-⟩:=o2.cell (k:=0) (by simp);obtain rfl:(0:Int)=x:=by simpa using hx.out
 have zs2:=World.block_lt_of_cell? w2 _ h2;have zg2:=World.block_lt_of_cell? w2 _ c2;replace M2:=Hd M2;clear hs zs o2 m2 hx H;go_wp2_with (fail);rw[rounds_succ];go_wp2_with (fail);refine wp_loop_rounds 2 ?_;rw[rounds_succ];go_wp2_with (fail);refine wp_loop_rounds 2 ?_;rw[rounds_succ];go_wp2_with (fail);rw[rounds_succ];go_wp2_with (fail);refine(LO.out w2.heap.size w2.heap.size 1 0 _ (Ze0 0) (.inr rfl)).mono ?_;rintro e w3 ⟨rfl,-,m3⟩;have M3:Hid (Mod (fun k=>k=g) w w3):=Hd (M2.out.tr (Mod.of_ext ((((Ext.rf w2).alloc (.cells #[.int .i64 0] 3)).mod m3 (fun k hk e=>by omega)))));clear M2 m3 LO;go_wp2_with (fail);rw[rounds_succ];go_wp2_with (fail);go_ret;exact⟨rfl,M3.out⟩
theorem OwV.cellk0 {w:World}{base size n c:Nat}{e:TypeId}{A:Option Addr}{vs:List Value}(o:OwV w base e size A n c vs)(h0:0<n) : ∃ g,A=some ⟨g,0,none⟩/\∀ k v,vs[k]?=some v->w.cell? ⟨g,k,none⟩=some v:=by
 rcases o.cases with⟨_,_,h,_⟩ | ⟨g,cur,rfl,-⟩
 ·omega
 ·refine⟨g,rfl,fun k v hv=>?_⟩
  obtain⟨b1,o1,u,h1,-,h2,h3⟩:=o.read.at (j:=k) (List.getElem?_eq_some_iff.1 hv).1
  injection h1 with h1
  injection h1 with h1 h4
  subst h1;subst h4;rw[Nat.zero_add] at h2;have h3:=h3.out;rw[hv] at h3
  injection h3 with h3
  subst h3;exact h2
theorem Zf2 (w:World)(gr:Nat)(HR:RwB w gr [[7]]) :
  Calls Tryz.prog 414 #[.pointer (some ⟨gr,0,none⟩),.slice none 0 0] w fun e w'=>e=.returned (.int .i64 7)/\Ext w w':=by
 have KI:=Hd (fun(W:World) (x:Ext w W)=>Zb8 W gr [[7]] (HR.ext x) (by decide) none 0 [] (.inl rfl) (by decide));rw[show UD 0 ([[7]]:List (List Int)).length []=[0] by decide +kernel] at KI;unfold Zg9 at KI;simp only[List.length_cons,List.length_nil,Nat.zero_add] at KI;obtain⟨C,cc,hB,-,-,hC⟩:=HR;simp only[List.length_cons,List.length_nil,Nat.zero_add] at hB;obtain⟨cb,co,R,row,rc,rfl,-,h1,h2,-,h3,-,-,-⟩:=hC.ints (r:=0) (by decide);obtain rfl:row=[7]:=by have:=h2.out;simpa using this.symm
 obtain⟨rb,ro,n,rfl,-,h5,h6,-⟩:=h3.at (k:=0) (by decide);obtain rfl:n=7:=by have:=h6.out;simpa using this.symm
 have b0:w.cell? ⟨gr,0,none⟩=some (.slice (some ⟨cb,co,none⟩) 1 cc):=(hB.cell 0);replace h1:w.cell? ⟨cb,co,none⟩=some (.slice (some ⟨rb,ro,none⟩) 1 rc):=h1;replace h5:w.cell? ⟨rb,ro,none⟩=some (.int .i64 7):=h5;clear hB hC h2 h3 h6;obtain⟨i0,hi,hz0,hz1,hz2⟩:=info_parts U4;replace hi:=Hd hi;replace hz0:=Hd hz0;replace hz1:=Hd hz1;replace hz2:=Hd hz2;go_enter Tryz.func414,Tryz.ntmps414;go_wp2_with (fail);refine wp_loop_rounds 1 ?_;rw[rounds_succ];go_wp2_with (fail);refine(KI.out _ XI).mono ?_;rintro e w2 ⟨KA,kc,rfl,ok,x2⟩;have X2:=Hd (Ext.tr (a:=w) XI x2);obtain⟨kb,z,rfl,-,-,k0,-,hz,-⟩:=ok.at (k:=0) (by simp);obtain rfl:(0:Int)=z:=by simpa using hz.out
 replace b0:=X2.out.keeps b0;replace h1:=X2.out.keeps h1;replace h5:=X2.out.keeps h5;clear x2 ok hz KI;go_wp2_with (fail);refine wp_loop_rounds 2 ?_;rw[rounds_succ];go_wp2_with (fail);refine wp_loop_rounds 2 ?_;rw[rounds_succ];go_wp2_with (at_builtin;refine Yn _ rfl _ _ rfl w2.heap.size none 0 0 [] [7] (some ⟨w2.heap.size,0,none⟩) 1 rfl rfl rfl (OwI.nil _ _) (.blk (.new rfl) rfl) (by simp) (by simp) ?_;rintro A8 c8 w8 o8 g8 _);have X8:=Hd (Ext.grow (a:=w2) ((Ext.rf w2).alloc _) g8 (fun z hz=>by simp[bl] at hz));obtain⟨gl,z,rfl,zb,zl,l0,-,hz,-⟩:=o8.at (k:=0) (by simp);replace o8:=Hd o8;clear g8 l0 hz;go_wp2_with (fail);rw[rounds_succ];go_wp2_with (at_builtin;refine Zw _ (e:=22) Tryz.underlying72 hi.out hz0.out hz1.out hz2.out (by simp[Value.cells]) (by omega) rfl _ _ rfl w8.heap.size none 0 0 [] _ 1 1 [.slice (some ⟨gl,0,none⟩) 1 c8] rfl rfl (OwV.nil _ _ _ _) (RdV.blk (by(first | exact .new (by simp) | exact .drew (.new (by simp)) | exact .alloc (.new (by simp)) _ | exact .drew (.alloc (.new (by simp)) _) | exact .alloc (.alloc (.new (by simp)) _) _ | exact .drew (.alloc (.alloc (.new (by simp)) _) _) | (repeat (first | assumption | (refine Blk.new ?_;(focus (simp;done))) | apply Blk.drew | apply Blk.drewN | apply Blk.alloc))))).rdC (by rfl) (by simp[Value.oneCell']) (by simp[maxLen]) (by omega) (by simp) ?_;rintro D9 d9 w9 o9 g9 _);have X9:=Hd (Ext.grow (a:=w8) ((Ext.rf w8).alloc _) g9 (fun z hz=>by simp[bl] at hz));obtain⟨gs,rfl,DC⟩:=o9.cellk0 (by decide);have s0:=DC 0 _ rfl;have bs:=o9.lt gs rfl;clear g9 o9 DC;go_wp2_with (fail);rw[rounds_succ];go_wp2_with (fail);refine(Ze2 w2.heap.size gl c8 gs 0 d9 _ (o8.out.ext (X9.out.tr XI)) ((show Ext w9 _ from XI).keeps s0) zb (by omega)).mono ?_;rintro e wa ⟨rfl,ma⟩;have XA:Hid (Ext w wa):=Hd ((X2.out.tr (X8.out.tr (X9.out.tr XI))).mod ma (fun k hk e=>by have:=X2.out.size;omega));go_wp2_with (fail);go_ret;exact⟨rfl,XA.out.tr XI⟩
theorem ZgJ (g gr:Nat)(W0 W:World)(X:Ext W0 W)(hg:W0.heap.size<=g)(hB:Blk W g 153 #[.iface 243 (.pointer (some ⟨gr,0,none⟩)),.int .i64 7,.string ⟨#[112]⟩])(HR:RwB W0 gr [[7]]) :
  Calls Tryz.prog 66 #[.pointer (some ⟨g,0,none⟩),.slice none 0 0] W fun e w'=>e=.returned (.int .i64 0)/\w'.cell? ⟨g,2,none⟩=some (.string ByteArray.empty)/\Ext W0 w':=by
 have t2:W.cell? ⟨g,2,none⟩=some (.string ⟨#[112]⟩):=(hB.cell 2);have f2:=hB.free 2;have gl:=hB.lt;have X1:=Hd (X.setNew (p:=⟨g,2,none⟩) hg (.string ByteArray.empty));have hB1:=Hd (hB.set 2 (.string ByteArray.empty));have mD:∀ (x:Value) (u:World),(callMethod (.iface 243 x) "kurgan/check.depth" #[]).run Tryz.prog u=.ok (.enter 415 #[x]) u:=fun _ _=>by kernel_rfl
 have mB:∀ (x:Value) (u:World),(method 565 243 x "kurgan/check.bound").run Tryz.prog u=.ok (414,x) u:=fun _ _=>by kernel_rfl
 have CD:=Hd (fun(V:World) (x:Ext W0 V)=>Za1 V gr [[7]] (HR.ext x));have CB:=Hd (fun(V:World) (x:Ext W0 V)=>Zf2 V gr (HR.ext x));simp only[List.length_cons,List.length_nil,Nat.zero_add] at CD;clear hB HR;go_enter Tryz.func66,Tryz.ntmps66;go_upto_region 5 with(fail);generalize W.setCell ⟨g,2,none⟩ (.string ByteArray.empty)=W1 at *;have zg:=hB1.out.lt;have t0:W1.cell? ⟨g,0,none⟩=some (.iface 243 (.pointer (some ⟨gr,0,none⟩))):=(hB1.out.cell 0);clear t2 f2;go_wp2_with (fail);refine(CD.out _ (X1.out.tr XI)).mono ?_;rintro e W2 ⟨rfl,x2⟩;have X2:=Hd (X1.out.tr (Ext.tr (a:=W1) XI x2));have B2:=Hd (hB1.out.ext (Ext.tr (a:=W1) XI x2));have gl2:=B2.out.lt;have d0:W2.cell? ⟨g,0,none⟩=some (.iface 243 (.pointer (some ⟨gr,0,none⟩))):=(B2.out.cell 0);have d1:W2.cell? ⟨g,1,none⟩=some (.int .i64 7):=(B2.out.cell 1);clear t0 x2;go_wp2_with (fail);go_region_held3 (fun w'=>w'.cell? ⟨g,0,none⟩=some (.iface 243 (.pointer (some ⟨gr,0,none⟩)))/\w'.cell? ⟨g,1,none⟩=some (.int .i64 7)) (go_keep)
  (first | (go_at_call 414;refine(CB.out _ (X2.out.tr XI)).mono ?_;rintro e W3 ⟨rfl,x3⟩;have y3:=Ext.tr (a:=W2) XI x3;have s1:=Zb y3 gl2 d0;have s2:=Zb y3 gl2 d1))
 all_goals go_wp2_with (fail)
 all_goals go_ret
 all_goals exact⟨rfl,(B2.out.ext y3).cell 2,X2.out.tr y3⟩
def RdT (w:World)(gr:Nat)(l:List Tok)(a:Int) : Prop:=∃ (L:Option Addr) (c:Nat),l.length<=c/\Blk w gr 102 #[.slice L l.length c,.int .i64 a]/\RdV w 165 L (YS l)/\bl L≠some gr
theorem RdT.ext {w w':World}{gr:Nat}{l:List Tok}{a:Int}(h:RdT w gr l a)(x:Ext w w') : RdT w' gr l a:=by
 obtain⟨L,c,h1,h2,h3,h4⟩:=h;exact⟨L,c,h1,h2.ext x,h3.ext x,h4⟩
theorem RdT.lt {w:World}{gr:Nat}{l:List Tok}{a:Int}(h:RdT w gr l a) : gr<w.heap.size:=by
 obtain⟨L,c,h1,h2,h3,h4⟩:=h;exact h2.lt
theorem RdT.set {w:World}{gr:Nat}{l:List Tok}{a:Int}(h:RdT w gr l a)(v:Int) : RdT (w.setCell ⟨gr,1,none⟩ (.int .i64 v)) gr l v:=by
 obtain⟨L,c,h1,h2,h3,h4⟩:=h;exact⟨L,c,h1,h2.set 1 _,h3.keep fun b hb=>Below.heap_setCell w _ _ b (fun e=>h4 (by rw[hb,e])),h4⟩
abbrev MG (gr:Nat)(w w':World) : Prop:=Mod (fun k=>k=gr) w w'
theorem JA {w:World}{L:Option Addr}{t:Tok}{r:List Tok}(h:RdV w 165 L (YS (t::r))) : ∃ b off,L=some ⟨b,off,none⟩/\b<w.heap.size/\w.cell? ⟨b,off,none⟩=some (.int .i64 t.kind)/\w.cell? ⟨b,off+1,none⟩=some (txS t.text)/\w.cell? ⟨b,off+2,none⟩=some (.int .i64 t.num)/\w.cell? ⟨b,off+3,none⟩=some (.int .i64 t.at_):=by
 obtain⟨b,off,rfl,hb,hc⟩:=h.form (by unfold YS;rw[List.flatMap_cons];simp[Zef]);have at_:=fun j v (hj:(Zef t)[j]?=some v)=>hc j v (by
  unfold YS;rw[List.flatMap_cons,List.getElem?_append_left (List.getElem?_eq_some_iff.1 hj).1];exact hj)
 exact⟨b,off,rfl,hb,at_ 0 _ rfl,at_ 1 _ rfl,at_ 2 _ rfl,at_ 3 _ rfl⟩
theorem Ug (gr:Nat)(t:Tok)(r:List Tok)(a:Int)(w:World)(H:RdT w gr (t::r) a) :
  Calls Tryz.prog 145 #[.pointer (some ⟨gr,0,none⟩)] w fun e w'=>e=.returned (.agg #[.int .i64 t.kind,.string ⟨t.text.toArray⟩,.int .i64 t.num,.int .i64 t.at_])/\Ext w w':=by
 have X:Ext w (w.alloc (.cells #[.int .i64 0,.string ⟨#[]⟩,.int .i64 0,.int .i64 0] 165)):=(Ext.rf w).alloc _;have B:Blk (w.alloc (.cells #[.int .i64 0,.string ⟨#[]⟩,.int .i64 0,.int .i64 0] 165)) w.heap.size 165 #[.int .i64 0,.string ⟨#[]⟩,.int .i64 0,.int .i64 0]:=.new rfl;have H1:=H.ext X;obtain⟨L,c,h1,hr,h3,h4⟩:=H1;obtain⟨b,off,rfl,z,c0,c1,c2,c3⟩:=JA h3;unfold txS at c1;have r0:=(hr.cell 0);have k0:=(B.cell 0);have k1:=(B.cell 1);have k2:=(B.cell 2);have k3:=(B.cell 3);have f0:=B.free 0;have f1:=B.free 1;have f2:=B.free 2;have f3:=B.free 3;obtain⟨n,hn⟩:∃ n,(t::r).length=n:=⟨_,rfl⟩;have hn0:0<(t::r).length:=by simp
 have hn2:(0:Int)<(n:Int):=by omega
 have hn3:0<n:=by omega
 rw[hn] at r0 hr h1;clear hr H hn h3 h4 hn0;replace X:=Hd X;replace B:=Hd B;go_enter Tryz.func145,Tryz.ntmps145;go_wp2_with (fail);exact bodyPost_ret (v:=.agg #[.int .i64 t.kind,.string ⟨t.text.toArray⟩,.int .i64 t.num,.int .i64 t.at_]) (by simp[results,Tryz.results145,go_sem, *]) rfl ⟨rfl,XI⟩
theorem JB (gr:Nat)(t:Tok)(r:List Tok)(a:Int)(w:World)(H:RdT w gr (t::r) a) :
  Calls Tryz.prog 146 #[.pointer (some ⟨gr,0,none⟩)] w fun e w'=>e=.returned (.tuple #[])/\RdT w' gr r a/\MG gr w w':=by
 obtain⟨L,c,h1,hr,h3,h4⟩:=H;obtain⟨i0,hi,_,hz1,_⟩:=info_parts Qm;have hlen:(t::r).length=r.length+1:=rfl;rw[hlen] at h1 hr;obtain⟨T,hTb,hT,hrun⟩:∃ T,(bl T≠some gr)/\RdV w 165 T (YS r)/\∀ W,(Instr.sliceAt 97 (.slice L (r.length+1) c) (some (.int .i64 1)) none none).run Tryz.prog W=.ok (.slice T r.length (c-1)) W:=by
  refine⟨if c=1 then L else L.map (·.add (1*4)),?_,?_,fun W=>?_⟩
  ·split
   ·exact h4
   ·cases L with
    | none=>simp[bl]
    | some A=>simpa [bl,Addr.add] using h4
  ·by_cases h0:c=1
   ·obtain rfl:r=[]:=List.length_eq_zero_iff.1 (by omega)
    exact RdV.nil _ _ _
   ·rw[if_neg h0]
    have h:=h3.drop 4;have e:(YS (t::r)).drop 4=YS r:=by unfold YS;rw[List.flatMap_cons];rfl
    rw[e] at h;exact h
  ·have h:=Vw (P:=Tryz.prog) Tryz.underlying97 hi hz1 L (r.length+1) c 1 1 rfl (by omega) h1 W
   rw[Nat.add_sub_cancel] at h;exact h
 have r0:=(hr.cell 0);have f0:=hr.free 0;have R2:Hid (RdT (w.setCell ⟨gr,0,none⟩ (.slice T r.length (c-1))) gr r a):=Hd ⟨T,c-1,by omega,hr.set 0 _,hT.keep fun b hb=>Below.heap_setCell w _ _ b (fun e=>hTb (by rw[hb,e])),hTb⟩;have M2:Hid (MG gr w (w.setCell ⟨gr,0,none⟩ (.slice T r.length (c-1)))):=Hd (Mod.set (S:=fun k=>k=gr) (p:=⟨gr,0,none⟩) (Mod.rf _) (.inl rfl) _);obtain⟨n,hn⟩:∃ n,r.length=n:=⟨_,rfl⟩;rw[hn] at r0 hr h1 hrun R2 M2;clear hr hn h3 h4 hT hi hz1 hlen;go_enter Tryz.func146,Tryz.ntmps146;go_wp2_with (fail);go_end0;exact⟨rfl,R2.out.ext XI,M2.out.ext XI⟩
def Xs (t:Tok)(most:Int) : Int×Int:=if t.kind=3 then(0,6) else if t.kind=1 then(0,4) else if most<t.num then(0,5) else(t.num,0)
def Zf3 (gr:Nat)(t:Tok)(r:List Tok)(v er:Int)(w:World)(e:Ending)(w':World) : Prop:=e=.returned (.tuple #[.int .i64 v,.int .i64 er])/\RdT w' gr (if er=0 then r else t::r) t.at_/\MG gr w w'
theorem Za2 (gr:Nat)(t:Tok)(r:List Tok)(a most:Int)(w:World)(H:RdT w gr (t::r) a) :
  Calls Tryz.prog 147 #[.pointer (some ⟨gr,0,none⟩),.int .i64 most] w (Zf3 gr t r (Xs t most).1 (Xs t most).2 w):=by
 unfold Zf3;have NX:=Hd (fun(W:World) (X:Ext w W)=>Ug gr t r a W (H.ext X));have TK:=Hd (fun(W:World) (h:RdT W gr (t::r) t.at_)=>JB gr t r t.at_ W h);have HH:=Hd H;obtain⟨q1,hq1⟩:∃ q,(Xs t most).1=q:=⟨_,rfl⟩;obtain⟨q2,hq2⟩:∃ q,(Xs t most).2=q:=⟨_,rfl⟩;rw[hq1,hq2];have NK:Hid (Xs t most=(q1,q2)):=Hd (by rw[<-hq1,<-hq2]);clear H hq1 hq2;obtain⟨kd,tx,nm,pa⟩:=t;unfold Xs at NK;simp only at NX NK TK ⊢;go_enter Tryz.func147,Tryz.ntmps147;go_wp2_with (fail);refine(NX.out _ XI).mono ?_;rintro e w1 ⟨rfl,x1⟩;have X1:=Hd (Ext.tr (a:=w) XI x1);have H1:=Hd ((HH.out.ext X1.out).ext ((Ext.rf w1).alloc (.cells #[.int .i64 kd,.string ⟨tx.toArray⟩,.int .i64 nm,.int .i64 pa] 165)));have BT:Hid (Blk (w1.alloc (.cells #[.int .i64 kd,.string ⟨tx.toArray⟩,.int .i64 nm,.int .i64 pa] 165)) w1.heap.size 165 #[.int .i64 kd,.string ⟨tx.toArray⟩,.int .i64 nm,.int .i64 pa]):=Hd (.new rfl);have X2:=Hd (X1.out.alloc (.cells #[.int .i64 kd,.string ⟨tx.toArray⟩,.int .i64 nm,.int .i64 pa] 165));clear x1 NX X1 HH;go_upto_region 2 with(fail);generalize w1.alloc (.cells #[.int .i64 kd,.string ⟨tx.toArray⟩,.int .i64 nm,.int .i64 pa] 165)=w2 at *;generalize w1.heap.size=tb at *;have t3:w2.cell? ⟨tb,3,none⟩=some (.int .i64 pa):=(BT.out.cell 3);obtain⟨L,c,-,hb,-,-⟩:=H1.out;have r1:=(hb.cell 1);have g1:=hb.free 1;have hne:tb≠gr:=BT.out.ne hb (by decide);clear hb;have H3:=Hd (H1.out.set pa);have B3:=Hd (BT.out.far (p:=⟨gr,1,none⟩) hne (.int .i64 pa));have M3:Hid (MG gr w (w2.setCell ⟨gr,1,none⟩ (.int .i64 pa))):=Hd ((Mod.of_ext X2.out).tr (Mod.set (S:=fun k=>k=gr) (p:=⟨gr,1,none⟩) (Mod.rf _) (.inl rfl) _));go_upto_block 0 with(fail);clear t3 r1 g1 H1 BT X2;generalize w2.setCell ⟨gr,1,none⟩ (.int .i64 pa)=w3 at *;have k0:w3.cell? ⟨tb,0,none⟩=some (.int .i64 kd):=(B3.out.cell 0);have k2:w3.cell? ⟨tb,2,none⟩=some (.int .i64 nm):=(B3.out.cell 2)
 by_cases h3:kd=3
 ·have e1:=NK.out
  rw[if_pos h3] at e1
  injection e1 with e1 e2
  subst e1;subst e2;subst h3;clear TK NK;go_wp2_with (fail);go_ret2;exact⟨rfl,H3.out.ext XI,M3.out.ext XI⟩
 ·have e3:(kd==3)=false:=beq_eq_false_iff_ne.2 h3
  by_cases h1:kd=1
  ·have e1:=NK.out
   rw[if_neg h3,if_pos h1] at e1
   injection e1 with e1 e2
   subst e1;subst e2;subst h1;clear TK NK h3 e3;go_wp2_with (fail);go_ret2;exact⟨rfl,H3.out.ext XI,M3.out.ext XI⟩
  ·have e4:(kd==1)=false:=beq_eq_false_iff_ne.2 h1
   by_cases h5:most<nm
   ·have e1:=NK.out
    rw[if_neg h3,if_neg h1,if_pos h5] at e1
    injection e1 with e1 e2
    subst e1;subst e2;clear TK NK h3 h1;go_wp2_with (fail);go_ret2;exact⟨rfl,H3.out.ext XI,M3.out.ext XI⟩
   ·have e1:=NK.out
    rw[if_neg h3,if_neg h1,if_neg h5] at e1
    injection e1 with e1 e2
    subst e1;subst e2;clear NK h3 h1;go_wp2_with (fail);refine(TK.out _ (H3.out.ext XI)).mono ?_;rintro e w4 ⟨rfl,r4,m4⟩;have R4:=Hd r4;have M4:=Hd ((M3.out.ext XI).tr m4);have k2:w4.cell? ⟨tb,2,none⟩=some (.int .i64 nm):=((B3.out.ext XI).mod m4 hne).cell 2;clear TK k0 r4 m4;go_wp2_with (fail);go_ret2;exact⟨rfl,R4.out.ext XI,M4.out.ext XI⟩
def ZcF (t:Tok)(most:Int) : Int×Int:=if (Xs t most).2=0/\(Xs t most).1=0 then(0,1) else Xs t most
def Zha (gr:Nat)(t:Tok)(r:List Tok)(most:Int)(w:World)(e:Ending)(w':World) : Prop:=e=.returned (.tuple #[.int .i64 (ZcF t most).1,.int .i64 (ZcF t most).2])/\RdT w' gr (if (Xs t most).2=0 then r else t::r) t.at_/\MG gr w w'
theorem Zb9 (gr:Nat)(t:Tok)(r:List Tok)(a most:Int)(w:World)(H:RdT w gr (t::r) a) :
  Calls Tryz.prog 80 #[.pointer (some ⟨gr,0,none⟩),.int .i64 most] w (Zha gr t r most w):=by
 unfold Zha;have NU:=Hd (fun(W:World) (X:Ext w W)=>Za2 gr t r a most W (H.ext X));unfold Zf3 at NU;have CK:Hid (ZcF t most=if (Xs t most).2=0/\(Xs t most).1=0 then(0,1) else Xs t most):=Hd rfl;obtain⟨C,hC⟩:∃ C,ZcF t most=C:=⟨_,rfl⟩;rw[hC] at CK ⊢;obtain⟨K,hK⟩:∃ K,Xs t most=K:=⟨_,rfl⟩;rw[hK] at CK NU ⊢;obtain⟨q1,q2⟩:=K;simp only at CK NU ⊢;clear hC hK H;generalize (if q2=0 then r else t::r)=LL at *;go_enter Tryz.func80,Tryz.ntmps80;go_wp2_with (fail);refine(NU.out _ XI).mono ?_;rintro e w1 ⟨rfl,r1,m1⟩;have R1:=Hd r1;have M1:=Hd m1;clear r1 m1 NU
 by_cases h2:q2=0
 ·subst h2
  by_cases h1:q1=0
  ·subst h1
   have e1:Hid (C=(0,1)):=Hd (by rw[CK.out,if_pos ⟨rfl,rfl⟩]);go_wp2_with (fail);go_ret2;rw[e1.out];exact⟨rfl,R1.out.ext XI,M1.out.ext XI⟩
  ·have e2:(q1==0)=false:=beq_eq_false_iff_ne.2 h1
   have e1:Hid (C=(q1,0)):=Hd (by rw[CK.out,if_neg (fun h=>h1 h.2)]);clear h1;go_wp2_with (fail);go_ret2;rw[e1.out];exact⟨rfl,R1.out.ext XI,M1.out.ext XI⟩
 ·have e2:(q2==0)=false:=beq_eq_false_iff_ne.2 h2
  have e1:Hid (C=(q1,q2)):=Hd (by rw[CK.out,if_neg (fun h=>h2 h.1)]);clear h2;go_wp2_with (fail);go_ret2;rw[e1.out];exact⟨rfl,R1.out.ext XI,M1.out.ext XI⟩
def Ze3 (t:Tok) : Int:=if t.kind=3 then 0 else 7
theorem Ze4 (gr:Nat)(t:Tok)(r:List Tok)(a:Int)(w:World)(H:RdT w gr (t::r) a) :
  Calls Tryz.prog 82 #[.pointer (some ⟨gr,0,none⟩)] w fun e w'=>e=.returned (.int .i64 (Ze3 t))/\RdT w' gr (t::r) t.at_/\MG gr w w':=by
 have NX:=Hd (fun(W:World) (X:Ext w W)=>Ug gr t r a W (H.ext X));have HH:=Hd H;clear H;obtain⟨kd,tx,nm,pa⟩:=t;obtain⟨er,her⟩:∃ er,Ze3 ⟨kd,tx,nm,pa⟩=er:=⟨_,rfl⟩;rw[her];unfold Ze3 at her;simp only at NX her ⊢;replace her:=Hd her;go_enter Tryz.func82,Tryz.ntmps82;go_wp2_with (fail);refine(NX.out _ XI).mono ?_;rintro e w1 ⟨rfl,x1⟩;have X1:=Hd (Ext.tr (a:=w) XI x1);have H1:=Hd ((HH.out.ext X1.out).ext ((Ext.rf w1).alloc (.cells #[.int .i64 kd,.string ⟨tx.toArray⟩,.int .i64 nm,.int .i64 pa] 165)));have BT:Hid (Blk (w1.alloc (.cells #[.int .i64 kd,.string ⟨tx.toArray⟩,.int .i64 nm,.int .i64 pa] 165)) w1.heap.size 165 #[.int .i64 kd,.string ⟨tx.toArray⟩,.int .i64 nm,.int .i64 pa]):=Hd (.new rfl);have X2:=Hd (X1.out.alloc (.cells #[.int .i64 kd,.string ⟨tx.toArray⟩,.int .i64 nm,.int .i64 pa] 165));clear x1 NX X1 HH;go_upto_region 2 with(fail);generalize w1.alloc (.cells #[.int .i64 kd,.string ⟨tx.toArray⟩,.int .i64 nm,.int .i64 pa] 165)=w2 at *;generalize w1.heap.size=tb at *;have t3:w2.cell? ⟨tb,3,none⟩=some (.int .i64 pa):=(BT.out.cell 3);obtain⟨L,c,-,hb,-,-⟩:=H1.out;have r1:=(hb.cell 1);have g1:=hb.free 1;have hne:tb≠gr:=BT.out.ne hb (by decide);clear hb;have H3:=Hd (H1.out.set pa);have B3:=Hd (BT.out.far (p:=⟨gr,1,none⟩) hne (.int .i64 pa));have M3:Hid (MG gr w (w2.setCell ⟨gr,1,none⟩ (.int .i64 pa))):=Hd ((Mod.of_ext X2.out).tr (Mod.set (S:=fun k=>k=gr) (p:=⟨gr,1,none⟩) (Mod.rf _) (.inl rfl) _));go_upto_region 3 with(fail);clear t3 r1 g1 H1 BT X2;generalize w2.setCell ⟨gr,1,none⟩ (.int .i64 pa)=w3 at *;have k0:w3.cell? ⟨tb,0,none⟩=some (.int .i64 kd):=(B3.out.cell 0)
 by_cases h3:kd=3
 ·have e9:Hid (er=0):=Hd (by rw[<-her.out,if_pos h3])
  subst h3;go_wp2_with (fail);go_ret;rw[e9.out];exact⟨rfl,H3.out.ext XI,M3.out.ext XI⟩
 ·have e9:Hid (er=7):=Hd (by rw[<-her.out,if_neg h3])
  have e3:(kd==3)=false:=beq_eq_false_iff_ne.2 h3;have e4:(kd != 3)=true:=bne_iff_ne.2 h3;go_wp2_with (fail);go_ret;rw[e9.out];exact⟨rfl,H3.out.ext XI,M3.out.ext XI⟩
def ZW (x:Txt) : List Txt->Option Nat
 | []=>none
 | y::l=>if x=y then some 0 else(ZW x l).map (· + 1)
def Vr (t:Tok)(ns:List Txt) : Int×Int:=if t.kind=3 then(0,6) else if t.kind=1 then(match ZW t.text ns with | some k=>((k:Int),0) | none=>(0,3)) else(0,3)
theorem ZdF {x:Txt}{ns:List Txt}{k:Nat}{y:Txt}(h:ns[k]?=some y)(e:ZW x ns=(ZW x (ns.drop k)).map (· + k)) : ZW x ns=if x=y then some k else(ZW x (ns.drop (k+1))).map (· + (k+1)):=by
 have hlt:=(List.getElem?_eq_some_iff.1 h).1;have hy:ns[k]=y:=(List.getElem?_eq_some_iff.1 h).2;rw[e,List.drop_eq_getElem_cons hlt,hy,ZW];split
 ·simp
 ·cases ZW x (ns.drop (k+1)) with
  | none=>rfl
  | some j=>simp;omega
theorem ZdG {x:Txt}{ns:List Txt}{k:Nat}(hk:ns.length<=k)(e:ZW x ns=(ZW x (ns.drop k)).map (· + k)) : ZW x ns=none:=by
 rw[e,List.drop_eq_nil_of_le hk]
 rfl
def Zgj (gr:Nat)(t:Tok)(r:List Tok)(ns:List Txt)(w:World)(e:Ending)(w':World) : Prop:=e=.returned (.tuple #[.int .i64 (Vr t ns).1,.int .i64 (Vr t ns).2])/\RdT w' gr (if (Vr t ns).2=0 then r else t::r) t.at_/\MG gr w w'
theorem ZdH (gr:Nat)(t:Tok)(r:List Tok)(a:Int)(N:Option Addr)(cN:Nat)(ns:List Txt)(w:World)(H:RdT w gr (t::r) a)(HN:RdV w 9 N (txV ns))(hl:ns.length<=1000) :
  Calls Tryz.prog 76 #[.pointer (some ⟨gr,0,none⟩),.slice N ns.length cN] w (Zgj gr t r ns w):=by
 unfold Zgj;have NX:=Hd (fun(W:World) (X:Ext w W)=>Ug gr t r a W (H.ext X));have TK:=Hd (fun(W:World) (h:RdT W gr (t::r) t.at_)=>JB gr t r t.at_ W h);have HH:=Hd H;have HNN:=Hd HN;have hNg:Hid (∀ b,bl N=some b->ns≠[]->b≠gr):=Hd fun b hb hne e=>by
  obtain⟨L,c,-,hr,-,-⟩:=H;rcases HN with h0 | h0
  ·exact hne (by unfold txV at h0;simpa using h0)
  ·obtain⟨b2,off,cur,rfl,h1,h2⟩:=h0
   have:b2=b:=by simpa [bl] using hb
   subst this;subst e;have:=h1.symm.trans hr;simp at this
 obtain⟨q1,hq1⟩:∃ q,(Vr t ns).1=q:=⟨_,rfl⟩;obtain⟨q2,hq2⟩:∃ q,(Vr t ns).2=q:=⟨_,rfl⟩;rw[hq1,hq2];have NK:Hid (Vr t ns=(q1,q2)):=Hd (by rw[<-hq1,<-hq2]);have ST:Hid (∀ k y,ns[k]?=some y->ZW t.text ns=(ZW t.text (ns.drop k)).map (· + k)->ZW t.text ns=if t.text=y then some k else(ZW t.text (ns.drop (k+1))).map (· + (k+1))):=Hd fun k y h e=>ZdF h e
 have SN:Hid (∀ k,ns.length<=k->ZW t.text ns=(ZW t.text (ns.drop k)).map (· + k)->ZW t.text ns=none):=Hd fun k h e=>ZdG h e
 have S0:Hid (ZW t.text ns=(ZW t.text (ns.drop 0)).map (· + 0)):=Hd (by rw[List.drop_zero];cases ZW t.text ns<;>rfl);clear H hq1 hq2 HN;obtain⟨kd,tx,nm,pa⟩:=t;unfold Vr at NK;simp only at NX NK TK ST SN S0 ⊢;obtain⟨n,hn⟩:∃ n,Hid (ns.length=n):=⟨_,Hd rfl⟩;have lx:Hid ((txV ns).length=n):=Hd (by rw[Xt,hn.out]);rw[hn.out] at hl SN ⊢;go_enter Tryz.func76,Tryz.ntmps76;go_wp2_with (fail);refine(NX.out _ XI).mono ?_;rintro e w1 ⟨rfl,x1⟩;have X1:=Hd (Ext.tr (a:=w) XI x1);have H1:=Hd ((HH.out.ext X1.out).ext ((Ext.rf w1).alloc (.cells #[.int .i64 kd,.string ⟨tx.toArray⟩,.int .i64 nm,.int .i64 pa] 165)));have BT:Hid (Blk (w1.alloc (.cells #[.int .i64 kd,.string ⟨tx.toArray⟩,.int .i64 nm,.int .i64 pa] 165)) w1.heap.size 165 #[.int .i64 kd,.string ⟨tx.toArray⟩,.int .i64 nm,.int .i64 pa]):=Hd (.new rfl);have X2:=Hd (X1.out.alloc (.cells #[.int .i64 kd,.string ⟨tx.toArray⟩,.int .i64 nm,.int .i64 pa] 165));have N2:=Hd (HNN.out.ext X2.out);clear x1 NX X1 HH HNN;go_upto_region 2 with(fail);generalize w1.alloc (.cells #[.int .i64 kd,.string ⟨tx.toArray⟩,.int .i64 nm,.int .i64 pa] 165)=w2 at *;generalize w1.heap.size=tb at *;have t3:w2.cell? ⟨tb,3,none⟩=some (.int .i64 pa):=(BT.out.cell 3);obtain⟨L,c,-,hb,-,-⟩:=H1.out;have r1:=(hb.cell 1);have g1:=hb.free 1;have hne:tb≠gr:=BT.out.ne hb (by decide);clear hb;have H3:=Hd (H1.out.set pa);have B3:=Hd (BT.out.far (p:=⟨gr,1,none⟩) hne (.int .i64 pa));have M3:Hid (MG gr w (w2.setCell ⟨gr,1,none⟩ (.int .i64 pa))):=Hd ((Mod.of_ext X2.out).tr (Mod.set (S:=fun k=>k=gr) (p:=⟨gr,1,none⟩) (Mod.rf _) (.inl rfl) _));have N3:Hid (RdV (w2.setCell ⟨gr,1,none⟩ (.int .i64 pa)) 9 N (txV ns)):=Hd (by
  by_cases h0:ns=[]
  ·rw[h0];exact RdV.nil _ _ _
  ·exact N2.out.keep fun b hb=>Below.heap_setCell w2 _ _ b (hNg.out b hb h0))
 go_upto_region 3 with(fail);clear t3 r1 g1 H1 BT X2 N2 hNg;generalize w2.setCell ⟨gr,1,none⟩ (.int .i64 pa)=w3 at *;have k0:w3.cell? ⟨tb,0,none⟩=some (.int .i64 kd):=(B3.out.cell 0)
 by_cases h3:kd=3
 ·have e1:=NK.out
  rw[if_pos h3] at e1
  injection e1 with e1 e2
  subst e1;subst e2;subst h3;clear TK NK ST SN S0;go_wp2_with (fail);go_ret2;exact⟨rfl,H3.out.ext XI,M3.out.ext XI⟩
 ·have e3:(kd==3)=false:=beq_eq_false_iff_ne.2 h3
  have e1:=NK.out;rw[if_neg h3] at e1;have NK2:=Hd e1;clear NK e1 h3;go_wp2_with (fail);go_loopw [7,8,21] (fun _ _ u wr=>∃ k:Nat,u=.int .i64 (k:Int)/\k<=n/\Hid (kd=1->ZW tx ns=(ZW tx (ns.drop k)).map (· + k))/\Hid (Ext w3 wr)) (fun _ _ u _=>n-(intOf u).toNat)
  case atStart=>exact⟨0,rfl,by omega,Hd (fun _=>S0.out),Hd XI⟩
  case round =>
   clear k0 S0;obtain⟨k,rfl,hk,HW,Y⟩:=hrel;have Br:=Hd (B3.out.ext Y.out);have k0:wr.cell? ⟨tb,0,none⟩=some (.int .i64 kd):=(Br.out.cell 0);have k1:wr.cell? ⟨tb,1,none⟩=some (.string ⟨tx.toArray⟩):=(Br.out.cell 1)
   by_cases hlt:k<n
   ·have hlt2:(k:Int)<(n:Int):=by omega
    obtain⟨y,hy⟩:∃ y,ns[k]?=some y:=⟨_,List.getElem?_eq_getElem (by rw[hn.out];exact hlt)⟩;obtain⟨b,o,v,rfl,-,ca,ea⟩:=(N3.out.ext Y.out).at (j:=k) (by rw[lx.out];exact hlt);obtain rfl:v=txS y:=by have h:=ea.out;unfold txV at h;rw[List.getElem?_map,hy] at h;simpa using h.symm
    unfold txS at ca;have HW0:=fun(h:kd=1)=>ST.out k y hy (HW.out h)
    clear ea hy HW ST SN
    by_cases h1:kd=1
    ·have HW2:=HW0 h1
     clear HW0;rw[if_pos h1] at NK2;have q9:(kd==1)=true:=beq_iff_eq.2 h1
     by_cases hxy:tx=y
     ·rw[if_pos hxy] at HW2
      have e1:=NK2.out;rw[HW2] at e1;simp only at e1
      injection e1 with e1 e2
      subst e1;subst e2;subst hxy;clear HW2 NK2;subst h1;go_wp2_with (fail);refine(TK.out _ ((H3.out.ext Y.out).ext XI)).mono ?_;rintro e w4 ⟨rfl,r4,m4⟩;have R4:=Hd r4;have M4:=Hd ((M3.out.ext (Y.out.tr XI)).tr m4);clear TK k0 k1 ca r4 m4;go_wp2_with (fail);go_ret2;exact⟨rfl,R4.out.ext XI,M4.out.ext XI⟩
     ·rw[if_neg hxy] at HW2
      have e2:@BEq.beq (List UInt8) _ tx y=false:=beq_eq_false_iff_ne.2 hxy;replace HW2:=Hd HW2;subst h1;clear hxy;go_wp2_with (fail);go_roundw
      case rel=>exact⟨k+1,by go_num,by omega,Hd (fun _=>HW2.out),Hd (Y.out.tr XI)⟩
      case measure=>simp[intOf];omega
    ·have q9:(kd==1)=false:=beq_eq_false_iff_ne.2 h1
     clear HW0;have h1H:=Hd h1;clear h1;go_wp2_with (fail);go_roundw
     case rel=>exact⟨k+1,by go_num,by omega,Hd (fun h=>absurd h h1H.out),Hd (Y.out.tr XI)⟩
     case measure=>simp[intOf];omega
   ·have hlt2:¬(k:Int)<(n:Int):=by omega
    have e1:(0,3)=(q1,q2):=by
     have e:=NK2.out
     by_cases h1:kd=1
     ·rw[if_pos h1,SN.out k (by omega) (HW.out h1)] at e
      exact e
     ·rw[if_neg h1] at e
      exact e
    injection e1 with e1 e2
    subst e1;subst e2;clear NK2 ST SN HW TK k0 k1;go_wp2_with (fail);go_ret2;exact⟨rfl,(H3.out.ext Y.out).ext XI,M3.out.ext (Y.out.tr XI)⟩
theorem QR (k:Int)(w:World) : Calls Tryz.prog 77 #[.int .i64 k] w fun e w'=>e=.returned (.string (if k=1 then⟨#[75,78,65,80,83,65,67,75]⟩ else if k=2 then⟨#[65,83,83,73,71,78,77,69,78,84]⟩ else if k=3 then⟨#[84,83,80]⟩ else⟨#[]⟩))/\Ext w w':=by
 by_cases h1:k=1
 ·subst h1
  go_enter Tryz.func77,Tryz.ntmps77;go_wp2_with (fail);go_ret;exact⟨rfl,XI⟩
 by_cases h2:k=2
 ·subst h2
  go_enter Tryz.func77,Tryz.ntmps77;go_wp2_with (fail);go_ret;exact⟨rfl,XI⟩
 by_cases h3:k=3
 ·subst h3
  go_enter Tryz.func77,Tryz.ntmps77;go_wp2_with (fail);go_ret;exact⟨rfl,XI⟩
 ·rw[if_neg h1,if_neg h2,if_neg h3]
  have e1:(k==1)=false:=by simpa using h1
  have e2:(k==2)=false:=by simpa using h2
  have e3:(k==3)=false:=by simpa using h3
  clear h1 h2 h3;go_enter Tryz.func77,Tryz.ntmps77;go_wp2_with (fail);go_ret;exact⟨rfl,XI⟩
theorem ScanPost.yes {tk:List Tok}{n:Nat}{w w':World}{e:Ending}(h:ScanPost (tk,n,0) w e w') : Ext w w'/\∃ A c,e=.returned (.tuple #[.slice A tk.length c,.int .i64 0,.int .i64 0])/\OwV w' w.heap.size 165 4 A tk.length c (YS tk):=⟨h.1,by have:=h.2;rwa [if_pos rfl] at this⟩
theorem ScanPost.no {tk:List Tok}{n:Nat}{er:Int}{w w':World}{e:Ending}(h:ScanPost (tk,n,er) w e w')(he:er≠0) : Ext w w'/\e=.returned (.tuple #[.slice none 0 0,.int .i64 (n:Int),.int .i64 er]):=⟨h.1,by have:=h.2;rwa [if_neg he] at this⟩
theorem Zf4 {w:World}{D:Option Addr}{co:List (List Int)}(rok:RowsOk co)(hC:RdE 1 RInts w D co){r c:Nat}(hr:r<co.length)(hc:c<co.length) :
  ∃ cb cof rb ro d',D=some ⟨cb,cof,none⟩/\w.cell? ⟨cb,cof+r,none⟩=some (.slice (some ⟨rb,ro,none⟩) co.length d')/\w.cell? ⟨rb,ro+c,none⟩=some (.int .i64 (Xd co r c)):=by
 obtain⟨cb,cof,D',row,d',rfl,zb,cD,er,_,rD,iD,ld,md⟩:=hC.ints hr;have lrow:=rok.row row (List.mem_of_getElem? er.out);obtain⟨rb,ro,x,rfl,zx,cx,ex,_⟩:=rD.at (k:=c) (by omega);refine⟨cb,cof,rb,ro,d',rfl,by rw[cD,lrow],?_⟩;rw[cx];unfold Xd;rw[getD_some er.out,getD_some ex.out]
theorem Ze5 {rows:List (List Int)}(ok:RowsOk rows)(a b:Nat)(ha:a<rows.length)(hb:b<rows.length) : 0<=Xd rows a b/\Xd rows a b<=2147483647:=by
 have e1:rows[a]?=some rows[a]:=List.getElem?_eq_getElem ha;have e2:=ok.row _ (List.getElem_mem ha);have e3:(rows[a])[b]?=some (rows[a])[b]:=List.getElem?_eq_getElem (by omega);unfold Xd;rw[getD_some e1,getD_some e3];exact ok.num _ (List.getElem_mem ha) _ (List.getElem_mem _)
def orP (m:Nat) : List Nat->Nat
 | []=>m
 | x::l=>orP (m ||| 2^x) l
theorem JQ : ∀ (l:List Nat) (m j:Nat),(orP m l).testBit j=(m.testBit j || decide (j∈l))
 | [],m,j=>by simp[orP]
 | x::l,m,j=>by
  rw[orP,JQ l,Nat.testBit_or,Nat.testBit_two_pow]
  by_cases e:x=j
  ·subst e;simp
  ·have e':¬j=x:=fun h=>e h.symm
   simp[e,e']
theorem Za3 : ∀ (l:List Nat) (m x:Nat),orP m (l++[x])=orP m l ||| 2^x
 | [],m,x=>rfl
 | y::l,m,x=>by rw[List.cons_append,orP,Za3 l,orP]
theorem ZgK {l:List Nat}(h:∀ x∈l,x<64) : orP 0 l<18446744073709551616:=by
 refine Nat.lt_pow_two_of_testBit (n:=64) _ fun i hi=>?_
 rw[JQ];simp;intro hm;have:=h i hm;omega
theorem Ze6 {l:List Nat}{n:Nat}(h:l.Perm (List.range n)) : orP 0 l=2^n-1:=by
 refine Nat.eq_of_testBit_eq fun j=>?_
 rw[JQ,Nat.testBit_two_pow_sub_one];have:j∈l↔j<n:=by rw[h.mem_iff,List.mem_range]
 simp[this]
theorem Zf5 (x y:Int)(u:World) : (Op.equalIn 10000 374 (.agg #[.int .u64 x,.int .u64 0]) (.agg #[.int .u64 y,.int .u64 0])).run Tryz.prog u=.ok (x==y) u:=by
 unfold Op.equalIn;simp only[Sem.run_bind,run_underlying Tryz.underlying374,Result.andThen_ok];have e9:List.range' 0 2 1=[0,1]:=rfl;simp only[Std.Legacy.Range.forIn_eq_forIn_range',Std.Legacy.Range.size,Nat.sub_zero,Nat.add_one_sub_one,Nat.div_one,e9,List.forIn_cons,List.forIn_nil]
 by_cases hx:x=y
 ·subst hx
  go_simp
 ·have hx':(x==y)=false:=by simpa using hx
  go_simp
theorem ZdI (A:Option Addr)(c:Nat)(l:List Nat)(hl:∀ x∈l,x<64)(hn:l.length<=1000)(w:World)(hA:RdI w A (XL l)) :
  Calls Tryz.prog 276 #[.slice A l.length c] w fun e w'=>e=.returned (Yf (orP 0 l))/\Ext w w':=by
 have B0:Hid (Blk ((w.alloc (.cells #[.int .u64 0,.int .u64 0] 374)).alloc (.cells #[.int .u64 0,.int .u64 0] 374)) w.heap.size 374 #[.int .u64 0,.int .u64 0]):=Blk.alloc (.new rfl) _;have B1:Hid (Blk ((w.alloc (.cells #[.int .u64 0,.int .u64 0] 374)).alloc (.cells #[.int .u64 0,.int .u64 0] 374)) (w.heap.size+1) 374 #[.int .u64 ((orP 0 (l.take 0):Nat):Int),.int .u64 0]):=.new (by simp);have X0:Hid (Ext w ((w.alloc (.cells #[.int .u64 0,.int .u64 0] 374)).alloc (.cells #[.int .u64 0,.int .u64 0] 374))):=((Ext.rf w).alloc _).alloc _;have WI:=fun(m i:Nat) (h:m<18446744073709551616) (hi:i<64) (W:World)=>ZeY m i h hi W
 unfold Yf at WI ⊢;replace WI:=Hd WI;replace hA:=Hd hA;replace hl:=Hd hl;go_enter Tryz.func276,Tryz.ntmps276;go_wp2_with (fail);go_loopw [8] (fun i wr=>∃ k:Nat,i=.int .i64 k/\k<=l.length/\Hid (Blk wr (w.heap.size+1) 374 #[.int .u64 ((orP 0 (l.take k):Nat):Int),.int .u64 0])/\Hid (Blk wr w.heap.size 374 #[.int .u64 0,.int .u64 0])/\Hid (Ext w wr)) (fun i _=>l.length-(intOf i).toNat)
 case atStart=>exact⟨0,rfl,by omega,B1,B0,X0⟩
 case round =>
  clear B0 B1 X0;obtain⟨wo,rfl⟩:=Wq wr;obtain⟨k,rfl,hk,B1,B0,X0⟩:=hrel
  by_cases hlt:k<l.length
  ·obtain⟨b,off,x,rfl,zb,cx,ex,_⟩:=(hA.out.ext X0.out).at (k:=k) (by rw[V7];exact hlt)
   obtain⟨y,hy⟩:∃ y,Hid (l[k]?=some y):=⟨l[k],List.getElem?_eq_getElem hlt⟩;obtain rfl:x=(y:Int):=by
    have h1:=ex.out;simp only[XL,List.getElem?_map,hy.out,Option.map_some,Option.some.injEq] at h1;exact h1.symm
   have hy64:=hl.out y (List.mem_of_getElem? hy.out);have hm:=ZgK (l:=l.take k) (fun x hx=>hl.out x (List.mem_of_mem_take hx));have HS:orP 0 (l.take (k+1))=orP 0 (l.take k) ||| 2^y:=by
    rw[List.take_add_one,hy.out];exact Za3 _ _ _
   have HW:=Hd (WI.out (orP 0 (l.take k)) y hm hy64);rw[<-HS] at HW;clear HS hm hy64 ex;generalize orP 0 (l.take k)=m at *;obtain⟨m2,hm2⟩:∃ m2,Hid (orP 0 (l.take (k+1))=m2):=⟨_,rfl⟩;rw[hm2.out] at HW;have c0:=B1.out.c0;have c1:=B1.out.c1;have q1:(k:Int)<(l.length:Int):=by omega
   go_wp2_with (fail);refine(HW.out _).mono ?_;rintro e w1 ⟨rfl,x1⟩;have b1:=B1.out.ext x1;have d0:=b1.c0;have d1:=b1.c1;have f0:=b1.free 0;have f1:=b1.free 1;have B1':=Hd ((b1.set 0 (.int .u64 m2)).set 1 (.int .u64 0));have B0':=Hd (((B0.out.ext x1).far (p:=⟨w.heap.size+1,0,none⟩) (by simp) (.int .u64 m2)).far (p:=⟨w.heap.size+1,1,none⟩) (by simp) (.int .u64 0));have X1:=Hd (((X0.out.tr x1).setNew (p:=⟨w.heap.size+1,0,none⟩) (by simp) (.int .u64 m2)).setNew (p:=⟨w.heap.size+1,1,none⟩) (by simp) (.int .u64 0));clear b1 x1 B0 B1 X0 c0 c1;go_wp2_with (fail);go_roundw
   case rel=>exact⟨k+1,by go_num,by omega,by rw[hm2.out];exact B1',B0',X1⟩
   case measure=>simp[intOf];omega
  ·obtain rfl:k=l.length:=by omega
   rw[List.take_length] at B1;obtain⟨m,hm⟩:∃ m,Hid (orP 0 l=m):=⟨_,rfl⟩;rw[hm.out] at B1;have c0:=B1.out.c0;have c1:=B1.out.c1;have r0:=B0.out.c0;have r1:=B0.out.c1;have g0:=B0.out.free 0;have g1:=B0.out.free 1;go_wp2_with (fail);refine bodyPost_ret (v:=.agg #[.int .u64 m,.int .u64 0]) (by simp[results,Tryz.results276,go_sem, *]) rfl ⟨by rw[hm.out],?_⟩;exact(X0.out.setNew (p:=⟨w.heap.size,0,none⟩) (by simp) _).setNew (p:=⟨w.heap.size,1,none⟩) (by simp) _
theorem ZdJ (A:Option Addr)(c n:Nat)(l:List Nat)(hl:l.Perm (List.range n))(hn:n<64)(w:World)(hA:RdI w A (XL l)) :
  Calls Tryz.prog 226 #[.slice A n c,.int .i64 n] w fun e w'=>e=.returned (.bool true)/\Ext w w':=by
 have lk:l.length=n:=by rw[hl.length_eq,List.length_range]
 have OF:=fun(W:World) (x:Ext w W)=>ZdI A c l (fun x hx=>by have:=List.mem_range.1 (hl.mem_iff.1 hx);omega) (by omega) W (hA.ext x)
 have FU:=fun(W:World)=>Qv n hn W
 rw[Ze6 hl,lk] at OF;clear lk hl hA;unfold Yf at OF FU;generalize 2^n-1=m at *;have EQ:=fun u:World=>Zf5 (m:Int) (m:Int) u
 simp only[beq_self_eq_true] at EQ;have en:((n:Int)==(n:Int))=true:=by simp
 replace OF:=Hd OF;replace FU:=Hd FU;go_enter Tryz.func226,Tryz.ntmps226;go_wp2_with (fail);refine(OF.out _ XI).mono ?_;rintro e w1 ⟨rfl,x1⟩;go_wp2_with (fail);refine(FU.out _).mono ?_;rintro e w2 ⟨rfl,x2⟩;have X2:=Hd (Ext.tr (Ext.tr (a:=w) XI x1) x2);clear x1 x2;go_wp2_with (fail);go_ret;exact⟨rfl,X2.out⟩
def WQ (rows:List (List Int))(l:List Nat)(k:Nat) : Int:=Yi ((List.range k).map fun j=>Xd rows j (l.getD j 0))
theorem Zca (rows:List (List Int))(l:List Nat)(k:Nat) : WQ rows l (k+1)=WQ rows l k+Xd rows k (l.getD k 0):=by
 unfold WQ;rw[List.range_succ,List.map_append,Zar];simp[Yi]
theorem Zcb (i:InstP)(us:List Value)(P:Option Addr)(c:Nat)(l:List Nat)(w:World)(H:RInst w us i)(hc:ZQ i=0)(hk:i.kind=2)(hP:RdI w P (XL l))(hl:l.Perm (List.range i.cost.length)) :
  Calls Tryz.prog 160 #[.agg (List.toArray us),.slice P i.cost.length c] w fun e w'=>e=.returned (.tuple #[.int .i64 (Yv i.cost (XL l)),.int .i64 0])/\Ext w w':=by
 have sq:=XD hc (by omega);have rok:=JL sq;have CH:=fun(W:World) (x:Ext w W)=>Wb i us W (H.ext x) (by rw[sq.w];simp) (by rw[sq.v];simp)
 have lk:l.length=i.cost.length:=by rw[hl.length_eq,List.length_range]
 have OY:=fun(W:World) (x:Ext w W)=>ZdJ P c i.cost.length l hl (by have:=rok.n2;omega) W (hP.ext x)
 have CF:Hid (Yv i.cost (XL l)=WQ i.cost l i.cost.length):=Hd (by rw[Ut lk.symm,lk];rfl);have hln:=sq.len;rw[hc] at CH;obtain⟨kind,nn,cap,xw,xv,co⟩:=i;obtain⟨A,a,B,b,D,d,rfl,-,-,hC,-⟩:=H;simp only at *;subst hk;have n1:=rok.n1;have n2:=rok.n2;obtain⟨n,hn⟩:∃ n,co.length=n:=⟨_,rfl⟩;rw[hn] at CH OY CF lk hln hl n1 n2 ⊢;have lt:∀ k,k<n->l.getD k 0<n:=fun k hk=>by
  have h1:l[k]?=some (l[k]'(by omega)):=List.getElem?_eq_getElem _;rw[getD_some h1];exact List.mem_range.1 (hl.mem_iff.1 (List.getElem_mem _))
 have CA:=fun(W:World) (x:Ext w W) (r c:Nat) (hr:r<n) (hc:c<n)=>Zf4 rok (hC.ext x fun _ _ h=>h.ext x) (r:=r) (c:=c) (by omega) (by omega)
 rw[hn] at CA;have EB:=fun r c (hr:r<n) (hc:c<n)=>Ze5 rok r c (by omega) (by omega)
 have B1:Hid (Blk (w.alloc (.cells #[.int .i64 2,.int .i64 nn,.int .i64 cap,.slice A xw.length a,.slice B xv.length b,.slice D n d] 74)) w.heap.size 74 #[.int .i64 2,.int .i64 nn,.int .i64 cap,.slice A xw.length a,.slice B xv.length b,.slice D n d]):=.new rfl;subst hln;replace CH:=Hd CH;replace OY:=Hd OY;replace CA:=Hd CA;replace EB:=Hd EB;replace hP:=Hd hP;replace lk:=Hd lk;replace lt:=Hd lt;replace hn:=Hd hn;clear hc hl hC rok sq;go_enter Tryz.func160,Tryz.ntmps160;go_wp2_with (fail);refine(CH.out _ XI).mono ?_;rintro e w1 ⟨rfl,x1⟩;have X1:=Hd (Ext.tr (a:=w) XI x1);have b1:=Hd (B1.out.ext x1);have t0:=b1.out.c0;have t1:=b1.out.c1;clear x1 B1;go_wp2_with (fail);refine(OY.out _ (X1.out.tr XI)).mono ?_;rintro e w2 ⟨rfl,x2⟩;have X2:=Hd (X1.out.tr (Ext.tr XI x2));have b2:=Hd (b1.out.ext (Ext.tr XI x2));have s0:=b2.out.c0;clear x2 b1 X1 t0 t1;go_wp2_with (fail);go_loopw [7,44] (fun sv i wr=>∃ k:Nat,i=.int .i64 k/\sv=.int .i64 (WQ co l k)/\k<=n/\Hid (0<=WQ co l k/\WQ co l k<=k*2147483647)/\Hid (Ext w2 wr)) (fun _ i _=>n-(intOf i).toNat)
 case atStart=>exact⟨0,rfl,rfl,by omega,⟨Int.le_refl _,by simp[WQ,Yi]⟩,Ext.rf _⟩
 case round =>
  clear s0;obtain⟨wo,rfl⟩:=Wq wr;obtain⟨k,rfl,rfl,hk,BD,X3⟩:=hrel
  by_cases hlt:k<n
  ·obtain⟨y,hy⟩:∃ y,Hid (l.getD k 0=y):=⟨_,rfl⟩
   have yn:y<n:=by rw[<-hy.out];exact lt.out k hlt
   obtain⟨pb,po,x,rfl,zp,cp,ex,_⟩:=((hP.out.ext X2.out).ext X3.out).at (k:=k) (by rw[V7,lk.out];exact hlt);obtain rfl:x=(y:Int):=by
    have h1:=ex.out;have h2:l[k]?=some (l[k]'(by rw[lk.out];exact hlt)):=List.getElem?_eq_getElem _;have h3:=hy.out;rw[getD_some h2] at h3;simp only[XL,List.getElem?_map,h2,Option.map_some,Option.some.injEq,h3] at h1;exact h1.symm
   obtain⟨cb,cof,rb,ro,d',rfl,k1,k2⟩:=CA.out wo (X2.out.tr X3.out) k y hlt yn;have eb:=EB.out k y hlt yn;have HK:Hid (WQ co l (k+1)=WQ co l k+Xd co k y):=Hd (by rw[Zca,hy.out]);have b3:=b2.out.ext X3.out;have s0:=b3.c0;have s5:=b3.c5;obtain⟨b0,b1⟩:=BD.out;generalize WQ co l k=su at *;generalize Xd co k y=cv at *;have wv:IntKind.i64.wrap (su+cv)=su+cv:=IntWalk.i64_in _ (by omega);have q1:(k:Int)<(n:Int):=by omega
   have q2:(y:Int)<(n:Int):=by omega
   have bd2:0<=su+cv/\su+cv<=((k+1:Nat):Int)*2147483647:=by omega
   replace bd2:=Hd bd2;clear b0 b1 eb BD b3 ex;go_wp2_with (fail);go_roundw
   case rel=>exact⟨k+1,by go_num,by rw[HK.out],by omega,by rw[HK.out];exact bd2,X3.out.tr XI⟩
   case measure=>simp[intOf];omega
  ·obtain rfl:k=n:=by omega
   go_wp2_with (fail);go_ret2;exact⟨by rw[CF.out];rfl,X2.out.tr X3.out⟩
def Vs (cap v:Int) : InstP:=⟨2,1,cap,[],[],[[v]]⟩
theorem Zcc (R B:Nat)(ro bo rc bc:Nat)(v:Int)(w:World)(hR:w.cell? ⟨R,ro,none⟩=some (.int .i64 v))(hB:w.cell? ⟨B,bo,none⟩=some (.bool false)) :
  Calls Tryz.prog 274 #[.slice (some ⟨R,ro,none⟩) 1 rc,.slice (some ⟨B,bo,none⟩) 1 bc] w fun e w'=>e=.returned (.int .i64 0)/\Ext w w':=by
 have hR0:w.cell? ⟨R,ro+0,none⟩=some (.int .i64 v):=hR;have hB0:w.cell? ⟨B,bo+0,none⟩=some (.bool false):=hB;go_enter Tryz.func274,Tryz.ntmps274;go_wp2_with (go_quiet (fail));refine wp_loop_rounds 2 ?_;rw[rounds_succ];go_wp2_with (go_quiet (fail));rw[rounds_succ];go_wp2_with (go_quiet (fail));go_ret;exact⟨rfl,XI⟩
theorem ZdK (cap v:Int)(A B:Option Addr)(a b cb cof rb ro:Nat)(d d':Nat)(w:World)(hc:w.cell? ⟨cb,cof,none⟩=some (.slice (some ⟨rb,ro,none⟩) 1 d'))(hr:w.cell? ⟨rb,ro,none⟩=some (.int .i64 v)) :
  Calls Tryz.prog 223 #[.agg #[.int .i64 2,.int .i64 1,.int .i64 cap,.slice A 0 a,.slice B 0 b,.slice (some ⟨cb,cof,none⟩) 1 d]] w fun e w'=>(∃ X k,e=.returned (.slice X 1 k)/\OwI w' w.heap.size X k [0])/\Ext w w':=by
 have zc:cb<w.heap.size:=World.block_lt_of_cell? w _ hc;have zr:rb<w.heap.size:=World.block_lt_of_cell? w _ hr;have mk1:∀ u:World,(Instr.makeSlice 371 (.int .i64 1) (.int .i64 1)).run Tryz.prog u=.ok (.slice (some ⟨u.heap.size,0,none⟩) 1 1) (u.alloc (.cells #[.bool false] 4)):=fun u=>by kernel_rfl
 have XA:Ext w ((w.alloc (.cells #[.int .i64 2,.int .i64 1,.int .i64 cap,.slice A 0 a,.slice B 0 b,.slice (some ⟨cb,cof,none⟩) 1 d] 74)).alloc (.cells #[.bool false] 4)):=((Ext.rf w).alloc _).alloc _;have B0:Hid (Blk ((w.alloc (.cells #[.int .i64 2,.int .i64 1,.int .i64 cap,.slice A 0 a,.slice B 0 b,.slice (some ⟨cb,cof,none⟩) 1 d] 74)).alloc (.cells #[.bool false] 4)) w.heap.size 74 #[.int .i64 2,.int .i64 1,.int .i64 cap,.slice A 0 a,.slice B 0 b,.slice (some ⟨cb,cof,none⟩) 1 d]):=Hd (.alloc (.new rfl) _);have U0:Hid (Blk ((w.alloc (.cells #[.int .i64 2,.int .i64 1,.int .i64 cap,.slice A 0 a,.slice B 0 b,.slice (some ⟨cb,cof,none⟩) 1 d] 74)).alloc (.cells #[.bool false] 4)) (w.heap.size+1) 4 #[.bool false]):=Hd (.new (by simp));replace XA:=Hd XA;go_enter Tryz.func223,Tryz.ntmps223;go_upto_region 3 with(go_quiet (fail));generalize (w.alloc (.cells #[.int .i64 2,.int .i64 1,.int .i64 cap,.slice A 0 a,.slice B 0 b,.slice (some ⟨cb,cof,none⟩) 1 d] 74)).alloc (.cells #[.bool false] 4)=w0 at *;generalize hgI:w.heap.size=gI at *;have i0:w0.cell? ⟨gI,0,none⟩=some (.int .i64 2):=(B0.out.cell 0);have i1:w0.cell? ⟨gI,1,none⟩=some (.int .i64 1):=(B0.out.cell 1);have i5:w0.cell? ⟨gI,5,none⟩=some (.slice (some ⟨cb,cof,none⟩) 1 d):=(B0.out.cell 5);have hc0:w0.cell? ⟨cb,cof+0,none⟩=some (.slice (some ⟨rb,ro,none⟩) 1 d'):=Zb XA.out (by omega) hc;have hc1:w0.cell? ⟨cb,cof,none⟩=some (.slice (some ⟨rb,ro,none⟩) 1 d'):=hc0;have hr0:w0.cell? ⟨rb,ro,none⟩=some (.int .i64 v):=Zb XA.out (by omega) hr;have u0:w0.cell? ⟨gI+1,0,none⟩=some (.bool false):=(U0.out.cell 0);have CH:=Hd (fun(W:World) (X:Ext w0 W)=>Zcc rb (gI+1) ro 0 d' 1 v W (Zb X (Nat.lt_of_lt_of_le (show rb<w.heap.size by omega) XA.out.size) hr0) (Zb X U0.out.lt u0));clear hc hr;go_wp2_with (go_quiet (fail));refine wp_loop_rounds 2 ?_;rw[rounds_succ];go_wp2_with (go_quiet (fail));refine(CH.out _ XI).mono ?_;rintro e w1 ⟨rfl,x1⟩;have X1:=Hd (Ext.tr (a:=w0) XI x1);have U1:=Hd (U0.out.ext X1.out);have B1:=Hd (B0.out.ext X1.out);have b0:w1.cell? ⟨gI+1,0,none⟩=some (.bool false):=(U1.out.cell 0);have b1:=U1.out.free 0;clear CH x1 u0 i0 i1 i5 hc0 hc1 hr0 U0 B0;have zI:gI+1<w1.heap.size:=U1.out.lt;go_upto_region 12 with(go_quiet (fail));have D2:Mod (fun k=>k=gI+1) w1 (w1.setCell ⟨gI+1,0,none⟩ (.bool true)):=Mod.set (S:=fun k=>k=gI+1) (p:=⟨gI+1,0,none⟩) (Mod.rf _) (.inl rfl) _;have X2:=Hd (Ext.mod (XA.out.tr X1.out) D2 (fun k hk e=>by omega));have i1:(w1.setCell ⟨gI+1,0,none⟩ (.bool true)).cell? ⟨gI,1,none⟩=some (.int .i64 1):=(B1.out.mod D2 (by omega)).cell 1;clear b0 b1 D2 U1 B1;generalize w1.setCell ⟨gI+1,0,none⟩ (.bool true)=w2 at *;have z2:=X2.out.size;have zg:gI<w2.heap.size:=World.block_lt_of_cell? w2 _ i1;go_wp2_with (at_builtin;refine Yn _ rfl _ _ rfl gI none 0 0 [] [0] (some ⟨w2.heap.size,0,none⟩) 1 rfl rfl rfl (OwI.nil _ _) (RdI.blk (Blk.new (by simp)) rfl) (by decide) (by simp;omega) ?_;rintro A3 c3 w3 o3 g3 _;have X3:=Hd ((X2.out.alloc (.cells #[.int .i64 0] 3)).grow g3 (by intro k hk;cases hk));have i1:w3.cell? ⟨gI,1,none⟩=some (.int .i64 1):=Zb (((Ext.rf w2).alloc (.cells #[.int .i64 0] 3)).grow g3 (by intro k hk;cases hk)) zg i1;replace o3:=Hd o3;clear g3);rw[rounds_succ];go_wp2_with (go_quiet (fail));go_ret;exact⟨⟨A3,c3,rfl,by rw[hgI];exact o3.out.ext XI⟩,X3.out.tr XI⟩
theorem ZgL (cap v:Int)(us:List Value)(w:World)(H:RInst w us (Vs cap v)) : ∃ A a B b cb cof d rb ro d',us=[.int .i64 2,.int .i64 1,.int .i64 cap,.slice A 0 a,.slice B 0 b,.slice (some ⟨cb,cof,none⟩) 1 d]/\w.cell? ⟨cb,cof,none⟩=some (.slice (some ⟨rb,ro,none⟩) 1 d')/\w.cell? ⟨rb,ro,none⟩=some (.int .i64 v):=by
 obtain⟨A,a,B,b,C,c,rfl,-,-,⟨hC,-⟩⟩:=H;obtain⟨cb,cof,D',row,d',rfl,zb,cD,er,_,rD,iD,ld,md⟩:=hC.ints (show 0<(Vs cap v).cost.length from Nat.zero_lt_one);have er':row=[v]:=by have:=er.out;simpa [Vs] using this.symm
 subst er';obtain⟨rb,ro,x,rfl,zx,cx,ex,_⟩:=rD.at (k:=0) (by simp);refine⟨A,a,B,b,cb,cof,c,rb,ro,d',rfl,by simpa using cD,?_⟩;have:x=v:=by have:=ex.out;simpa using this.symm
 subst this
 simpa using cx
theorem Zcd (cap v:Int)(us:List Value)(w:World)(H:RInst w us (Vs cap v))(hc:ZQ (Vs cap v)=0) :
  Calls Tryz.prog 158 #[.agg (List.toArray us)] w fun e w'=>(∃ X k,e=.returned (.tuple #[.slice X 1 k,.int .i64 0])/\OwI w' w.heap.size X k [0])/\Ext w w':=by
 have CK:=Hd (fun(W:World) (X:Ext w W)=>hc ▸ Wb (Vs cap v) us W (H.ext X) (show ([]:List Int).length<=1000000000 by decide) (show ([]:List Int).length<=1000000000 by decide));obtain⟨A,a,B,b,cb,cof,d,rb,ro,d',rfl,h1,h2⟩:=ZgL cap v us w H;have RW:=Hd (fun(W:World) (X:Ext w W)=>ZdK cap v A B a b cb cof rb ro d d' W (Zb X (World.block_lt_of_cell? w _ h1) h1) (Zb X (World.block_lt_of_cell? w _ h2) h2));clear h1 h2 H;have B0:Hid (Blk (w.alloc (.cells #[.int .i64 2,.int .i64 1,.int .i64 cap,.slice A 0 a,.slice B 0 b,.slice (some ⟨cb,cof,none⟩) 1 d] 74)) w.heap.size 74 #[.int .i64 2,.int .i64 1,.int .i64 cap,.slice A 0 a,.slice B 0 b,.slice (some ⟨cb,cof,none⟩) 1 d]):=Hd (.new rfl);go_enter Tryz.func158,Tryz.ntmps158;go_wp2_with (go_quiet (fail));refine(CK.out _ XI).mono ?_;rintro e w1 ⟨rfl,x1⟩;have X1:=Hd (Ext.tr (a:=w) XI x1);have B1:=B0.out.ext (w':=w1) x1;have i0:=(B1.cell 0);have i1:=(B1.cell 1);have i2:=(B1.cell 2);have i3:=(B1.cell 3);have i4:=(B1.cell 4);have i5:=(B1.cell 5);simp at i0 i1 i2 i3 i4 i5;clear x1 CK B0 B1;go_wp2_with (go_quiet (fail));refine(RW.out _ (X1.out.tr XI)).mono ?_;rintro e w2 ⟨⟨X,k,rfl,o2⟩,x2⟩;have X2:=Hd (X1.out.tr (Ext.tr (a:=w1) XI x2));have O2:Hid (OwI w2 w.heap.size X k [0]):=Hd (o2.more (by have:=X1.out.size;simpa using this));clear RW x2 o2;go_wp2_with (go_quiet (fail));go_ret2;exact⟨⟨X,k,rfl,O2.out.ext XI⟩,X2.out.tr XI⟩
theorem Zce (g:Nat)(cap cost:Int)(v3 v4 v5 x:Value)(w:World)(hb:Blk w g 332 #[.int .i64 2,.int .i64 1,.int .i64 cap,v3,v4,v5,x,.int .i64 cost]) :
  Calls Tryz.prog 224 #[.pointer (some ⟨g,0,none⟩)] w fun e w'=>e=.returned (.bool false)/\Ext w w':=by
 have c0:w.cell? ⟨g,0,none⟩=some (.int .i64 2):=(hb.cell 0);have c1:w.cell? ⟨g,1,none⟩=some (.int .i64 1):=(hb.cell 1);go_enter Tryz.func224,Tryz.ntmps224;go_wp2_with (go_quiet (fail));refine wp_loop_rounds 2 ?_;rw[rounds_succ];go_wp2_with (go_quiet (fail));refine wp_loop_rounds 1 ?_;rw[rounds_succ];go_wp2_with (go_quiet (fail));rw[rounds_succ];go_wp2_with (go_quiet (fail));go_ret;exact⟨rfl,XI⟩
theorem JC (cap v:Int)(us:List Value)(X:Option Addr)(k:Nat)(w:World)(H:RInst w us (Vs cap v))(hc:ZQ (Vs cap v)=0)(hX:RdI w X [0]) :
  Calls Tryz.prog 160 #[.agg (List.toArray us),.slice X 1 k] w fun e w'=>e=.returned (.tuple #[.int .i64 v,.int .i64 0])/\Ext w w':=by
 have h:=Zcb (Vs cap v) us X k [0] w H hc rfl hX (List.Perm.refl _);have e:Yv (Vs cap v).cost (XL [0])=v:=by simp[Vs,Yv,XL]
 rw[e] at h;exact h
def CloW (xs:List Int)(v:Value)(w:World) : Prop:=∃ Y c,v=.slice Y xs.length c/\RdI w Y xs
theorem CloW.ext (xs:List Int) : ∀ v W W',CloW xs v W->Ext W W'->CloW xs v W':=fun v W W' h x=>by
 obtain⟨Y,c,h1,h2⟩:=h;exact⟨Y,c,h1,h2.ext x⟩
theorem Ze7 (A:Option Addr)(c:Nat)(xs:List Int)(w:World)(hx:RdI w A xs)(hl:xs.length<=2^44) :
  Calls Tryz.prog 52 #[.slice A xs.length c] w fun e w'=>(∃ v,e=.returned v/\CloW xs v w')/\Ext w w':=by
 refine(ZO A c xs w hx hl).mono ?_;rintro e w' ⟨Y,d,rfl,h2,h3⟩;exact⟨⟨_,rfl,Y,d,rfl,h2.read⟩,h3⟩
theorem Za4 (cap v:Int)(us:List Value)(X:Option Addr)(k:Nat)(w:World)(H:RInst w us (Vs cap v))(hc:ZQ (Vs cap v)=0)(hX:RdI w X [0]) :
  Calls Tryz.prog 159 #[.agg (List.toArray us),.slice X 1 k] w fun e w'=>(∃ X k,e=.returned (.tuple #[.slice X 1 k,.int .i64 0])/\RdI w' X [0])/\Ext w w':=by
 have CO:=Hd (fun(W:World) (Y:Ext w W)=>JC cap v us X k W (H.ext Y) hc (hX.ext Y));have CL:=Hd (fun(W:World) (Y:Ext w W)=>Ze7 X k [0] W (hX.ext Y) (by simp));obtain⟨A,a,B,b,cb,cof,d,rb,ro,d',rfl,h1,h2⟩:=ZgL cap v us w H;clear h1 h2 H;have B0:Hid (Blk (w.alloc (.cells #[.int .i64 2,.int .i64 1,.int .i64 cap,.slice A 0 a,.slice B 0 b,.slice (some ⟨cb,cof,none⟩) 1 d] 74)) w.heap.size 74 #[.int .i64 2,.int .i64 1,.int .i64 cap,.slice A 0 a,.slice B 0 b,.slice (some ⟨cb,cof,none⟩) 1 d]):=Hd (.new rfl);go_enter Tryz.func159,Tryz.ntmps159;go_wp2_with (go_quiet (fail));refine(CO.out _ XI).mono ?_;rintro e w1 ⟨rfl,x1⟩;have X1:=Hd (Ext.tr (a:=w) XI x1);have B1:=Hd (B0.out.ext (w':=w1) x1);generalize hgI:w.heap.size=gI at *;clear x1 CO B0;go_upto_region 4 with(go_quiet (fail));refine wp_region_any (by kernel_rfl) ?_
 change wpAny _ _ _ _ _ _ _ (World.drew _)
 refine Za 1 (.move (.tmp 1)) 22 (some 20) rfl (by kernel_rfl) Hq (by intro _;go_simp;try rfl) ?_;simp only[lay];refine Za 3 (.move (.tmp 6)) 3 (some 22) rfl (by kernel_rfl) Hq (by intro _;go_simp;try rfl) ?_;simp only[lay];have rI:Hid (∀ W,Ext w1 W->W.cell? ⟨gI,0,none⟩=some (.int .i64 2)/\W.cell? ⟨gI,1,none⟩=some (.int .i64 1)/\W.cell? ⟨gI,2,none⟩=some (.int .i64 cap)/\W.cell? ⟨gI,3,none⟩=some (.slice A 0 a)/\W.cell? ⟨gI,4,none⟩=some (.slice B 0 b)/\W.cell? ⟨gI,5,none⟩=some (.slice (some ⟨cb,cof,none⟩) 1 d)):=Hd fun W Y=>⟨(B1.out.ext Y).cell 0,(B1.out.ext Y).cell 1,(B1.out.ext Y).cell 2,(B1.out.ext Y).cell 3,(B1.out.ext Y).cell 4,(B1.out.ext Y).cell 5⟩
 refine Zh (n:=3) [(0,some 19),(2,some 21)] (Ext w1) (VF (fun | 0=>some (.agg #[.int .i64 2,.int .i64 1,.int .i64 cap,.slice A 0 a,.slice B 0 b,.slice (some ⟨cb,cof,none⟩) 1 d]) | _=>none) (fun i v W=>(i=2->(CloW [0]) v W))) Ext #[true,true,true,true,false,false,false] (by decide +kernel) (VF.stab ?_) ?_ ?_ (by first | exact(Ext.rf _).drew | exact Ext.rf _)
 ·intro j v W W' _ gz hx
  have g0:=gz;exact fun h=>(CloW.ext [0]) _ _ _ (g0 h) hx
 ·intro pS hpm uS wS hRW hD K hK
  simp only[List.mem_cons,List.not_mem_nil,or_false] at hpm;rcases hpm with rfl | rfl
  ·( have rX:=rI.out _ hRW;exact Ze (T:=74) (x:=Operand.tmp 2) (t:=74) (d:=some 19) rfl (.pointer (some ⟨gI,0,none⟩)) (by kernel_rfl) (.agg #[.int .i64 2,.int .i64 1,.int .i64 cap,.slice A 0 a,.slice B 0 b,.slice (some ⟨cb,cof,none⟩) 1 d]) (by go_simp) (hK _ _ (VF.mk rfl) hRW (Ext.rf _)))
  ·( exact Zi (f:=52) (xs:=#[Operand.tmp 20]) (ts:=#[22]) (t:=22) (d:=some 21) rfl #[.slice X 1 k] (by go_simp) (by kernel_rfl) _ (CL.out _ (X1.out.tr hRW)) (by rintro e w9 ⟨⟨v9,rfl,pv⟩,xx⟩;exact⟨_,rfl,hK _ _ (VF.mg rfl (fun _=>pv)) (hRW.tr xx) xx⟩))
 intro u w2 hR2 hV;have h0:=(hV (0,some 19) (by simp)).k rfl;obtain⟨Y,c,h2,rY⟩:=((hV (2,some 21) (by simp)).g rfl) rfl;simp only[Zc,h0,h2];clear hV h0 h2
 try simp only[lay]
 replace rY:=Hd rY;have X2:=Hd (X1.out.tr hR2);clear rI CL hR2;refine Za 4 (.build 332 #[(0,.tmp 19),(1,.tmp 21),(2,.tmp 22)]) 332 (some 23) rfl (by kernel_rfl) Hq (by intro _;go_simp;try rfl) ?_;simp only[lay];refine Zd 5 (by decide +kernel) (Zl (op:=Op.box 332 (Operand.tmp 23)) (t:=330) (d:=some 24) rfl _ (by unfold Zj;go_simp;first | rfl | exact⟨rfl,rfl⟩) ?_)
 try simp only[lay]
 refine Za 6 (.assign (.tmp 24)) 330 (some 8) rfl (by kernel_rfl) Hq (by intro _;go_simp;try rfl) ?_;simp only[lay];refine wpAny_done (by kernel_rfl) ?_ _;go_simp;have B3:Hid (Blk (w2.alloc (.cells #[.int .i64 2,.int .i64 1,.int .i64 cap,.slice A 0 a,.slice B 0 b,.slice (some ⟨cb,cof,none⟩) 1 d,.slice Y 1 c,.int .i64 v] 332)) w2.heap.size 332 #[.int .i64 2,.int .i64 1,.int .i64 cap,.slice A 0 a,.slice B 0 b,.slice (some ⟨cb,cof,none⟩) 1 d,.slice Y 1 c,.int .i64 v]):=Hd (.new rfl);have X3:=Hd (X2.out.alloc (.cells #[.int .i64 2,.int .i64 1,.int .i64 cap,.slice A 0 a,.slice B 0 b,.slice (some ⟨cb,cof,none⟩) 1 d,.slice Y 1 c,.int .i64 v] 332));have rY3:=Hd (rY.out.ext ((Ext.rf w2).alloc (.cells #[.int .i64 2,.int .i64 1,.int .i64 cap,.slice A 0 a,.slice B 0 b,.slice (some ⟨cb,cof,none⟩) 1 d,.slice Y 1 c,.int .i64 v] 332)));clear X2 rY B1 X1;generalize w2.alloc (.cells #[.int .i64 2,.int .i64 1,.int .i64 cap,.slice A 0 a,.slice B 0 b,.slice (some ⟨cb,cof,none⟩) 1 d,.slice Y 1 c,.int .i64 v] 332)=w3 at *;generalize w2.heap.size=gs at *;have RO:=Hd (fun(W:World) (Z:Ext w3 W)=>Zce gs cap v _ _ _ _ W (B3.out.ext Z));have c6:w3.cell? ⟨gs,6,none⟩=some (.slice Y 1 c):=(B3.out.cell 6);go_wp2_with (go_quiet (fail));refine wp_loop_rounds 1 ?_;rw[rounds_succ];go_wp2_with (go_quiet (fail));refine(RO.out _ XI).mono ?_;rintro e w4 ⟨rfl,x4⟩;have X4:=Hd (Ext.tr (a:=w3) XI x4);have c6:w4.cell? ⟨gs,6,none⟩=some (.slice Y 1 c):=(B3.out.ext X4.out).cell 6;have rY4:=Hd (rY3.out.ext X4.out);have X5:=Hd (X3.out.tr X4.out);clear RO x4 B3 X3 rY3 X4;go_wp2_with (go_quiet (fail));go_ret2;exact⟨⟨Y,c,rfl,rY4.out.ext XI⟩,X5.out.tr XI⟩
theorem Zcf (cap v:Int)(us:List Value)(w:World)(H:RInst w us (Vs cap v))(hc:ZQ (Vs cap v)=0) :
  Calls Tryz.prog 91 #[.agg (List.toArray us)] w fun e w'=>(∃ X k,e=.returned (.tuple #[.slice X 1 k,.int .i64 v,.int .i64 0])/\RdI w' X [0])/\Ext w w':=by
 have FI:=Hd (fun(W:World) (Y:Ext w W)=>Zcd cap v us W (H.ext Y) hc);have BE:=Hd (fun(W:World) (Y:Ext w W) (X:Option Addr) (k:Nat) (h:RdI W X [0])=>Za4 cap v us X k W (H.ext Y) hc h);have CO:=Hd (fun(W:World) (Y:Ext w W) (X:Option Addr) (k:Nat) (h:RdI W X [0])=>JC cap v us X k W (H.ext Y) hc h);obtain⟨A,a,B,b,cb,cof,d,rb,ro,d',rfl,h1,h2⟩:=ZgL cap v us w H;clear h1 h2 H;have B0:Hid (Blk (w.alloc (.cells #[.int .i64 2,.int .i64 1,.int .i64 cap,.slice A 0 a,.slice B 0 b,.slice (some ⟨cb,cof,none⟩) 1 d] 74)) w.heap.size 74 #[.int .i64 2,.int .i64 1,.int .i64 cap,.slice A 0 a,.slice B 0 b,.slice (some ⟨cb,cof,none⟩) 1 d]):=Hd (.new rfl);go_enter Tryz.func91,Tryz.ntmps91;go_wp2_with (go_quiet (fail));refine(FI.out _ XI).mono ?_;rintro e w1 ⟨⟨X,k,rfl,o1⟩,x1⟩;have X1:=Hd (Ext.tr (a:=w) XI x1);have B1:=Hd (B0.out.ext (w':=w1) x1);have r1:=Hd o1.read;generalize hgI:w.heap.size=gI at *;have i0:=(B1.out.cell 0);have i1:=(B1.out.cell 1);have i2:=(B1.out.cell 2);have i3:=(B1.out.cell 3);have i4:=(B1.out.cell 4);have i5:=(B1.out.cell 5);simp at i0 i1 i2 i3 i4 i5;clear x1 FI B0 o1;go_wp2_with (go_quiet (fail));refine(BE.out _ (X1.out.tr XI) X k (r1.out.ext XI)).mono ?_;rintro e w2 ⟨⟨Y,c,rfl,r2⟩,x2⟩;have x2':=Ext.tr (a:=w1) XI x2;have X2:=Hd (X1.out.tr x2');have B2:=Hd (B1.out.ext x2');replace r2:=Hd r2;clear i0 i1 i2 i3 i4 i5 x2 x2' BE r1 B1 X1;have i0:=(B2.out.cell 0);have i1:=(B2.out.cell 1);have i2:=(B2.out.cell 2);have i3:=(B2.out.cell 3);have i4:=(B2.out.cell 4);have i5:=(B2.out.cell 5);simp at i0 i1 i2 i3 i4 i5;go_wp2_with (go_quiet (fail));refine(CO.out _ (X2.out.tr XI) Y c (r2.out.ext XI)).mono ?_;rintro e w3 ⟨rfl,x3⟩;have x3':=Ext.tr (a:=w2) XI x3;have X3:=Hd (X2.out.tr x3');have r3:=Hd (r2.out.ext x3');clear i0 i1 i2 i3 i4 i5 x3 x3' CO r2 B2 X2;go_wp2_with (go_quiet (fail));exact bodyPost_ret (v:=.tuple #[.slice Y 1 c,.int .i64 v,.int .i64 0]) (by simp[results,Tryz.results91,go_sem]) rfl ⟨⟨Y,c,rfl,r3.out.ext XI⟩,X3.out.tr XI⟩
def Za5 (W:World)(g:Nat)(a0 a1 a2 a3 a4 a5:Value) : World:=((((((W.setCell ⟨g,0,none⟩ a0).setCell ⟨g,1,none⟩ a1).setCell ⟨g,2,none⟩ a2).setCell ⟨g,3,none⟩ a3).setCell ⟨g,4,none⟩ a4).setCell ⟨g,5,none⟩ a5)
theorem Zf6 {W:World}{g:Nat}{t:TypeId}{o0 o1 o2 o3 o4 o5:Value}(h:Blk W g t #[o0,o1,o2,o3,o4,o5])(a0 a1 a2 a3 a4 a5:Value) : Blk (Za5 W g a0 a1 a2 a3 a4 a5) g t #[a0,a1,a2,a3,a4,a5] :=
 (((((h.set 0 a0).set 1 a1).set 2 a2).set 3 a3).set 4 a4).set 5 a5
theorem Ext.ent6 {w W:World}{g:Nat}{a0 a1 a2 a3 a4 a5:Value}(h:Ext w W)(hg:w.heap.size<=g) : Ext w (Za5 W g a0 a1 a2 a3 a4 a5) :=
 (((((h.setNew (p:=⟨g,0,none⟩) hg a0).setNew (p:=⟨g,1,none⟩) hg a1).setNew (p:=⟨g,2,none⟩) hg a2).setNew (p:=⟨g,3,none⟩) hg a3).setNew (p:=⟨g,4,none⟩) hg a4).setNew (p:=⟨g,5,none⟩) hg a5
end
end Go.Proofs.YtocfmioihaefoaaGreatDoor
