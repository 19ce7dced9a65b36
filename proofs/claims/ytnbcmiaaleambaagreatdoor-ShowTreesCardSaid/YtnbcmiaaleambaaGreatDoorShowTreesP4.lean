/- parts, packed by a program -/
import Derived.Test.YtnbcmiaaleambaaGreatDoorShowTreesP3
set_option maxRecDepth 100000
set_option maxHeartbeats 16000000
set_option linter.all false
namespace Go.Proofs.YtnbcmiaaleambaaGreatDoor
open Go.ChangeAt Go.ChangeShapes Go.Deep Go.RowKit Go.WideShapes
section
def OwN (w:World)(base g c:Nat)(l:List Nat) : Prop:=OwI w base (some ⟨g,0,none⟩) c (Zf l)
theorem Z7 {l:List Nat}{k n:Nat}(h:l[k]?=some n) : (Zf l)[k]?=some (n:Int):=by simp[Zf,h]
theorem ZgP (l:List Nat)(k m:Nat) : (Zf l).set k (m:Int)=Zf (l.set k m):=by simp[Zf,List.map_set]
theorem OwN.cell {w:World}{base g c:Nat}{l:List Nat}(h:OwN w base g c l){k n:Nat}(hk:l[k]?=some n) :
  w.cell? ⟨g,k,none⟩=some (.int .i64 n)/\w.frozen? ⟨g,k,none⟩=false/\Hid (∀ m:Nat,OwN (w.setCell ⟨g,k,none⟩ (.int .i64 m)) base g c (l.set k m)):=by
 have hl:=(List.getElem?_eq_some_iff.1 hk).1;obtain⟨x,h1,h2,_,h3,h4⟩:=OwI.cell h (k:=k) (by rw[Zh];exact hl);have e:=h3.out;rw[Z7 hk] at e;obtain rfl:=Option.some.inj e;exact⟨h1,h2,fun m=>by have:=h4.out (m:Int);rw[ZgP] at this;exact this⟩
theorem OwN.ext {w w':World}{base g c:Nat}{l:List Nat}(h:OwN w base g c l)(x:Ext w w') : OwN w' base g c l:=OwI.ext h x
def ZaX (base g c:Nat)(l':List Nat)(w:World)(e:Ending)(w':World) : Prop:=e=.returned (.tuple #[])/\OwN w' base g c l'/\Mod (fun k=>k=g) w w'
def ZjS (base g c:Nat)(l l':List Nat)(a b k:Nat)(w w':World) : Prop:=SwR l l' a b k/\OwN w' base g c l'/\Mod (fun k=>k=g) w w'
def ZjT (base g c:Nat)(l:List Nat)(a b n:Nat)(w:World)(e:Ending)(w':World) : Prop:=∃ l',e=.returned (.tuple #[])/\ZjS base g c l l' a b n w w'
theorem ZcS (base g c:Nat)(fv:Value)(a b n N:Nat)(l:List Nat)(w:World)(h:OwN w base g c l)(hN:l.length=N)(hab:a+n<=b)(hb:b+n<=N)(hl:N<=1000000000) :
  Calls Tryz.prog 205 #[.slice (some ⟨g,0,none⟩) N c,.int .i64 a,.int .i64 b,.int .i64 n,fv] w (ZjT base g c l a b n w):=by
 replace hN:=Hd hN;replace h:=Hd h;go_enter Tryz.func205,Tryz.ntmps205;go_wp2_with (fail);go_loopw [10] (fun i wr=>∃ (k:Nat) (l':List Nat),i=.int .i64 k/\k<=n/\Hid (ZjS base g c l l' a b k w wr)) (fun i _=>n-(intOf i).toNat)
 case atStart=>exact⟨0,l,rfl,by omega,SwR.start _ _ _,h.out,Mod.rf _⟩
 case round =>
  obtain⟨wo,rfl⟩:=Wq wr;obtain⟨k,l',rfl,hk,HH⟩:=hrel
  by_cases hlt:k<n
  ·obtain⟨HR,HO,HM⟩:=HH.out
   clear HH;have hll:l'.length=N:=HR.1.trans hN.out;obtain⟨i1,hi1⟩:∃ i1,Hid (i1=a+k):=⟨_,rfl⟩;obtain⟨i2,hi2⟩:∃ i2,Hid (i2=b+k):=⟨_,rfl⟩;have h12:i1<i2:=by rw[hi1.out,hi2.out];omega
   have h2N:i2<N:=by rw[hi2.out];omega
   have hx:l'[i1]?=some (l'[i1]'(by omega)):=List.getElem?_eq_getElem _;have hy:l'[i2]?=some (l'[i2]'(by omega)):=List.getElem?_eq_getElem _;generalize l'[i1]'(by omega)=x at hx;generalize l'[i2]'(by omega)=y at hy;obtain⟨c1,f1,s1⟩:=HO.cell hx;obtain⟨c2,f2,s2⟩:=HO.cell hy;have t1:OwN ((wo.setCell ⟨g,i1,none⟩ (.int .i64 y)).setCell ⟨g,i2,none⟩ (.int .i64 x)) base g c ((l'.set i1 y).set i2 x):=((s1.out y).cell (n:=y) (by rw[List.getElem?_set_ne (by omega)];exact hy)).2.2.out x;have FIN:Hid (ZjS base g c l ((l'.set i1 y).set i2 x) a b (k+1) w ((wo.setCell ⟨g,i1,none⟩ (.int .i64 y)).setCell ⟨g,i2,none⟩ (.int .i64 x)).drew):=by
    refine⟨?_,t1.ext ((Ext.rf _).drew),((HM.set (p:=⟨g,i1,none⟩) (.inl rfl) _).set (p:=⟨g,i2,none⟩) (.inl rfl) _).drew⟩;rw[hi1.out,hi2.out] at *;exact HR.step hab (by rw[hN.out];omega) hlt hx hy
   have e1:(a:Int)+(k:Int)=(i1:Int):=by rw[hi1.out];omega
   have e2:(b:Int)+(k:Int)=(i2:Int):=by rw[hi2.out];omega
   have w1:IntKind.i64.wrap ((a:Int)+(k:Int))=(i1:Int):=by rw[e1];exact IntWalk.i64_in _ (by omega)
   have w2:IntKind.i64.wrap ((b:Int)+(k:Int))=(i2:Int):=by rw[e2];exact IntWalk.i64_in _ (by omega)
   clear s1 s2 t1 HR HO HM hx hy hll;go_wp2_with (go_region);go_roundw
   case rel=>exact⟨k+1,_,by go_num,by omega,FIN⟩
   case measure=>simp[intOf];omega
  ·obtain rfl:k=n:=by omega
   go_wp2;go_end0;exact⟨_,rfl,HH.out⟩
theorem Vx (base g c:Nat)(fv:Value)(a b n N:Nat)(P A M B Q:List Nat)(w:World)(h:OwN w base g c (P++(A++(M++(B++Q)))))(hN:(P++(A++(M++(B++Q)))).length=N)(ha:P.length=a)(hA:A.length=n)(hB:B.length=n)(hb:a+n+M.length=b)(hl:N<=1000000000) :
  Calls Tryz.prog 205 #[.slice (some ⟨g,0,none⟩) N c,.int .i64 a,.int .i64 b,.int .i64 n,fv] w (ZaX base g c (P++(B++(M++(A++Q)))) w):=by
 refine(ZcS base g c fv a b n N _ w h hN (by omega) (by simp only[List.length_append] at hN;omega) hl).mono ?_;rintro e w' ⟨l',rfl,h1,h2,h3⟩;obtain rfl:=h1.done ha hA hB hb;exact⟨rfl,h2,h3⟩
def Zjg (base g c:Nat)(m i j:Nat)(goal:List Nat)(w w':World) : Prop:=∃ P U V Q,P.length+i=m/\U.length=i/\V.length=j/\goal=P++(V++(U++Q))/\OwN w' base g c (P++(U++(V++Q)))/\Mod (fun k=>k=g) w w'
theorem ZeZ (base g c:Nat)(fv:Value)(a m b N:Nat)(P U V Q:List Nat)(w:World)(h:OwN w base g c (P++(U++(V++Q))))(hN:(P++(U++(V++Q))).length=N)(ha:P.length=a)(hU:a+U.length=m)(hV:m+V.length=b)(h1:0<U.length)(h2:0<V.length)(hl:N<=1000000000) :
  Calls Tryz.prog 204 #[.slice (some ⟨g,0,none⟩) N c,.int .i64 a,.int .i64 m,.int .i64 b,fv] w (ZaX base g c (P++(V++(U++Q))) w):=by
 have HS:Hid (Zjg base g c m U.length V.length (P++(V++(U++Q))) w w):=⟨P,U,V,Q,by omega,rfl,rfl,rfl,h,Mod.rf _⟩;have hG:Hid ((P++(V++(U++Q))).length=N):=by
  have:(P++(V++(U++Q))).length=N:=by simp only[List.length_append] at hN ⊢;omega
  exact this
 have ei:(m:Int)-(a:Int)=(U.length:Int):=by omega
 have ej:(b:Int)-(m:Int)=(V.length:Int):=by omega
 have hmN:m+V.length<=N:=by simp only[List.length_append] at hN;omega
 generalize U.length=u0 at *;generalize V.length=v0 at *;generalize P++(V++(U++Q))=goal at *;have ei':IntKind.i64.wrap ((m:Int)-(a:Int))=(u0:Int):=by rw[ei];exact IntWalk.i64_in _ (by omega)
 have ej':IntKind.i64.wrap ((b:Int)-(m:Int))=(v0:Int):=by rw[ej];exact IntWalk.i64_in _ (by omega)
 clear h hN ha hU;go_enter Tryz.func204,Tryz.ntmps204;go_wp2_with (fail);go_loopw [10,11] (fun iv jv wr=>∃ (i j:Nat),iv=.int .i64 i/\jv=.int .i64 j/\0<i/\0<j/\i<=m/\m+j<=N/\Hid (Zjg base g c m i j goal w wr)) (fun iv jv _=>(intOf iv).toNat+(intOf jv).toNat)
 case atStart=>exact⟨u0,v0,rfl,rfl,by omega,by omega,by omega,by omega,HS⟩
 case round =>
  obtain⟨wo,rfl⟩:=Wq wr;obtain⟨i,j,rfl,rfl,hi,hj,him,hjN,HH⟩:=hrel;clear HS ei ej ei' ej';obtain⟨P',U',V',Q',q1,q2,q3,q4,hO,hM⟩:=HH.out;have gl:(P'++(U'++(V'++Q'))).length=N:=by
   have:=hG.out;rw[q4] at this;simp only[List.length_append] at this ⊢;omega
  clear HH;rcases Nat.lt_trichotomy j i with hc | hc | hc
  ·
   obtain⟨U1,U2,rfl,hu⟩:=ZdJ U' j (by omega);have hu2:U2.length=i-j:=by simp only[List.length_append] at q2;omega
   rw[List.append_assoc] at hO gl;have CC:=Hd (Vx base g c fv (m-i) m j N P' U1 U2 V' Q' wo hO gl (by omega) hu q3 (by omega) hl);have FIN:∀ w',OwN w' base g c (P'++(V'++(U2++(U1++Q'))))->Mod (fun k=>k=g) wo w'->Zjg base g c m (i-j) j goal w w':=fun w' h1 h2=>⟨P'++V',U2,U1,Q',by rw[List.length_append];omega,hu2,hu,by rw[q4];simp only[List.append_assoc],by simpa only [List.append_assoc] using h1,hM.tr h2⟩
   replace FIN:=Hd FIN;have e1:(m:Int)-(i:Int)=((m-i:Nat):Int):=by omega
   have e2:(i:Int)-(j:Int)=((i-j:Nat):Int):=by omega
   have d1:((i:Int) != (j:Int))=true:=by rw[bne_iff_ne];omega
   clear hO gl q1 q2 q3 q4 hu hu2 hM;go_wp2_with (fail);refine CC.out.mono ?_;rintro e w' ⟨rfl,h1,h2⟩;have FIN2:=Hd (FIN.out w' h1 h2);clear h1 h2;go_wp2_with (fail);go_roundw
   case rel=>exact⟨i-j,j,by first | rfl | go_num | (congr 1),rfl,by omega,hj,by omega,hjN,FIN2⟩
   case measure=>simp[intOf];omega
  ·
   subst hc;have CC:=Hd (Vx base g c fv (m-j) m j N P' U' [] V' Q' wo (by simpa using hO) (by simpa using gl) (by omega) q2 q3 (by simp;omega) hl);have e1:(m:Int)-(j:Int)=((m-j:Nat):Int):=by omega
   have d1:((j:Int) != (j:Int))=false:=by simp
   have hg:Hid (goal=P'++(V'++([]++(U'++Q')))):=by rw[q4];rfl
   clear hO gl q1 q2 q3 q4;replace hM:=Hd hM;go_wp2_with (fail);refine CC.out.mono ?_;rintro e w' ⟨rfl,h1,h2⟩;rw[<-hg.out] at h1;have FIN2:Hid (ZaX base g c goal w (.returned (.tuple #[])) w'):=⟨rfl,h1,hM.out.tr h2⟩;clear h1 h2;go_wp2_with (fail);go_end0;exact FIN2.out
  ·
   obtain⟨V1,V2,rfl,hv⟩:=Wj V' i (by omega);have hv1:V1.length=j-i:=by simp only[List.length_append] at q3;omega
   rw[List.append_assoc] at hO gl;have CC:=Hd (Vx base g c fv (m-i) (m+j-i) i N P' U' V1 V2 Q' wo hO gl (by omega) q2 hv (by omega) hl);have FIN:∀ w',OwN w' base g c (P'++(V2++(V1++(U'++Q'))))->Mod (fun k=>k=g) wo w'->Zjg base g c m i (j-i) goal w w':=fun w' h1 h2=>⟨P',V2,V1,U'++Q',q1,hv,hv1,by rw[q4];simp only[List.append_assoc],h1,hM.tr h2⟩
   replace FIN:=Hd FIN;have e1:(m:Int)-(i:Int)=((m-i:Nat):Int):=by omega
   have e2:(j:Int)-(i:Int)=((j-i:Nat):Int):=by omega
   have e3:(m:Int)+(j:Int)-(i:Int)=((m+j-i:Nat):Int):=by omega
   have d1:((i:Int) != (j:Int))=true:=by rw[bne_iff_ne];omega
   clear hO gl q1 q2 q3 q4 hv hv1 hM;go_wp2_with (fail);refine CC.out.mono ?_;rintro e w' ⟨rfl,h1,h2⟩;have FIN2:=Hd (FIN.out w' h1 h2);clear h1 h2;go_wp2_with (fail);go_roundw
   case rel=>exact⟨i,j-i,rfl,by first | rfl | go_num | (congr 1),hi,by omega,him,by omega,FIN2⟩
   case measure=>simp[intOf];omega
def CmpOk (f:Nat)(lb:Array Value)(cf:Nat->Nat->Int)(nn g:Nat)(w:World) : Prop :=
 ∀ (W:World) (x y:Nat),x<nn->y<nn->Mod (fun k=>k=g) w W->Calls Tryz.prog f (#[.int .i64 x,.int .i64 y]++lb) W fun e W'=>e=.returned (.int .i64 (cf x y))/\∃ q,W'=W.drewN q
theorem CmpOk.mod {f:Nat}{lb:Array Value}{cf:Nat->Nat->Int}{nn g:Nat}{w w':World}(h:CmpOk f lb cf nn g w)(hm:Mod (fun k=>k=g) w w') : CmpOk f lb cf nn g w':=fun W x y hx hy hW=>h W x y hx hy (hm.tr hW)
def ltC (cf:Nat->Nat->Int)(x y:Nat) : Bool:=decide (cf x y<0)
def ZF (base g c:Nat)(lt:Nat->Nat->Bool)(P S Q:List Nat)(w:World)(e:Ending)(w':World) : Prop:=∃ M,Is lt S M/\e=.returned (.tuple #[])/\OwN w' base g c (P++(M++Q))/\Mod (fun k=>k=g) w w'
def InsS (base g c:Nat)(lt:Nat->Nat->Bool)(P S Q:List Nat)(k:Nat)(w w':World) : Prop:=∃ M,Is lt (S.take k) M/\OwN w' base g c (P++(M++(S.drop k++Q)))/\Mod (fun k=>k=g) w w'
def SinkS (base g c:Nat)(lt:Nat->Nat->Bool)(P M:List Nat)(x:Nat)(T:List Nat)(p:Nat)(w w':World) : Prop:=∃ B1 B2,M=B1++B2/\B1.length=p/\(∀ y∈B2,lt x y=true)/\OwN w' base g c (P++(B1++(x::(B2++T))))/\Mod (fun k=>k=g) w w'
theorem SinkS.two {base g c:Nat}{lt:Nat->Nat->Bool}{P M:List Nat}{x:Nat}{T:List Nat}{p a:Nat}{w w':World}(h:SinkS base g c lt P M x T (p+1) w w')(ha:P.length=a) :
  ∃ y,y∈M/\w'.cell? ⟨g,a+p,none⟩=some (.int .i64 y)/\w'.frozen? ⟨g,a+p,none⟩=false/\w'.cell? ⟨g,a+p+1,none⟩=some (.int .i64 x)/\w'.frozen? ⟨g,a+p+1,none⟩=false /\
   Hid (lt x y=true->∀ w2,Ext w' w2->SinkS base g c lt P M x T p w ((w2.setCell ⟨g,a+p+1,none⟩ (.int .i64 y)).setCell ⟨g,a+p,none⟩ (.int .i64 x)))/\Hid (Weak lt->lt x y=false->(∀ z∈M,z<x)->Srt lt M->∀ w2,Ext w' w2->∃ M',M'.Perm (M++[x])/\Srt lt M'/\OwN w2 base g c (P++(M'++T))):=by
 obtain⟨B1,B2,rfl,hp,hB,hO,hM⟩:=h;obtain⟨B,B',rfl,hb⟩:=Wj B1 1 (by omega);obtain⟨y,rfl⟩:∃ y,B'=[y]:=by
  match B',hb with
  | [y],_=>exact⟨y,rfl⟩
 have hBp:B.length=p:=by simp only[List.length_append] at hp;simp at hp;exact hp
 have e:P++(B++[y]++(x::(B2++T)))=(P++B)++(y::(x::(B2++T))):=by simp
 rw[e] at hO;have hl:(P++B).length=a+p:=by rw[List.length_append];omega
 obtain⟨g1,g2⟩:=QW (P++B) (B2++T) y x;obtain⟨c1,f1,_⟩:=hO.cell g1;obtain⟨c2,f2,_⟩:=hO.cell g2;have t:∀ w2,Ext w' w2->OwN ((w2.setCell ⟨g,(P++B).length+1,none⟩ (.int .i64 y)).setCell ⟨g,(P++B).length,none⟩ (.int .i64 x)) base g c ((P++B)++(x::(y::(B2++T)))):=fun w2 x2=>by
  have:=((((hO.ext x2).cell g2).2.2.out y).cell (k:=(P++B).length) (n:=y) (by rw[List.getElem?_set_ne (by omega)];exact g1)).2.2.out x
  rwa [QV] at this
 rw[hl] at c1 f1 c2 f2 t;refine⟨y,by simp,c1,f1,c2,f2,fun hlt w2 x2=>⟨B,y::B2,by simp,hBp,?_,by simpa using t w2 x2,((hM.ext x2).set (p:=⟨g,a+p+1,none⟩) (.inl rfl) _).set (p:=⟨g,a+p,none⟩) (.inl rfl) _⟩,fun hw hlt hz hs w2 x2=>?_⟩
 ·intro z hz
  rcases List.mem_cons.1 hz with rfl | hz
  ·exact hlt
  ·exact hB z hz
 ·refine⟨B++[y]++(x::B2),?_,?_,by simpa using hO.ext x2⟩
  ·simp only[List.append_assoc]
   refine List.Perm.append_left B (List.Perm.append_left [y] ?_);exact(List.perm_append_comm (l₁:=[x]) (l₂:=B2))
  ·refine QX hw hs ?_ hB ?_
   ·intro z h1 z' h2
    obtain rfl:=List.mem_singleton.1 h2;exact hz z h1
   ·intro z h
    simp at h;subst h;exact hlt
theorem SinkS.bottom {base g c:Nat}{lt:Nat->Nat->Bool}{P M:List Nat}{x:Nat}{T:List Nat}{w w':World}(h:SinkS base g c lt P M x T 0 w w')(hw:Weak lt)(hz:∀ z∈M,z<x)(hs:Srt lt M) : ∀ w2,Ext w' w2->∃ M',M'.Perm (M++[x])/\Srt lt M'/\OwN w2 base g c (P++(M'++T)):=by
 obtain⟨B1,B2,rfl,hp,hB,hO,_⟩:=h;intro w2 x2;obtain rfl:=List.eq_nil_of_length_eq_zero hp;refine⟨x::B2,List.perm_append_comm (l₁:=[x]) (l₂:=B2),?_,by simpa using hO.ext x2⟩;refine QX hw (A:=[]) hs ?_ hB (by simp);intro z h1 z' h2;obtain rfl:=List.mem_singleton.1 h2;exact hz z h1
theorem SinkS.ext {base g c:Nat}{lt:Nat->Nat->Bool}{P M:List Nat}{x:Nat}{T:List Nat}{p:Nat}{w w' w2:World}(h:SinkS base g c lt P M x T p w w')(x2:Ext w' w2) : SinkS base g c lt P M x T p w w2:=by
 obtain⟨B1,B2,h1,h2,h3,h4,h5⟩:=h;exact⟨B1,B2,h1,h2,h3,h4.ext x2,h5.ext x2⟩
theorem SinkS.mod {base g c:Nat}{lt:Nat->Nat->Bool}{P M:List Nat}{x:Nat}{T:List Nat}{p:Nat}{w w':World}(h:SinkS base g c lt P M x T p w w') : Mod (fun k=>k=g) w w':=by
 obtain⟨B1,B2,h1,h2,h3,h4,h5⟩:=h;exact h5
theorem InsS.next {base g c:Nat}{lt:Nat->Nat->Bool}{P S Q:List Nat}{k:Nat}{w w':World}(h:InsS base g c lt P S Q k w w')(hk:k<S.length)(hr:S.Pairwise (· < ·)) :
  ∃ M x,x∈S/\(∀ z∈M,z∈S)/\M.length=k/\(∀ z∈M,z<x)/\Srt lt M/\SinkS base g c lt P M x (S.drop (k+1)++Q) k w w' /\
   Hid (∀ w2,Mod (fun k=>k=g) w w2->(∃ M',M'.Perm (M++[x])/\Srt lt M'/\OwN w2 base g c (P++(M'++(S.drop (k+1)++Q))))->InsS base g c lt P S Q (k+1) w w2):=by
 obtain⟨M,⟨hp,hs⟩,hO,hM⟩:=h;have hx:S[k]?=some S[k]:=List.getElem?_eq_getElem hk;have hd:S.drop k=S[k]::S.drop (k+1):=List.drop_eq_getElem_cons hk;have hms:∀ z∈M,z∈S.take k:=fun z hz=>hp.mem_iff.1 hz
 refine⟨M,S[k],List.getElem_mem hk,fun z hz=>List.mem_of_mem_take (hms z hz),by rw[hp.length_eq,List.length_take];omega,?_,hs,⟨M,[],by simp,by rw[hp.length_eq,List.length_take];omega,by simp,by rw[hd] at hO;exact hO,hM⟩,?_⟩
 ·intro z hz
  obtain⟨i,hi,rfl⟩:=List.mem_iff_getElem.1 (hms z hz);rw[List.getElem_take];rw[List.length_take] at hi;exact List.pairwise_iff_getElem.1 hr i k (by omega) hk (by omega)
 ·rintro w2 hm2 ⟨M',hp',hs',hO'⟩
  refine⟨M',⟨hp'.trans ?_,hs'⟩,hO',hm2⟩;rw[List.take_add_one,hx];exact hp.append (List.Perm.refl _)
theorem ZbA (base g c:Nat)(f:Nat)(lb:Array Value)(cf:Nat->Nat->Int)(nn a b N:Nat)(P S Q:List Nat)(w:World)(hw:Weak (ltC cf))(eg:∀ args w,(callFunc f args).run Tryz.prog w=.ok (.enter f args) w)(hcmp:CmpOk f lb cf nn g w)
  (h:OwN w base g c (P++(S++Q))) (hN:(P++(S++Q)).length=N) (ha:P.length=a) (hS:a+S.length=b) (hr:S.Pairwise (· < ·)) (hn:∀ x∈S,x<nn) (hl:N<=1000000000) :
  Calls Tryz.prog 201 #[.slice (some ⟨g,0,none⟩) N c,.int .i64 a,.int .i64 b,.func (.func f) #[] lb] w (ZF base g c (ltC cf) P S Q w):=by
 have HS:Hid (InsS base g c (ltC cf) P S Q 1 w w):=by
  refine⟨S.take 1,⟨List.Perm.refl _,?_⟩,?_,Mod.rf _⟩
  ·match S with
   | []=>exact List.Pairwise.nil
   | [x]=>exact List.pairwise_singleton _ _
   | x::y::z=>exact List.pairwise_singleton _ _
  ·rw[<-List.append_assoc (S.take 1),List.take_append_drop];exact h
 have hbN:b<=N:=by simp only[List.length_append] at hN;omega
 replace hN:=Hd hN;replace hcmp:=Hd hcmp;replace hw:=Hd hw;replace ha:=Hd ha;replace hn:=Hd hn;replace hr:=Hd hr;clear h;go_enter Tryz.func201,Tryz.ntmps201;go_wp2_with (fail);go_loopw [8] (fun iv wr=>∃ (i k:Nat),iv=.int .i64 i/\Hid (i=a+k)/\0<k/\k<=S.length+1/\Hid (InsS base g c (ltC cf) P S Q k w wr)) (fun iv _=>b+1-(intOf iv).toNat)
 case atStart=>exact⟨a+1,1,by first | rfl | go_num,rfl,by omega,by omega,HS⟩
 case round =>
  obtain⟨wo,rfl⟩:=Wq wr;obtain⟨i,k,rfl,hi,hk0,hk,HH⟩:=hrel;clear HS
  by_cases hlt:k<S.length
  ·obtain⟨M,x,hxS,hMS,hMl,hz,hs,hsink,hout⟩:=HH.out.next hlt hr.out
   have hxn:=hn.out x hxS;have hMn:Hid (∀ z∈M,z<nn):=fun z hz=>hn.out z (hMS z hz)
   replace hMl:=Hd hMl;replace hz:=Hd hz;replace hs:=Hd hs;replace hsink:=Hd hsink;clear HH hMS hxS;have hltz:(i:Int)<(b:Int):=by rw[hi.out];omega
   have hiN:i<N:=by rw[hi.out];omega
   go_wp2_with (fail);go_loopw [9] (fun jv wr=>∃ (j p:Nat),jv=.int .i64 j/\Hid (j=a+p)/\p<=k/\Hid (SinkS base g c (ltC cf) P M x (S.drop (k+1)++Q) p w wr)) (fun jv _=>(intOf jv).toNat)
   case atStart=>exact⟨i,k,rfl,hi,by omega,hsink⟩
   case round =>
    obtain⟨wi,rfl⟩:=Wq wr;obtain⟨j,p,rfl,hj,hp,HI⟩:=hrel;clear hsink
    cases p with
    | zero =>
     have hbot:=Hd (HI.out.bottom hw.out hz.out hs.out);have hM:=Hd HI.out.mod;obtain rfl:j=a:=hj.out;go_wp2_with (fail);go_quiet (fail);go_wp2_with (fail);go_roundw
     case rel=>exact⟨i+1,k+1,by go_num,by have:=hi.out;show i+1=_+(k+1);omega,by omega,by omega,hout.out _ (hM.out.drewN _) (hbot.out _ ((Ext.rf _).drewN _))⟩
     case measure=>simp[intOf];omega
    | succ p =>
     obtain⟨y,hyM,cy,fy,cx,fx,hstep,hstop⟩:=HI.out.two ha.out;have hM:=Hd HI.out.mod;have hyn:=hMn.out y hyM;obtain⟨jp,hjp⟩:∃ jp,Hid (jp=a+p):=⟨_,rfl⟩;rw[<-hjp.out] at cy fy cx fx hstep;obtain rfl:j=jp+1:=by rw[hj.out,hjp.out];omega
     have hc:∀ n,Calls Tryz.prog f (#[.int .i64 x,.int .i64 y]++lb) (wi.drewN n) fun e W'=>e=.returned (.int .i64 (cf x y))/\∃ q,W'=(wi.drewN n).drewN q:=fun n=>hcmp.out _ x y hxn hyn (hM.out.drewN n)
     have hwp:IntKind.i64.wrap (jp:Int)=(jp:Int):=IntWalk.i64_in _ (by rw[hjp.out];omega);have jz:(jp:Int)+1<(N:Int):=by rw[hjp.out];omega
     have jz1:(jp:Int)<(N:Int):=by omega
     have hjaz:(a:Int)<(jp:Int)+1:=by rw[hjp.out];omega
     have p0:(0:Int)<=(jp:Int)+1:=by omega
     have e0:((jp:Int)+1).toNat=jp+1:=by omega
     clear hyM
     by_cases hlv:cf x y<0
     ·replace hstep:=Hd (hstep.out (decide_eq_true hlv))
      clear hstop;go_wp2_with (fail);go_quiet (first | (go_at_fn f;refine Calls.quiet_of (hc _)));go_wp2_with (fail);have x2:Ext wi (wi.drewN nq):=(Ext.rf _).drewN _;have cy2:(wi.drewN nq).cell? ⟨g,jp,none⟩=some (.int .i64 y):=cy;have cx2:(wi.drewN nq).cell? ⟨g,jp+1,none⟩=some (.int .i64 x):=cx;have fy2:(wi.drewN nq).frozen? ⟨g,jp,none⟩=false:=fy;have fx2:(wi.drewN nq).frozen? ⟨g,jp+1,none⟩=false:=fx;have NX:=Hd (hstep.out _ x2);clear cy cx fy fx hc x2 hstep;generalize wi.drewN nq=wq at cy2 cx2 fy2 fx2 NX ⊢;go_region
      all_goals go_wp2
      go_roundw
      case rel=>exact⟨jp,p,by first | rfl | go_num,hjp,by omega,NX.out.ext ((Ext.rf _).drew)⟩
      case measure=>simp[intOf]<;>omega
     ·replace hstop:=Hd (hstop.out hw.out (decide_eq_false hlv) hz.out hs.out)
      clear hstep;go_wp2_with (fail);go_quiet (first | (go_at_fn f;refine Calls.quiet_of (hc _)));go_wp2_with (fail);go_roundw
      case rel=>exact⟨i+1,k+1,by go_num,by have:=hi.out;show i+1=_+(k+1);omega,by omega,by omega,hout.out _ (hM.out.drewN _) (hstop.out _ ((Ext.rf _).drewN _))⟩
      case measure=>simp[intOf]<;>omega
  ·have hltz:¬(i:Int)<(b:Int):=by rw[hi.out];omega
   obtain⟨M,hM1,hM2,hM3⟩:=HH.out;have FIN:Hid (ZF base g c (ltC cf) P S Q w (.returned (.tuple #[])) wo):=by
    refine⟨M,?_,rfl,?_,hM3⟩
    ·rwa [List.take_of_length_le (by omega)] at hM1
    ·rwa [List.drop_of_length_le (by omega),List.nil_append] at hM2
   clear hM1 hM2 hM3 HH;go_wp2_with (fail);go_end0;exact FIN.out
theorem OwN.pair {w:World}{base g c k:Nat}{P Q:List Nat}{y x:Nat}(h:OwN w base g c (P++(y::(x::Q))))(hk:P.length=k) :
  w.cell? ⟨g,k,none⟩=some (.int .i64 y)/\w.frozen? ⟨g,k,none⟩=false/\w.cell? ⟨g,k+1,none⟩=some (.int .i64 x)/\w.frozen? ⟨g,k+1,none⟩=false /\
   Hid (∀ w2,Ext w w2->OwN ((w2.setCell ⟨g,k,none⟩ (.int .i64 x)).setCell ⟨g,k+1,none⟩ (.int .i64 y)) base g c (P++(x::(y::Q)))) /\
   Hid (∀ w2,Ext w w2->OwN ((w2.setCell ⟨g,k+1,none⟩ (.int .i64 y)).setCell ⟨g,k,none⟩ (.int .i64 x)) base g c (P++(x::(y::Q)))):=by
 subst hk;obtain⟨g1,g2⟩:=QW P Q y x;obtain⟨c1,f1,_⟩:=h.cell g1;obtain⟨c2,f2,_⟩:=h.cell g2;refine⟨c1,f1,c2,f2,fun w2 x2=>?_,fun w2 x2=>?_⟩
 ·have:=((((h.ext x2).cell g1).2.2.out x).cell (k:=P.length+1) (n:=x) (by rw[List.getElem?_set_ne (by omega)];exact g2)).2.2.out y
  rwa [Zb2] at this
 ·have:=((((h.ext x2).cell g2).2.2.out y).cell (k:=P.length) (n:=y) (by rw[List.getElem?_set_ne (by omega)];exact g1)).2.2.out x
  rwa [QV] at this
theorem OwN.at {w:World}{base g c k:Nat}{P Q:List Nat}{j y:Nat}(h:OwN w base g c (P++Q))(hj:Q[j]?=some y)(hk:P.length+j=k) : w.cell? ⟨g,k,none⟩=some (.int .i64 y):=(h.cell (by rw[ZjF P Q k j hk];exact hj)).1
def BsR (good:Nat->Bool)(R:List Nat)(p q:Nat) : Prop:=p<=q/\q<=R.length/\(∀ y,(R.take p).getLast?=some y->good y=true)/\(∀ y,(R.drop q).head?=some y->good y=false)
theorem BsR.start (good:Nat->Bool)(R:List Nat) : BsR good R 0 R.length:=⟨by omega,by omega,by simp,by simp⟩
theorem BsR.mid {good:Nat->Bool}{R:List Nat}{p q:Nat}(h:BsR good R p q)(hlt:p<q) : ∃ y,R[(p+q) / 2]?=some y/\y∈R/\p<=(p+q) / 2/\(p+q) / 2<q/\Hid (good y=true->BsR good R ((p+q) / 2+1) q)/\Hid (good y=false->BsR good R p ((p+q) / 2)):=by
 obtain⟨h1,h2,h3,h4⟩:=h;have ht:(p+q) / 2<R.length:=by omega
 have e:R[(p+q) / 2]?=some R[(p+q) / 2]:=List.getElem?_eq_getElem ht;refine⟨_,e,List.getElem_mem _,by omega,by omega,fun hg=>⟨by omega,h2,fun y hy=>?_,h4⟩,fun hg=>⟨by omega,by omega,h3,fun y hy=>?_⟩⟩
 ·rw[Zb5 e] at hy
  obtain rfl:=Option.some.inj hy;exact hg
 ·rw[Zb6 e] at hy
  obtain rfl:=Option.some.inj hy;exact hg
def UpS (base g c:Nat)(P B:List Nat)(x:Nat)(T:List Nat)(s:Nat)(w w':World) : Prop:=OwN w' base g c (P++(B.take s++(x::(B.drop s++T))))/\Mod (fun k=>k=g) w w'
theorem UpS.ext {base g c:Nat}{P B:List Nat}{x:Nat}{T:List Nat}{s:Nat}{w w' w2:World}(h:UpS base g c P B x T s w w')(x2:Ext w' w2) : UpS base g c P B x T s w w2:=⟨h.1.ext x2,h.2.ext x2⟩
theorem UpS.up {base g c a:Nat}{P B:List Nat}{x:Nat}{T:List Nat}{s:Nat}{w w':World}(h:UpS base g c P B x T s w w')(hs:s<B.length)(ha:P.length=a) :
  ∃ y,w'.cell? ⟨g,a+s,none⟩=some (.int .i64 x)/\w'.frozen? ⟨g,a+s,none⟩=false/\w'.cell? ⟨g,a+s+1,none⟩=some (.int .i64 y)/\w'.frozen? ⟨g,a+s+1,none⟩=false /\
   Hid (UpS base g c P B x T (s+1) w ((w'.setCell ⟨g,a+s,none⟩ (.int .i64 y)).setCell ⟨g,a+s+1,none⟩ (.int .i64 x))):=by
 obtain⟨hO,hM⟩:=h;have e:B[s]?=some B[s]:=List.getElem?_eq_getElem hs;have hd:B.drop s=B[s]::B.drop (s+1):=List.drop_eq_getElem_cons hs;have ht:B.take (s+1)=B.take s++[B[s]]:=by rw[List.take_add_one,e];rfl
 have e2:P++(B.take s++(x::(B.drop s++T)))=(P++B.take s)++(x::(B[s]::(B.drop (s+1)++T))):=by rw[hd];simp only[List.append_assoc,List.cons_append]
 have e3:P++(B.take (s+1)++(x::(B.drop (s+1)++T)))=(P++B.take s)++(B[s]::(x::(B.drop (s+1)++T))):=by rw[ht];simp only[List.append_assoc,List.singleton_append]
 rw[e2] at hO;obtain⟨c1,f1,c2,f2,u1,_⟩:=hO.pair (k:=a+s) (by rw[List.length_append,List.length_take];omega);refine⟨_,c1,f1,c2,f2,?_,(hM.set (p:=⟨g,a+s,none⟩) (.inl rfl) _).set (p:=⟨g,a+s+1,none⟩) (.inl rfl) _⟩;have:=u1.out _ (Ext.rf _);rw[<-e3] at this;exact this
theorem UpS.down {base g c a:Nat}{P B:List Nat}{x:Nat}{T:List Nat}{s:Nat}{w w':World}(h:UpS base g c P B x T (s+1) w w')(hs:s<B.length)(ha:P.length=a) :
  ∃ y,w'.cell? ⟨g,a+s,none⟩=some (.int .i64 y)/\w'.frozen? ⟨g,a+s,none⟩=false/\w'.cell? ⟨g,a+s+1,none⟩=some (.int .i64 x)/\w'.frozen? ⟨g,a+s+1,none⟩=false /\
   Hid (UpS base g c P B x T s w ((w'.setCell ⟨g,a+s+1,none⟩ (.int .i64 y)).setCell ⟨g,a+s,none⟩ (.int .i64 x))):=by
 obtain⟨hO,hM⟩:=h;have e:B[s]?=some B[s]:=List.getElem?_eq_getElem hs;have hd:B.drop s=B[s]::B.drop (s+1):=List.drop_eq_getElem_cons hs;have ht:B.take (s+1)=B.take s++[B[s]]:=by rw[List.take_add_one,e];rfl
 have e2:P++(B.take (s+1)++(x::(B.drop (s+1)++T)))=(P++B.take s)++(B[s]::(x::(B.drop (s+1)++T))):=by rw[ht];simp only[List.append_assoc,List.singleton_append]
 have e3:P++(B.take s++(x::(B.drop s++T)))=(P++B.take s)++(x::(B[s]::(B.drop (s+1)++T))):=by rw[hd];simp only[List.append_assoc,List.cons_append]
 rw[e2] at hO;obtain⟨c1,f1,c2,f2,_,u2⟩:=hO.pair (k:=a+s) (by rw[List.length_append,List.length_take];omega);refine⟨_,c1,f1,c2,f2,?_,(hM.set (p:=⟨g,a+s+1,none⟩) (.inl rfl) _).set (p:=⟨g,a+s,none⟩) (.inl rfl) _⟩;have:=u2.out _ (Ext.rf _);rw[<-e3] at this;exact this
theorem ZhY (base g c:Nat)(f:Nat)(lb:Array Value)(cf:Nat->Nat->Int)(nn a m b N x:Nat)(P R Q:List Nat)(w:World)(hw:Weak (ltC cf))(eg:∀ args w,(callFunc f args).run Tryz.prog w=.ok (.enter f args) w)(hcmp:CmpOk f lb cf nn g w)
  (h:OwN w base g c (P++(x::(R++Q)))) (hN:(P++(x::(R++Q))).length=N) (ha:P.length=a) (hL:a+1=m) (hR:m+R.length=b) (sr:Srt (ltC cf) R) (hlt:Apart (· < ·) [x] R) (hx:x<nn) (hn:∀ y∈R,y<nn) (hl:N<=1000000000) :
  Calls Tryz.prog 202 #[.slice (some ⟨g,0,none⟩) N c,.int .i64 a,.int .i64 m,.int .i64 b,.func (.func f) #[] lb] w (ZF base g c (ltC cf) P (x::R) Q w):=by
 have hbN:b<=N:=by simp only[List.length_append,List.length_cons] at hN;omega
 have hm1:Hid (m=a+1):=hL.symm;have d1:((m:Int)-(a:Int)==1)=true:=by rw[beq_iff_eq];omega
 have hmb:m<=b:=by omega
 replace hN:=Hd hN;replace hcmp:=Hd hcmp;replace hw:=Hd hw;replace ha:=Hd ha;replace hn:=Hd hn;replace h:=Hd h;replace hR:=Hd hR;replace sr:=Hd sr;have hax:a<N:=by have:=hm1.out;omega
 clear hL;go_enter Tryz.func202,Tryz.ntmps202;go_wp2_with (fail);go_loopw [10,11] (fun iv jv wr=>∃ (i j p q:Nat),iv=.int .i64 i/\jv=.int .i64 j/\Hid (i=m+p)/\Hid (j=m+q)/\Hid (BsR (fun y=>ltC cf y x) R p q)/\Hid (Ext w wr)) (fun iv jv _=>(intOf jv).toNat-(intOf iv).toNat)
 case atStart=>exact⟨m,b,0,R.length,rfl,rfl,rfl,hR.out.symm,BsR.start _ _,Ext.rf _⟩
 case round =>
  obtain⟨wo,rfl⟩:=Wq wr;obtain⟨i,j,p,q,rfl,rfl,hi,hj,HB,Y⟩:=hrel
  by_cases hpq:p<q
  ·obtain⟨y,ey,hyR,t1,t2,st1,st2⟩:=HB.out.mid hpq
   have hq:=HB.out.2.1;have hij:i<j:=by rw[hi.out,hj.out];omega
   have hjb:j<=b:=by rw[hj.out,<-hR.out];omega
   have hyn:=hn.out y hyR;obtain⟨t,ht⟩:∃ t,Hid (t=(p+q) / 2):=⟨_,rfl⟩;obtain⟨hh,hhh⟩:∃ hh,Hid (hh=(i+j) / 2):=⟨_,rfl⟩;rw[<-ht.out] at ey t1 t2 st1 st2;have eh:hh=m+t:=by rw[hhh.out,hi.out,hj.out,ht.out];omega
   have h1:i<=hh:=by rw[hhh.out];omega
   have h2:hh<j:=by rw[hhh.out];omega
   have mv:((i:Int)+(j:Int)) / 2=(hh:Int):=by rw[hhh.out];omega
   have ch:wo.cell? ⟨g,hh,none⟩=some (.int .i64 y):=(h.out.ext Y.out).at (P:=P) (j:=t+1) (by rw[List.getElem?_cons_succ,List.getElem?_append_left (by have:=(List.getElem?_eq_some_iff.1 ey).1;omega)];exact ey) (by have:=ha.out;have:=hm1.out;omega);have ca:wo.cell? ⟨g,a,none⟩=some (.int .i64 x):=(h.out.ext Y.out).at (P:=P) (j:=0) rfl (by have:=ha.out;omega);have hM:=Hd (Mod.of_ext (S:=fun k=>k=g) Y.out);have hc:∀ n,Calls Tryz.prog f (#[.int .i64 y,.int .i64 x]++lb) (wo.drewN n) fun e W'=>e=.returned (.int .i64 (cf y x))/\∃ q,W'=(wo.drewN n).drewN q:=fun n=>hcmp.out _ y x hyn hx (hM.out.drewN n)
   replace eh:=Hd eh;replace ht:=Hd ht;clear ey hyR
   by_cases hlv:cf y x<0
   ·replace st1:=Hd (st1.out (decide_eq_true hlv))
    clear st2;go_wp2_with (fail);go_quiet (first | (go_at_fn f;refine Calls.quiet_of (hc _)));go_wp2_with (fail);go_roundw
    case rel=>exact⟨hh+1,j,t+1,q,by go_num,rfl,by have:=eh.out;show hh+1=_+(t+1);omega,hj,st1.out,Y.out.drewN _⟩
    case measure=>simp[intOf]<;>omega
   ·replace st2:=Hd (st2.out (decide_eq_false hlv))
    clear st1;go_wp2_with (fail);go_quiet (first | (go_at_fn f;refine Calls.quiet_of (hc _)));go_wp2_with (fail);go_roundw
    case rel=>exact⟨i,hh,p,t,rfl,rfl,hi,eh,st2.out,Y.out.drewN _⟩
    case measure=>simp[intOf]<;>omega
  ·obtain⟨b1,b2,b3,b4⟩:=HB.out
   obtain rfl:p=q:=by omega
   obtain⟨ip,hip⟩:∃ ip,Hid (ip=a+p):=⟨_,rfl⟩;obtain rfl:i=ip+1:=by rw[hi.out,hip.out,hm1.out];omega
   obtain rfl:j=ip+1:=by rw[hj.out,hip.out,hm1.out];omega
   have ipN:ip+1<=N:=by rw[hip.out];have:=hR.out;have:=hm1.out;omega
   have START:Hid (UpS base g c P (R.take p) x (R.drop p++Q) 0 w wo):=by
    refine⟨?_,Mod.of_ext Y.out⟩;have h1:=h.out.ext Y.out;rw[List.take_zero,List.nil_append,List.drop_zero,<-List.append_assoc (R.take p),List.take_append_drop];exact h1
   have HF:Hid (Is (ltC cf) (x::R) (R.take p++(x::R.drop p))):=by
    refine⟨?_,ZdK hw.out (by rw[List.take_append_drop];exact sr.out) (by rw[List.take_append_drop];exact hlt) b3 b4⟩;have:=List.take_append_drop p R;refine List.perm_middle.trans ?_;rw[this]
   have hRl:(R.take p).length=p:=by rw[List.length_take];omega
   generalize R.take p=R1 at *;generalize R.drop p=R2 at *;replace hRl:=Hd hRl;have hwp:IntKind.i64.wrap (ip:Int)=(ip:Int):=IntWalk.i64_in _ (by omega);clear HB b1 b2 b3 b4 hi hj hlt hR;go_wp2_with (fail);go_loopw [13] (fun kv wr=>∃ (k s:Nat),kv=.int .i64 k/\Hid (k=a+s)/\s<=p/\Hid (UpS base g c P R1 x (R2++Q) s w wr)) (fun kv _=>ip-(intOf kv).toNat)
   case atStart=>exact⟨a,0,rfl,rfl,by omega,START⟩
   case round =>
    obtain⟨wi,rfl⟩:=Wq wr;obtain⟨k,s,rfl,hk,hs,HU⟩:=hrel;clear START
    by_cases hsp:s<p
    ·obtain⟨y,c1,f1,c2,f2,NX⟩:=HU.out.up (by rw[hRl.out];exact hsp) ha.out
     have hk':=hk.out;rw[<-hk'] at c1 f1 c2 f2 NX;have l1:(k:Int)<(ip:Int):=by rw[hip.out];omega
     have l2:(k:Int)+1<(N:Int):=by omega
     have l3:(k:Int)<(N:Int):=by omega
     clear hk' HU;go_wp2_with (fail);go_region
     all_goals go_wp2
     go_roundw
     case rel=>exact⟨k+1,s+1,by go_num,by have:=hk.out;show k+1=_+(s+1);omega,by omega,NX.out.ext ((Ext.rf _).drew)⟩
     case measure=>simp[intOf]<;>omega
    ·obtain rfl:s=p:=by omega
     have l1:¬(k:Int)<(ip:Int):=by rw[hip.out,hk.out];omega
     have FIN:Hid (ZF base g c (ltC cf) P (x::R) Q w (.returned (.tuple #[])) wi):=by
      refine⟨_,HF.out,rfl,?_,HU.out.2⟩;have:=HU.out.1;rw[<-hRl.out,List.take_length,List.drop_length] at this
      simpa only [List.append_assoc,List.cons_append,List.nil_append] using this
     clear HU;go_wp2_with (fail);go_end0;exact FIN.out
theorem ZgQ (base g c:Nat)(f:Nat)(lb:Array Value)(cf:Nat->Nat->Int)(nn a m b N y:Nat)(P L Q:List Nat)(w:World)(hw:Weak (ltC cf))(eg:∀ args w,(callFunc f args).run Tryz.prog w=.ok (.enter f args) w)(hcmp:CmpOk f lb cf nn g w)
  (h:OwN w base g c (P++(L++(y::Q)))) (hN:(P++(L++(y::Q))).length=N) (ha:P.length=a) (hL:a+L.length=m) (hR:m+1=b) (h2:2<=L.length) (sl:Srt (ltC cf) L) (hlt:Apart (· < ·) L [y]) (hy:y<nn) (hn:∀ x∈L,x<nn) (hl:N<=1000000000) :
  Calls Tryz.prog 202 #[.slice (some ⟨g,0,none⟩) N c,.int .i64 a,.int .i64 m,.int .i64 b,.func (.func f) #[] lb] w (ZF base g c (ltC cf) P (L++[y]) Q w):=by
 have hbN:b<=N:=by simp only[List.length_append,List.length_cons] at hN;omega
 have d0:((m:Int)-(a:Int)==1)=false:=by rw[beq_eq_false_iff_ne];omega
 have d1:((b:Int)-(m:Int)==1)=true:=by rw[beq_iff_eq];omega
 have hmN:m<N:=by omega
 have ham:a<=m:=by omega
 replace hN:=Hd hN;replace hcmp:=Hd hcmp;replace hw:=Hd hw;replace ha:=Hd ha;replace hn:=Hd hn;replace h:=Hd h;replace hL:=Hd hL;replace sl:=Hd sl;clear hR h2;go_enter Tryz.func202,Tryz.ntmps202;go_wp2_with (fail);go_loopw [14,15] (fun iv jv wr=>∃ (i j p q:Nat),iv=.int .i64 i/\jv=.int .i64 j/\Hid (i=a+p)/\Hid (j=a+q)/\Hid (BsR (fun z => !ltC cf y z) L p q)/\Hid (Ext w wr)) (fun iv jv _=>(intOf jv).toNat-(intOf iv).toNat)
 case atStart=>exact⟨a,m,0,L.length,rfl,rfl,rfl,hL.out.symm,BsR.start _ _,Ext.rf _⟩
 case round =>
  obtain⟨wo,rfl⟩:=Wq wr;obtain⟨i,j,p,q,rfl,rfl,hi,hj,HB,Y⟩:=hrel
  by_cases hpq:p<q
  ·obtain⟨z,ez,hzL,t1,t2,st1,st2⟩:=HB.out.mid hpq
   have hq:=HB.out.2.1;have hij:i<j:=by rw[hi.out,hj.out];omega
   have hjm:j<=m:=by rw[hj.out,<-hL.out];omega
   have hzn:=hn.out z hzL;obtain⟨t,ht⟩:∃ t,Hid (t=(p+q) / 2):=⟨_,rfl⟩;obtain⟨hh,hhh⟩:∃ hh,Hid (hh=(i+j) / 2):=⟨_,rfl⟩;rw[<-ht.out] at ez t1 t2 st1 st2;have eh:hh=a+t:=by rw[hhh.out,hi.out,hj.out,ht.out];omega
   have h1:i<=hh:=by rw[hhh.out];omega
   have h2:hh<j:=by rw[hhh.out];omega
   have mv:((i:Int)+(j:Int)) / 2=(hh:Int):=by rw[hhh.out];omega
   have ch:wo.cell? ⟨g,hh,none⟩=some (.int .i64 z):=(h.out.ext Y.out).at (P:=P) (j:=t) (by rw[List.getElem?_append_left (by have:=(List.getElem?_eq_some_iff.1 ez).1;omega)];exact ez) (by have:=ha.out;omega);have cm:wo.cell? ⟨g,m,none⟩=some (.int .i64 y):=(h.out.ext Y.out).at (P:=P) (j:=L.length) (by rw[List.getElem?_append_right (by omega),Nat.sub_self];rfl) (by have:=ha.out;have:=hL.out;omega);have hM:=Hd (Mod.of_ext (S:=fun k=>k=g) Y.out);have hc:∀ n,Calls Tryz.prog f (#[.int .i64 y,.int .i64 z]++lb) (wo.drewN n) fun e W'=>e=.returned (.int .i64 (cf y z))/\∃ q,W'=(wo.drewN n).drewN q:=fun n=>hcmp.out _ y z hy hzn (hM.out.drewN n)
   replace eh:=Hd eh;replace ht:=Hd ht;clear ez hzL
   by_cases hlv:cf y z<0
   ·replace st2:=Hd (st2.out (by show (!decide (cf y z<0))=false;rw[decide_eq_true hlv];rfl))
    have hlb:decide (cf y z<0)=true:=decide_eq_true hlv;clear st1;go_wp2_with (fail);go_quiet (first | (go_at_fn f;refine Calls.quiet_of (hc _)));go_wp2_with (fail);go_roundw
    case rel=>exact⟨i,hh,p,t,rfl,rfl,hi,eh,st2.out,Y.out.drewN _⟩
    case measure=>simp[intOf]<;>omega
   ·replace st1:=Hd (st1.out (by show (!decide (cf y z<0))=true;rw[decide_eq_false hlv];rfl))
    have hlb:decide (cf y z<0)=false:=decide_eq_false hlv;clear st2;go_wp2_with (fail);go_quiet (first | (go_at_fn f;refine Calls.quiet_of (hc _)));go_wp2_with (fail);go_roundw
    case rel=>exact⟨hh+1,j,t+1,q,by go_num,rfl,by have:=eh.out;show hh+1=_+(t+1);omega,hj,st1.out,Y.out.drewN _⟩
    case measure=>simp[intOf]<;>omega
  ·obtain⟨b1,b2,b3,b4⟩:=HB.out
   obtain rfl:p=q:=by omega
   obtain rfl:i=j:=by rw[hi.out,hj.out]
   have iN:i<=m:=by rw[hi.out,<-hL.out];omega
   have b3':∀ z,(L.take p).getLast?=some z->ltC cf y z=false:=fun z hz=>by simpa using b3 z hz
   have b4':∀ z,(L.drop p).head?=some z->ltC cf y z=true:=fun z hz=>by simpa using b4 z hz
   have START:Hid (UpS base g c (P++L.take p) (L.drop p) y Q (L.drop p).length w wo):=by
    refine⟨?_,Mod.of_ext Y.out⟩;have h1:=h.out.ext Y.out;rw[List.take_length,List.drop_length,List.append_assoc,<-List.append_assoc (L.take p),List.take_append_drop];exact h1
   have HF:Hid (Is (ltC cf) (L++[y]) (L.take p++(y::L.drop p))):=by
    refine⟨?_,Zb3 hw.out (by rw[List.take_append_drop];exact sl.out) (by rw[List.take_append_drop];exact hlt) b3' b4'⟩;have:=List.take_append_drop p L;refine List.perm_middle.trans ?_;rw[this];exact List.perm_append_comm (l₁:=[y]) (l₂:=L)
   have hi2:Hid ((P++L.take p).length=i):=by
    have:(P++L.take p).length=i:=by rw[List.length_append,List.length_take,ha.out,hi.out];omega
    exact this
   have hLm:Hid (m=i+(L.drop p).length):=by
    have:m=i+(L.drop p).length:=by rw[List.length_drop,hi.out];have:=hL.out;omega
    exact this
   generalize L.take p=L1 at *;generalize L.drop p=L2 at *;clear HB b1 b2 b3 b4 b3' b4' hj hlt hL;go_wp2_with (fail);go_loopw [17] (fun kv wr=>∃ (k s:Nat),kv=.int .i64 k/\Hid (k=i+s)/\s<=L2.length/\Hid (UpS base g c (P++L1) L2 y Q s w wr)) (fun kv _=>(intOf kv).toNat)
   case atStart=>exact⟨m,L2.length,rfl,hLm,by omega,START⟩
   case round =>
    obtain⟨wi,rfl⟩:=Wq wr;obtain⟨k,s,rfl,hk,hs,HU⟩:=hrel;clear START
    cases s with
    | succ s =>
     obtain⟨z,c1,f1,c2,f2,NX⟩:=HU.out.down (by omega) hi2.out;obtain⟨kp,hkp⟩:∃ kp,Hid (kp=i+s):=⟨_,rfl⟩;rw[<-hkp.out] at c1 f1 c2 f2 NX;obtain rfl:k=kp+1:=by rw[hk.out,hkp.out];omega
     have kpm:kp<m:=by rw[hkp.out,hLm.out];omega
     have hwp:IntKind.i64.wrap (kp:Int)=(kp:Int):=IntWalk.i64_in _ (by omega);have jz:(kp:Int)+1<(N:Int):=by omega
     have jz1:(kp:Int)<(N:Int):=by omega
     have hjaz:(i:Int)<(kp:Int)+1:=by rw[hkp.out];omega
     have p0:(0:Int)<=(kp:Int)+1:=by omega
     have e0:((kp:Int)+1).toNat=kp+1:=by omega
     clear HU;go_wp2_with (fail);go_region
     all_goals go_wp2
     go_roundw
     case rel=>exact⟨kp,s,by first | rfl | go_num,hkp,by omega,NX.out.ext ((Ext.rf _).drew)⟩
     case measure=>simp[intOf]<;>omega
    | zero =>
     obtain rfl:k=i:=hk.out;have FIN:Hid (ZF base g c (ltC cf) P (L++[y]) Q w (.returned (.tuple #[])) wi):=by
      refine⟨_,HF.out,rfl,?_,HU.out.2⟩;have:=HU.out.1;rw[List.take_zero,List.drop_zero] at this
      simpa only [List.append_assoc,List.cons_append,List.nil_append] using this
     clear HU;go_wp2_with (fail);go_end0;exact FIN.out
def Zf1 (base g c:Nat)(P L1 R1 L2 R2 Q:List Nat)(w W:World) : Prop:=OwN W base g c (P++(L1++(R1++(L2++(R2++Q)))))/\Mod (fun k=>k=g) w W
def Zf2 (base g c:Nat)(lt:Nat->Nat->Bool)(P L1 R1 L2 R2 Q:List Nat)(w W:World) : Prop:=∃ M1,Is lt (L1++R1) M1/\OwN W base g c (P++(M1++(L2++(R2++Q))))/\Mod (fun k=>k=g) w W
def ZdL (T:World->Prop)(e:Ending)(w':World) : Prop:=e=.returned (.tuple #[])/\T w'
def SymIH (base g c f:Nat)(lb:Array Value)(cf:Nat->Nat->Int)(nn N d:Nat)(w:World) : Prop :=
 ∀ (a m b:Nat) (P L R Q:List Nat) (W:World),b-a<d->Mod (fun k=>k=g) w W->OwN W base g c (P++(L++(R++Q)))->(P++(L++(R++Q))).length=N->P.length=a->a+L.length=m->m+R.length=b->0<L.length->0<R.length ->
  Srt (ltC cf) L->Srt (ltC cf) R->Apart (· < ·) L R->(∀ x∈L++R,x<nn)->Calls Tryz.prog 202 #[.slice (some ⟨g,0,none⟩) N c,.int .i64 a,.int .i64 m,.int .i64 b,.func (.func f) #[] lb] W (ZF base g c (ltC cf) P (L++R) Q W)
def QZ (a m b mid lo hi:Nat) : Prop:=(m<=mid/\lo=a/\hi=m)\/(mid<m/\lo+b=mid+m/\hi=mid)
theorem ZaY {lt:Nat->Nat->Bool}{A B:List Nat}(ha:Srt lt A)(hb:Srt lt B)(h:A.length=0\/B.length=0) : Srt lt (A++B):=by
 rcases h with h | h
 ·rw[List.eq_nil_of_length_eq_zero h];exact hb
 ·rw[List.eq_nil_of_length_eq_zero h,List.append_nil];exact ha
theorem ZdM {A B T:List Nat}(h:A.length=0\/B.length=0) : A++(B++T)=B++(A++T):=by
 rcases h with h | h
 ·rw[List.eq_nil_of_length_eq_zero h];rfl
 ·rw[List.eq_nil_of_length_eq_zero h];rfl
section
variable {base g c f N nn a m b s mid en d:Nat} {lb:Array Value} {cf:Nat->Nat->Int} {P L1 L2 R1 R2 Q:List Nat} {w:World}
theorem SymIH.first (IH:SymIH base g c f lb cf nn N d w)(hd:mid-a<d)(hN:(P++(L1++(L2++(R1++(R2++Q))))).length=N)(ha:P.length=a)(h1:a+L1.length=s)(h2:s+R1.length=mid)(sl:Srt (ltC cf) L1)(sr:Srt (ltC cf) R1)(hlt:Apart (· < ·) L1 R1)(hn:∀ x∈L1++R1,x<nn) :
  (∀ W,Zf1 base g c P L1 R1 L2 R2 Q w W->0<L1.length->0<R1.length->Calls Tryz.prog 202 #[.slice (some ⟨g,0,none⟩) N c,.int .i64 a,.int .i64 s,.int .i64 mid,.func (.func f) #[] lb] W (ZdL (Zf2 base g c (ltC cf) P L1 R1 L2 R2 Q w))) /\
  (∀ W,Zf1 base g c P L1 R1 L2 R2 Q w W->(L1.length=0\/R1.length=0)->Zf2 base g c (ltC cf) P L1 R1 L2 R2 Q w W):=by
 refine⟨fun W hT h3 h4=>?_,fun W hT h3=>⟨_,Is.rf (ZaY sl sr h3),by simpa only [List.append_assoc] using hT.1,hT.2⟩⟩;refine(IH a s mid P L1 R1 (L2++(R2++Q)) W hd hT.2 hT.1 (by simp only[List.length_append] at hN ⊢;omega) ha h1 h2 h3 h4 sl sr hlt hn).mono ?_;rintro e w' ⟨M,h5,rfl,h6,h7⟩;exact⟨rfl,M,h5,h6,hT.2.tr h7⟩
theorem SymIH.second (IH:SymIH base g c f lb cf nn N d w)(hd:b-mid<d)(hN:(P++(L1++(L2++(R1++(R2++Q))))).length=N)(ha:P.length=a)(h1:a+L1.length+R1.length=mid)(h2:mid+L2.length=en)(h3:en+R2.length=b)(sl:Srt (ltC cf) L2)(sr:Srt (ltC cf) R2)(hlt:Apart (· < ·) L2 R2)(hn:∀ x∈L2++R2,x<nn)
  (hA:Apart (strictly (ltC cf)) (L1++R1) (L2++R2)) {L R:List Nat} (hL:L=L1++L2) (hR:R=R1++R2) :
  (∀ W,Zf2 base g c (ltC cf) P L1 R1 L2 R2 Q w W->0<L2.length->0<R2.length->Calls Tryz.prog 202 #[.slice (some ⟨g,0,none⟩) N c,.int .i64 mid,.int .i64 en,.int .i64 b,.func (.func f) #[] lb] W (ZF base g c (ltC cf) P (L++R) Q w)) /\
  (∀ W,Zf2 base g c (ltC cf) P L1 R1 L2 R2 Q w W->(L2.length=0\/R2.length=0)->ZF base g c (ltC cf) P (L++R) Q w (.returned (.tuple #[])) W):=by
 subst hL hR;have hp:=Zb4 L1 L2 R1 R2;refine⟨?_,?_⟩
 ·rintro W ⟨M1,i1,hO,hM⟩ h4 h5
  have hl1:=i1.len;rw[List.length_append] at hl1;refine(IH mid en b (P++M1) L2 R2 Q W hd hM (by rw[List.append_assoc];exact hO) (by simp only[List.length_append] at hN ⊢;omega) (by rw[List.length_append];omega) h2 h3 h4 h5 sl sr hlt hn).mono ?_;rintro e w' ⟨M,h6,rfl,h7,h8⟩;exact⟨M1++M,(i1.join h6 hA).perm hp,rfl,by simpa only [List.append_assoc] using h7,hM.tr h8⟩
 ·rintro W ⟨M1,i1,hO,hM⟩ h4
  exact⟨M1++(L2++R2),(i1.join (Is.rf (ZaY sl sr h4)) hA).perm hp,rfl,by simpa only [List.append_assoc] using hO,hM⟩
end
theorem Zb8 {base g c N a m en s:Nat}(fv:Value){P L1 L2 R1 R2 Q:List Nat}{w wo:World}(hO:OwN wo base g c (P++(L1++(L2++(R1++(R2++Q))))))(hM:Mod (fun k=>k=g) w wo)(hN:(P++(L1++(L2++(R1++(R2++Q))))).length=N)(ha:P.length=a)(h1:a+L1.length=s)(h2:s+L2.length=m)(h3:m+R1.length=en)(hl:N<=1000000000) :
  (0<L2.length->0<R1.length->Calls Tryz.prog 204 #[.slice (some ⟨g,0,none⟩) N c,.int .i64 s,.int .i64 m,.int .i64 en,fv] wo (ZdL (Zf1 base g c P L1 R1 L2 R2 Q w))) /\
  ((L2.length=0\/R1.length=0)->Zf1 base g c P L1 R1 L2 R2 Q w wo):=by
 constructor
 ·intro h4 h5
  refine(ZeZ base g c fv s m en N (P++L1) L2 R1 (R2++Q) wo (by simpa only [List.append_assoc] using hO) (by simpa only [List.append_assoc] using hN) (by rw[List.length_append];omega) h2 h3 h4 h5 hl).mono ?_;rintro e w' ⟨rfl,h6,h7⟩;exact⟨rfl,by simpa only [List.append_assoc] using h6,hM.tr h7⟩
 ·intro h4
  refine⟨?_,hM⟩;rw[ZdM (T:=R2++Q) h4] at hO;exact hO
theorem Zf3 (base g c:Nat)(f:Nat)(lb:Array Value)(cf:Nat->Nat->Int)(nn a m b N mid lo hi:Nat)(P L R Q:List Nat)(w:World)(hw:Weak (ltC cf))(eg:∀ args w,(callFunc f args).run Tryz.prog w=.ok (.enter f args) w)(hcmp:CmpOk f lb cf nn g w)(IH:SymIH base g c f lb cf nn N (b-a) w)
  (h:OwN w base g c (P++(L++(R++Q)))) (hN:(P++(L++(R++Q))).length=N) (ha:P.length=a) (hL:a+L.length=m) (hR:m+R.length=b) (h1:2<=L.length) (h2:2<=R.length) (sl:Srt (ltC cf) L) (sr:Srt (ltC cf) R) (hlt:Apart (· < ·) L R) (hn:∀ x∈L++R,x<nn) (hl:N<=1000000000)
  (hmid:mid=(a+b) / 2) (hcase:(m<=mid/\lo=a/\hi=m)\/(mid<m/\lo+b=mid+m/\hi=mid)) :
  Calls Tryz.prog 202 #[.slice (some ⟨g,0,none⟩) N c,.int .i64 a,.int .i64 m,.int .i64 b,.func (.func f) #[] lb] w (ZF base g c (ltC cf) P (L++R) Q w):=by
 have hbN:b<=N:=by simp only[List.length_append] at hN;omega
 have d0:((m:Int)-(a:Int)==1)=false:=by rw[beq_eq_false_iff_ne];omega
 have d1:((b:Int)-(m:Int)==1)=false:=by rw[beq_eq_false_iff_ne];omega
 have k1:a+2<=m:=by omega
 have k2:m+2<=b:=by omega
 have k3:a<mid/\mid<b/\2*mid<=a+b/\a+b<=2*mid+1:=by omega
 have k4:a<=lo/\lo<=hi/\hi<=m/\hi<=mid:=by omega
 have HLR:Hid (a+L.length=m/\m+R.length=b):=⟨hL,hR⟩;have HC:QZ a m b mid lo hi:=hcase;have HS0:Hid (SymR (ltC cf) L R a mid lo hi lo hi):=SymR.start _ _ _ _ _ k4.2.1;have mvm:((a:Int)+(b:Int)) / 2=(mid:Int):=by rw[hmid];omega
 obtain⟨p1,hp1⟩:∃ p1,Hid (p1+1=mid+m):=⟨mid+m-1,by show mid+m-1+1=mid+m;omega⟩;have hp1':=hp1.out;have env:(mid:Int)+(m:Int)=(p1:Int)+1:=by omega
 have hwp1:IntKind.i64.wrap (p1:Int)=(p1:Int):=IntWalk.i64_in _ (by omega);clear hL hR h1 h2 hmid;replace hN:=Hd hN;replace hcmp:=Hd hcmp;replace hw:=Hd hw;replace ha:=Hd ha;replace hn:=Hd hn;replace h:=Hd h;replace sl:=Hd sl;replace sr:=Hd sr;replace hlt:=Hd hlt;replace IH:=Hd IH;rcases hcase with⟨q1,q2,q3⟩ | ⟨q1,q2,q3⟩
 ·have t0:¬(mid:Int)<(m:Int):=by omega
  have q2':=q2.symm;have q3':=q3.symm;clear q2 q3;subst q2' q3';clear q1 hp1';go_enter Tryz.func202,Tryz.ntmps202;go_wp2_with (fail);clear t0;go_loopw [20,21] (fun iv jv wr=>∃ (s r:Nat),iv=.int .i64 s/\jv=.int .i64 r/\Hid (SymR (ltC cf) L R a mid a m s r)/\Hid (Ext w wr)) (fun iv jv _=>(intOf jv).toNat-(intOf iv).toNat)
  case atStart=>exact⟨_,_,rfl,rfl,HS0,Ext.rf _⟩
  case round =>
   obtain⟨wo,rfl⟩:=Wq wr;obtain⟨s,r,rfl,rfl,HB,Y⟩:=hrel;clear HS0 mvm env;obtain⟨g1,g2,g3,_,_⟩:=HB.out
   by_cases hsr:s<r
   ·obtain⟨cc,hcc⟩:∃ cc,Hid (cc=(s+r) / 2):=⟨_,rfl⟩
    have c1:s<=cc:=by rw[hcc.out];omega
    have c2:cc<r:=by rw[hcc.out];omega
    have mvc:((s:Int)+(r:Int)) / 2=(cc:Int):=by rw[hcc.out];omega
    obtain⟨hL,hR⟩:=HLR.out;obtain⟨pc,hpc⟩:∃ pc,Hid (pc=m+(mid-1-cc)):=⟨_,rfl⟩;have hpc':=hpc.out;have hp1':=hp1.out;have hcs:=HC;unfold QZ at hcs;have epc:(p1:Int)-(cc:Int)=(pc:Int):=by omega
    have pcb:pc<N:=by omega
    have ccN:cc<N:=by omega
    have ex:L[cc-a]?=some (L[cc-a]'(by omega)):=List.getElem?_eq_getElem _;have ey:R[mid-1-cc]?=some (R[mid-1-cc]'(by omega)):=List.getElem?_eq_getElem _;generalize L[cc-a]'(by omega)=x at ex;generalize R[mid-1-cc]'(by omega)=y at ey;have hxn:=hn.out x (List.mem_append_left _ (List.mem_of_getElem? ex));have hyn:=hn.out y (List.mem_append_right _ (List.mem_of_getElem? ey));have cx:wo.cell? ⟨g,cc,none⟩=some (.int .i64 x):=(h.out.ext Y.out).at (P:=P) (j:=cc-a) (by rw[List.getElem?_append_left (by omega)];exact ex) (by have:=ha.out;omega);have cy:wo.cell? ⟨g,pc,none⟩=some (.int .i64 y):=(h.out.ext Y.out).at (P:=P) (j:=L.length+(mid-1-cc)) (by rw[List.getElem?_append_right (by omega),Nat.add_sub_cancel_left,List.getElem?_append_left (by omega)];exact ey) (by have:=ha.out;omega);have st1:=Hd (HB.out.left c1 c2 ex ey);have st2:=Hd (HB.out.right c1 c2 ex ey);have hM:=Hd (Mod.of_ext (S:=fun k=>k=g) Y.out);have hc:∀ n,Calls Tryz.prog f (#[.int .i64 y,.int .i64 x]++lb) (wo.drewN n) fun e W'=>e=.returned (.int .i64 (cf y x))/\∃ q,W'=(wo.drewN n).drewN q:=fun n=>hcmp.out _ y x hyn hxn (hM.out.drewN n)
    clear ex ey hpc' hp1' hL hR hcs
    by_cases hlv:cf y x<0
    ·replace st2:=Hd (st2.out (decide_eq_true hlv))
     have hlb:decide (cf y x<0)=true:=decide_eq_true hlv;clear st1;go_wp2_with (fail);go_quiet (first | (go_at_fn f;refine Calls.quiet_of (hc _)));go_wp2_with (fail);go_roundw
     case rel=>exact⟨s,cc,rfl,rfl,st2.out,Y.out.drewN _⟩
     case measure=>simp[intOf]<;>omega
    ·replace st1:=Hd (st1.out (decide_eq_false hlv))
     have hlb:decide (cf y x<0)=false:=decide_eq_false hlv;clear st2;go_wp2_with (fail);go_quiet (first | (go_at_fn f;refine Calls.quiet_of (hc _)));go_wp2_with (fail);go_roundw
     case rel=>exact⟨cc+1,r,by go_num,rfl,st1.out,Y.out.drewN _⟩
     case measure=>simp[intOf]<;>omega
   ·obtain rfl:s=r:=by omega
    obtain⟨hL,hR⟩:=HLR.out;have hN':=hN.out;have hA:=Zak hw.out sl.out sr.out hlt.out hL hR HB.out HC k3.2.2.1 k4.1;obtain⟨en,hen⟩:∃ en,Hid (en=m+(mid-s)):=⟨_,rfl⟩;have hen':=hen.out;have hp1':=hp1.out;have een:(p1:Int)+1-(s:Int)=(en:Int):=by omega
    have eL:L=L.take (s-a)++L.drop (s-a):=(List.take_append_drop _ _).symm;have hcs:=HC;unfold QZ at hcs;have hmr:mid-s<=R.length:=by omega
    have eR:R=R.take (mid-s)++R.drop (mid-s):=(List.take_append_drop _ _).symm;have l1:(L.take (s-a)).length=s-a:=by rw[List.length_take];omega
    have l2:(L.drop (s-a)).length=m-s:=by rw[List.length_drop];omega
    have l3:(R.take (mid-s)).length=mid-s:=by rw[List.length_take];omega
    have l4:(R.drop (mid-s)).length=b-en:=by rw[List.length_drop];omega
    generalize L.take (s-a)=L1 at *;generalize L.drop (s-a)=L2 at *;generalize R.take (mid-s)=R1 at *;generalize R.drop (mid-s)=R2 at *;have hO:=h.out.ext Y.out;have sl':=sl.out;have sr':=sr.out;have hlt':=hlt.out;have hn':=hn.out;rw[eL] at sl' hlt' hO hN' hn';rw[eR] at sr' hlt' hO hN' hn';simp only[List.append_assoc] at hO hN';have sl1:=Zs.1 sl';have sr1:=Zs.1 sr';have ap1:=Apart.app_left.1 hlt';have ROT:=Zb8 (m:=m) (en:=en) (s:=s) (.func (.func f) #[] lb) hO (Mod.of_ext Y.out) hN' ha.out (by omega) (by omega) (by omega) hl;have FI:=IH.out.first (s:=s) (mid:=mid) (by omega) hN' ha.out (by omega) (by omega) sl1.1 sr1.1 (Apart.app_right.1 ap1.1).1 (fun x hx=>hn' x (by rcases List.mem_append.1 hx with h9 | h9<;>simp[h9]));have SE:=IH.out.second (b:=b) (mid:=mid) (en:=en) (by omega) hN' ha.out (by omega) (by omega) (by omega) sl1.2.1 sr1.2.1 (Apart.app_right.1 ap1.2).2 (fun x hx=>hn' x (by rcases List.mem_append.1 hx with h9 | h9<;>simp[h9])) hA eL eR;replace ROT:=Hd ROT;replace FI:=Hd FI;replace SE:=Hd SE;have f1:s<=m:=by omega
    have f2:s<=mid:=by omega
    have f3:a<=s:=by omega
    have f4:en<=b:=by omega
    have e1:L1.length=s-a:=l1;clear hO hN' sl' sr' hlt' hn' sl1 sr1 ap1 hA eL eR hL hR hp1' hcs hmr HB e1;have hen2:en+s=m+mid:=by omega
    clear hen' hsr;replace l1:=Hd l1;replace l2:=Hd l2;replace l3:=Hd l3;replace l4:=Hd l4
    by_cases cA:s<m<;>by_cases cB:s<mid<;>by_cases cC:a<s<;>by_cases cD:en<b
    ·
     first
     | (exfalso;clear ROT FI SE;omega)
     | (have y1:(s:Int)<(m:Int):=by omega
        have y2:(m:Int)<(en:Int):=by omega
        have y3:(a:Int)<(s:Int):=by omega
        have y4:(s:Int)<(mid:Int):=by omega
        have y5:(mid:Int)<(en:Int):=by omega
        have y6:(en:Int)<(b:Int):=by omega
        clear cA cB cC cD hen2 hen;replace ROT:=Hd (ROT.out.1 (by rw[l2.out];omega) (by rw[l3.out];omega));replace FI:=Hd (fun(W:World) hT=>FI.out.1 W hT (by rw[l1.out];omega) (by rw[l3.out];omega));replace SE:=Hd (fun(W:World) hT=>SE.out.1 W hT (by rw[l2.out];omega) (by rw[l4.out];omega));go_wp2_with (fail);refine ROT.out.mono ?_;rintro e w1 ⟨rfl,T1⟩;replace T1:=Hd T1;go_wp2_with (fail);refine(FI.out w1 T1.out).mono ?_;rintro e w2 ⟨rfl,T2⟩;replace T2:=Hd T2;go_wp2_with (fail);refine(SE.out w2 T2.out).mono ?_;rintro e w3 HS3;obtain⟨M3,i3,rfl,o3,m3⟩:=HS3;have T3:Hid (ZF base g c (ltC cf) P (L++R) Q w (.returned (.tuple #[])) w3):=⟨M3,i3,rfl,o3,m3⟩;clear i3 o3 m3;go_wp2_with (fail);go_end0;exact T3.out)
    ·
     first
     | (exfalso;clear ROT FI SE;omega)
     | (have y1:(s:Int)<(m:Int):=by omega
        have y2:(m:Int)<(en:Int):=by omega
        have y3:(a:Int)<(s:Int):=by omega
        have y4:(s:Int)<(mid:Int):=by omega
        have y5:(mid:Int)<(en:Int):=by omega
        have y6:¬(en:Int)<(b:Int):=by omega
        clear cA cB cC cD hen2 hen;replace ROT:=Hd (ROT.out.1 (by rw[l2.out];omega) (by rw[l3.out];omega));replace FI:=Hd (fun(W:World) hT=>FI.out.1 W hT (by rw[l1.out];omega) (by rw[l3.out];omega));replace SE:=Hd (fun(W:World) hT=>SE.out.2 W hT (by rw[l2.out,l4.out];omega));go_wp2_with (fail);refine ROT.out.mono ?_;rintro e w1 ⟨rfl,T1⟩;replace T1:=Hd T1;go_wp2_with (fail);refine(FI.out w1 T1.out).mono ?_;rintro e w2 ⟨rfl,T2⟩;replace T2:=Hd T2;go_wp2_with (fail);have T3:=Hd (SE.out w2 T2.out);go_end0;exact T3.out)
    ·
     first
     | (exfalso;clear ROT FI SE;omega)
     | (have y1:(s:Int)<(m:Int):=by omega
        have y2:(m:Int)<(en:Int):=by omega
        have y3:¬(a:Int)<(s:Int):=by omega
        have y4:(s:Int)<(mid:Int):=by omega
        have y5:(mid:Int)<(en:Int):=by omega
        have y6:(en:Int)<(b:Int):=by omega
        clear cA cB cC cD hen2 hen;replace ROT:=Hd (ROT.out.1 (by rw[l2.out];omega) (by rw[l3.out];omega));replace FI:=Hd (fun(W:World) hT=>FI.out.2 W hT (by rw[l1.out,l3.out];omega));replace SE:=Hd (fun(W:World) hT=>SE.out.1 W hT (by rw[l2.out];omega) (by rw[l4.out];omega));go_wp2_with (fail);refine ROT.out.mono ?_;rintro e w1 ⟨rfl,T1⟩;replace T1:=Hd T1;go_wp2_with (fail);have T2:=Hd (FI.out w1 T1.out);refine(SE.out w1 T2.out).mono ?_;rintro e w3 HS3;obtain⟨M3,i3,rfl,o3,m3⟩:=HS3;have T3:Hid (ZF base g c (ltC cf) P (L++R) Q w (.returned (.tuple #[])) w3):=⟨M3,i3,rfl,o3,m3⟩;clear i3 o3 m3;go_wp2_with (fail);go_end0;exact T3.out)
    ·
     first
     | (exfalso;clear ROT FI SE;omega)
     | (have y1:(s:Int)<(m:Int):=by omega
        have y2:(m:Int)<(en:Int):=by omega
        have y3:¬(a:Int)<(s:Int):=by omega
        have y4:(s:Int)<(mid:Int):=by omega
        have y5:(mid:Int)<(en:Int):=by omega
        have y6:¬(en:Int)<(b:Int):=by omega
        clear cA cB cC cD hen2 hen;replace ROT:=Hd (ROT.out.1 (by rw[l2.out];omega) (by rw[l3.out];omega));replace FI:=Hd (fun(W:World) hT=>FI.out.2 W hT (by rw[l1.out,l3.out];omega));replace SE:=Hd (fun(W:World) hT=>SE.out.2 W hT (by rw[l2.out,l4.out];omega));go_wp2_with (fail);refine ROT.out.mono ?_;rintro e w1 ⟨rfl,T1⟩;replace T1:=Hd T1;go_wp2_with (fail);have T2:=Hd (FI.out w1 T1.out);have T3:=Hd (SE.out w1 T2.out);go_end0;exact T3.out)
    ·
     first
     | (exfalso;clear ROT FI SE;omega)
     | (have y1:(s:Int)<(m:Int):=by omega
        have y2:¬(m:Int)<(en:Int):=by omega
        have y3:(a:Int)<(s:Int):=by omega
        have y4:¬(s:Int)<(mid:Int):=by omega
        have y5:(mid:Int)<(en:Int):=by omega
        have y6:(en:Int)<(b:Int):=by omega
        clear cA cB cC cD hen2 hen;have T1:=Hd (ROT.out.2 (by rw[l2.out,l3.out];omega));replace FI:=Hd (fun(W:World) hT=>FI.out.2 W hT (by rw[l1.out,l3.out];omega));replace SE:=Hd (fun(W:World) hT=>SE.out.1 W hT (by rw[l2.out];omega) (by rw[l4.out];omega));go_wp2_with (fail);have T2:=Hd (FI.out wo T1.out);refine(SE.out wo T2.out).mono ?_;rintro e w3 HS3;obtain⟨M3,i3,rfl,o3,m3⟩:=HS3;have T3:Hid (ZF base g c (ltC cf) P (L++R) Q w (.returned (.tuple #[])) w3):=⟨M3,i3,rfl,o3,m3⟩;clear i3 o3 m3;go_wp2_with (fail);go_end0;exact T3.out)
    ·
     first
     | (exfalso;clear ROT FI SE;omega)
     | (have y1:(s:Int)<(m:Int):=by omega
        have y2:¬(m:Int)<(en:Int):=by omega
        have y3:(a:Int)<(s:Int):=by omega
        have y4:¬(s:Int)<(mid:Int):=by omega
        have y5:(mid:Int)<(en:Int):=by omega
        have y6:¬(en:Int)<(b:Int):=by omega
        clear cA cB cC cD hen2 hen;have T1:=Hd (ROT.out.2 (by rw[l2.out,l3.out];omega));replace FI:=Hd (fun(W:World) hT=>FI.out.2 W hT (by rw[l1.out,l3.out];omega));replace SE:=Hd (fun(W:World) hT=>SE.out.2 W hT (by rw[l2.out,l4.out];omega));go_wp2_with (fail);have T2:=Hd (FI.out wo T1.out);have T3:=Hd (SE.out wo T2.out);go_end0;exact T3.out)
    ·
     first
     | (exfalso;clear ROT FI SE;omega)
     | (have y1:(s:Int)<(m:Int):=by omega
        have y2:¬(m:Int)<(en:Int):=by omega
        have y3:¬(a:Int)<(s:Int):=by omega
        have y4:¬(s:Int)<(mid:Int):=by omega
        have y5:(mid:Int)<(en:Int):=by omega
        have y6:(en:Int)<(b:Int):=by omega
        clear cA cB cC cD hen2 hen;have T1:=Hd (ROT.out.2 (by rw[l2.out,l3.out];omega));replace FI:=Hd (fun(W:World) hT=>FI.out.2 W hT (by rw[l1.out,l3.out];omega));replace SE:=Hd (fun(W:World) hT=>SE.out.1 W hT (by rw[l2.out];omega) (by rw[l4.out];omega));go_wp2_with (fail);have T2:=Hd (FI.out wo T1.out);refine(SE.out wo T2.out).mono ?_;rintro e w3 HS3;obtain⟨M3,i3,rfl,o3,m3⟩:=HS3;have T3:Hid (ZF base g c (ltC cf) P (L++R) Q w (.returned (.tuple #[])) w3):=⟨M3,i3,rfl,o3,m3⟩;clear i3 o3 m3;go_wp2_with (fail);go_end0;exact T3.out)
    ·
     first
     | (exfalso;clear ROT FI SE;omega)
     | (have y1:(s:Int)<(m:Int):=by omega
        have y2:¬(m:Int)<(en:Int):=by omega
        have y3:¬(a:Int)<(s:Int):=by omega
        have y4:¬(s:Int)<(mid:Int):=by omega
        have y5:(mid:Int)<(en:Int):=by omega
        have y6:¬(en:Int)<(b:Int):=by omega
        clear cA cB cC cD hen2 hen;have T1:=Hd (ROT.out.2 (by rw[l2.out,l3.out];omega));replace FI:=Hd (fun(W:World) hT=>FI.out.2 W hT (by rw[l1.out,l3.out];omega));replace SE:=Hd (fun(W:World) hT=>SE.out.2 W hT (by rw[l2.out,l4.out];omega));go_wp2_with (fail);have T2:=Hd (FI.out wo T1.out);have T3:=Hd (SE.out wo T2.out);go_end0;exact T3.out)
    ·
     first
     | (exfalso;clear ROT FI SE;omega)
     | (have y1:¬(s:Int)<(m:Int):=by omega
        have y2:(m:Int)<(en:Int):=by omega
        have y3:(a:Int)<(s:Int):=by omega
        have y4:(s:Int)<(mid:Int):=by omega
        have y5:¬(mid:Int)<(en:Int):=by omega
        have y6:(en:Int)<(b:Int):=by omega
        clear cA cB cC cD hen2 hen;have T1:=Hd (ROT.out.2 (by rw[l2.out,l3.out];omega));replace FI:=Hd (fun(W:World) hT=>FI.out.1 W hT (by rw[l1.out];omega) (by rw[l3.out];omega));replace SE:=Hd (fun(W:World) hT=>SE.out.2 W hT (by rw[l2.out,l4.out];omega));go_wp2_with (fail);refine(FI.out wo T1.out).mono ?_;rintro e w2 ⟨rfl,T2⟩;replace T2:=Hd T2;go_wp2_with (fail);have T3:=Hd (SE.out w2 T2.out);go_end0;exact T3.out)
    ·
     first
     | (exfalso;clear ROT FI SE;omega)
     | (have y1:¬(s:Int)<(m:Int):=by omega
        have y2:(m:Int)<(en:Int):=by omega
        have y3:(a:Int)<(s:Int):=by omega
        have y4:(s:Int)<(mid:Int):=by omega
        have y5:¬(mid:Int)<(en:Int):=by omega
        have y6:¬(en:Int)<(b:Int):=by omega
        clear cA cB cC cD hen2 hen;have T1:=Hd (ROT.out.2 (by rw[l2.out,l3.out];omega));replace FI:=Hd (fun(W:World) hT=>FI.out.1 W hT (by rw[l1.out];omega) (by rw[l3.out];omega));replace SE:=Hd (fun(W:World) hT=>SE.out.2 W hT (by rw[l2.out,l4.out];omega));go_wp2_with (fail);refine(FI.out wo T1.out).mono ?_;rintro e w2 ⟨rfl,T2⟩;replace T2:=Hd T2;go_wp2_with (fail);have T3:=Hd (SE.out w2 T2.out);go_end0;exact T3.out)
    ·
     first
     | (exfalso;clear ROT FI SE;omega)
     | (have y1:¬(s:Int)<(m:Int):=by omega
        have y2:(m:Int)<(en:Int):=by omega
        have y3:¬(a:Int)<(s:Int):=by omega
        have y4:(s:Int)<(mid:Int):=by omega
        have y5:¬(mid:Int)<(en:Int):=by omega
        have y6:(en:Int)<(b:Int):=by omega
        clear cA cB cC cD hen2 hen;have T1:=Hd (ROT.out.2 (by rw[l2.out,l3.out];omega));replace FI:=Hd (fun(W:World) hT=>FI.out.2 W hT (by rw[l1.out,l3.out];omega));replace SE:=Hd (fun(W:World) hT=>SE.out.2 W hT (by rw[l2.out,l4.out];omega));go_wp2_with (fail);have T2:=Hd (FI.out wo T1.out);have T3:=Hd (SE.out wo T2.out);go_end0;exact T3.out)
    ·
     first
     | (exfalso;clear ROT FI SE;omega)
     | (have y1:¬(s:Int)<(m:Int):=by omega
        have y2:(m:Int)<(en:Int):=by omega
        have y3:¬(a:Int)<(s:Int):=by omega
        have y4:(s:Int)<(mid:Int):=by omega
        have y5:¬(mid:Int)<(en:Int):=by omega
        have y6:¬(en:Int)<(b:Int):=by omega
        clear cA cB cC cD hen2 hen;have T1:=Hd (ROT.out.2 (by rw[l2.out,l3.out];omega));replace FI:=Hd (fun(W:World) hT=>FI.out.2 W hT (by rw[l1.out,l3.out];omega));replace SE:=Hd (fun(W:World) hT=>SE.out.2 W hT (by rw[l2.out,l4.out];omega));go_wp2_with (fail);have T2:=Hd (FI.out wo T1.out);have T3:=Hd (SE.out wo T2.out);go_end0;exact T3.out)
    ·
     first
     | (exfalso;clear ROT FI SE;omega)
     | (have y1:¬(s:Int)<(m:Int):=by omega
        have y2:¬(m:Int)<(en:Int):=by omega
        have y3:(a:Int)<(s:Int):=by omega
        have y4:¬(s:Int)<(mid:Int):=by omega
        have y5:¬(mid:Int)<(en:Int):=by omega
        have y6:(en:Int)<(b:Int):=by omega
        clear cA cB cC cD hen2 hen;have T1:=Hd (ROT.out.2 (by rw[l2.out,l3.out];omega));replace FI:=Hd (fun(W:World) hT=>FI.out.2 W hT (by rw[l1.out,l3.out];omega));replace SE:=Hd (fun(W:World) hT=>SE.out.2 W hT (by rw[l2.out,l4.out];omega));go_wp2_with (fail);have T2:=Hd (FI.out wo T1.out);have T3:=Hd (SE.out wo T2.out);go_end0;exact T3.out)
    ·
     first
     | (exfalso;clear ROT FI SE;omega)
     | (have y1:¬(s:Int)<(m:Int):=by omega
        have y2:¬(m:Int)<(en:Int):=by omega
        have y3:(a:Int)<(s:Int):=by omega
        have y4:¬(s:Int)<(mid:Int):=by omega
        have y5:¬(mid:Int)<(en:Int):=by omega
        have y6:¬(en:Int)<(b:Int):=by omega
        clear cA cB cC cD hen2 hen;have T1:=Hd (ROT.out.2 (by rw[l2.out,l3.out];omega));replace FI:=Hd (fun(W:World) hT=>FI.out.2 W hT (by rw[l1.out,l3.out];omega));replace SE:=Hd (fun(W:World) hT=>SE.out.2 W hT (by rw[l2.out,l4.out];omega));go_wp2_with (fail);have T2:=Hd (FI.out wo T1.out);have T3:=Hd (SE.out wo T2.out);go_end0;exact T3.out)
    ·
     first
     | (exfalso;clear ROT FI SE;omega)
     | (have y1:¬(s:Int)<(m:Int):=by omega
        have y2:¬(m:Int)<(en:Int):=by omega
        have y3:¬(a:Int)<(s:Int):=by omega
        have y4:¬(s:Int)<(mid:Int):=by omega
        have y5:¬(mid:Int)<(en:Int):=by omega
        have y6:(en:Int)<(b:Int):=by omega
        clear cA cB cC cD hen2 hen;have T1:=Hd (ROT.out.2 (by rw[l2.out,l3.out];omega));replace FI:=Hd (fun(W:World) hT=>FI.out.2 W hT (by rw[l1.out,l3.out];omega));replace SE:=Hd (fun(W:World) hT=>SE.out.2 W hT (by rw[l2.out,l4.out];omega));go_wp2_with (fail);have T2:=Hd (FI.out wo T1.out);have T3:=Hd (SE.out wo T2.out);go_end0;exact T3.out)
    ·
     first
     | (exfalso;clear ROT FI SE;omega)
     | (have y1:¬(s:Int)<(m:Int):=by omega
        have y2:¬(m:Int)<(en:Int):=by omega
        have y3:¬(a:Int)<(s:Int):=by omega
        have y4:¬(s:Int)<(mid:Int):=by omega
        have y5:¬(mid:Int)<(en:Int):=by omega
        have y6:¬(en:Int)<(b:Int):=by omega
        clear cA cB cC cD hen2 hen;have T1:=Hd (ROT.out.2 (by rw[l2.out,l3.out];omega));replace FI:=Hd (fun(W:World) hT=>FI.out.2 W hT (by rw[l1.out,l3.out];omega));replace SE:=Hd (fun(W:World) hT=>SE.out.2 W hT (by rw[l2.out,l4.out];omega));go_wp2_with (fail);have T2:=Hd (FI.out wo T1.out);have T3:=Hd (SE.out wo T2.out);go_end0;exact T3.out)
 ·have t0:(mid:Int)<(m:Int):=by omega
  have elo:(p1:Int)+1-(b:Int)=(lo:Int):=by omega
  have q3':=q3.symm;clear q3;subst q3';clear q1 q2 hp1';go_enter Tryz.func202,Tryz.ntmps202;go_wp2_with (fail);clear t0 elo;go_loopw [20,21] (fun iv jv wr=>∃ (s r:Nat),iv=.int .i64 s/\jv=.int .i64 r/\Hid (SymR (ltC cf) L R a mid lo mid s r)/\Hid (Ext w wr)) (fun iv jv _=>(intOf jv).toNat-(intOf iv).toNat)
  case atStart=>exact⟨_,_,rfl,rfl,HS0,Ext.rf _⟩
  case round =>
   obtain⟨wo,rfl⟩:=Wq wr;obtain⟨s,r,rfl,rfl,HB,Y⟩:=hrel;clear HS0 mvm env;obtain⟨g1,g2,g3,_,_⟩:=HB.out
   by_cases hsr:s<r
   ·obtain⟨cc,hcc⟩:∃ cc,Hid (cc=(s+r) / 2):=⟨_,rfl⟩
    have c1:s<=cc:=by rw[hcc.out];omega
    have c2:cc<r:=by rw[hcc.out];omega
    have mvc:((s:Int)+(r:Int)) / 2=(cc:Int):=by rw[hcc.out];omega
    obtain⟨hL,hR⟩:=HLR.out;obtain⟨pc,hpc⟩:∃ pc,Hid (pc=m+(mid-1-cc)):=⟨_,rfl⟩;have hpc':=hpc.out;have hp1':=hp1.out;have hcs:=HC;unfold QZ at hcs;have epc:(p1:Int)-(cc:Int)=(pc:Int):=by omega
    have pcb:pc<N:=by omega
    have ccN:cc<N:=by omega
    have ex:L[cc-a]?=some (L[cc-a]'(by omega)):=List.getElem?_eq_getElem _;have ey:R[mid-1-cc]?=some (R[mid-1-cc]'(by omega)):=List.getElem?_eq_getElem _;generalize L[cc-a]'(by omega)=x at ex;generalize R[mid-1-cc]'(by omega)=y at ey;have hxn:=hn.out x (List.mem_append_left _ (List.mem_of_getElem? ex));have hyn:=hn.out y (List.mem_append_right _ (List.mem_of_getElem? ey));have cx:wo.cell? ⟨g,cc,none⟩=some (.int .i64 x):=(h.out.ext Y.out).at (P:=P) (j:=cc-a) (by rw[List.getElem?_append_left (by omega)];exact ex) (by have:=ha.out;omega);have cy:wo.cell? ⟨g,pc,none⟩=some (.int .i64 y):=(h.out.ext Y.out).at (P:=P) (j:=L.length+(mid-1-cc)) (by rw[List.getElem?_append_right (by omega),Nat.add_sub_cancel_left,List.getElem?_append_left (by omega)];exact ey) (by have:=ha.out;omega);have st1:=Hd (HB.out.left c1 c2 ex ey);have st2:=Hd (HB.out.right c1 c2 ex ey);have hM:=Hd (Mod.of_ext (S:=fun k=>k=g) Y.out);have hc:∀ n,Calls Tryz.prog f (#[.int .i64 y,.int .i64 x]++lb) (wo.drewN n) fun e W'=>e=.returned (.int .i64 (cf y x))/\∃ q,W'=(wo.drewN n).drewN q:=fun n=>hcmp.out _ y x hyn hxn (hM.out.drewN n)
    clear ex ey hpc' hp1' hL hR hcs
    by_cases hlv:cf y x<0
    ·replace st2:=Hd (st2.out (decide_eq_true hlv))
     have hlb:decide (cf y x<0)=true:=decide_eq_true hlv;clear st1;go_wp2_with (fail);go_quiet (first | (go_at_fn f;refine Calls.quiet_of (hc _)));go_wp2_with (fail);go_roundw
     case rel=>exact⟨s,cc,rfl,rfl,st2.out,Y.out.drewN _⟩
     case measure=>simp[intOf]<;>omega
    ·replace st1:=Hd (st1.out (decide_eq_false hlv))
     have hlb:decide (cf y x<0)=false:=decide_eq_false hlv;clear st2;go_wp2_with (fail);go_quiet (first | (go_at_fn f;refine Calls.quiet_of (hc _)));go_wp2_with (fail);go_roundw
     case rel=>exact⟨cc+1,r,by go_num,rfl,st1.out,Y.out.drewN _⟩
     case measure=>simp[intOf]<;>omega
   ·obtain rfl:s=r:=by omega
    obtain⟨hL,hR⟩:=HLR.out;have hN':=hN.out;have hA:=Zak hw.out sl.out sr.out hlt.out hL hR HB.out HC k3.2.2.1 k4.1;obtain⟨en,hen⟩:∃ en,Hid (en=m+(mid-s)):=⟨_,rfl⟩;have hen':=hen.out;have hp1':=hp1.out;have een:(p1:Int)+1-(s:Int)=(en:Int):=by omega
    have eL:L=L.take (s-a)++L.drop (s-a):=(List.take_append_drop _ _).symm;have hcs:=HC;unfold QZ at hcs;have hmr:mid-s<=R.length:=by omega
    have eR:R=R.take (mid-s)++R.drop (mid-s):=(List.take_append_drop _ _).symm;have l1:(L.take (s-a)).length=s-a:=by rw[List.length_take];omega
    have l2:(L.drop (s-a)).length=m-s:=by rw[List.length_drop];omega
    have l3:(R.take (mid-s)).length=mid-s:=by rw[List.length_take];omega
    have l4:(R.drop (mid-s)).length=b-en:=by rw[List.length_drop];omega
    generalize L.take (s-a)=L1 at *;generalize L.drop (s-a)=L2 at *;generalize R.take (mid-s)=R1 at *;generalize R.drop (mid-s)=R2 at *;have hO:=h.out.ext Y.out;have sl':=sl.out;have sr':=sr.out;have hlt':=hlt.out;have hn':=hn.out;rw[eL] at sl' hlt' hO hN' hn';rw[eR] at sr' hlt' hO hN' hn';simp only[List.append_assoc] at hO hN';have sl1:=Zs.1 sl';have sr1:=Zs.1 sr';have ap1:=Apart.app_left.1 hlt';have ROT:=Zb8 (m:=m) (en:=en) (s:=s) (.func (.func f) #[] lb) hO (Mod.of_ext Y.out) hN' ha.out (by omega) (by omega) (by omega) hl;have FI:=IH.out.first (s:=s) (mid:=mid) (by omega) hN' ha.out (by omega) (by omega) sl1.1 sr1.1 (Apart.app_right.1 ap1.1).1 (fun x hx=>hn' x (by rcases List.mem_append.1 hx with h9 | h9<;>simp[h9]));have SE:=IH.out.second (b:=b) (mid:=mid) (en:=en) (by omega) hN' ha.out (by omega) (by omega) (by omega) sl1.2.1 sr1.2.1 (Apart.app_right.1 ap1.2).2 (fun x hx=>hn' x (by rcases List.mem_append.1 hx with h9 | h9<;>simp[h9])) hA eL eR;replace ROT:=Hd ROT;replace FI:=Hd FI;replace SE:=Hd SE;have f1:s<=m:=by omega
    have f2:s<=mid:=by omega
    have f3:a<=s:=by omega
    have f4:en<=b:=by omega
    have e1:L1.length=s-a:=l1;clear hO hN' sl' sr' hlt' hn' sl1 sr1 ap1 hA eL eR hL hR hp1' hcs hmr HB e1;have hen2:en+s=m+mid:=by omega
    clear hen' hsr;replace l1:=Hd l1;replace l2:=Hd l2;replace l3:=Hd l3;replace l4:=Hd l4
    by_cases cA:s<m<;>by_cases cB:s<mid<;>by_cases cC:a<s<;>by_cases cD:en<b
    ·
     first
     | (exfalso;clear ROT FI SE;omega)
     | (have y1:(s:Int)<(m:Int):=by omega
        have y2:(m:Int)<(en:Int):=by omega
        have y3:(a:Int)<(s:Int):=by omega
        have y4:(s:Int)<(mid:Int):=by omega
        have y5:(mid:Int)<(en:Int):=by omega
        have y6:(en:Int)<(b:Int):=by omega
        clear cA cB cC cD hen2 hen;replace ROT:=Hd (ROT.out.1 (by rw[l2.out];omega) (by rw[l3.out];omega));replace FI:=Hd (fun(W:World) hT=>FI.out.1 W hT (by rw[l1.out];omega) (by rw[l3.out];omega));replace SE:=Hd (fun(W:World) hT=>SE.out.1 W hT (by rw[l2.out];omega) (by rw[l4.out];omega));go_wp2_with (fail);refine ROT.out.mono ?_;rintro e w1 ⟨rfl,T1⟩;replace T1:=Hd T1;go_wp2_with (fail);refine(FI.out w1 T1.out).mono ?_;rintro e w2 ⟨rfl,T2⟩;replace T2:=Hd T2;go_wp2_with (fail);refine(SE.out w2 T2.out).mono ?_;rintro e w3 HS3;obtain⟨M3,i3,rfl,o3,m3⟩:=HS3;have T3:Hid (ZF base g c (ltC cf) P (L++R) Q w (.returned (.tuple #[])) w3):=⟨M3,i3,rfl,o3,m3⟩;clear i3 o3 m3;go_wp2_with (fail);go_end0;exact T3.out)
    ·
     first
     | (exfalso;clear ROT FI SE;omega)
     | (have y1:(s:Int)<(m:Int):=by omega
        have y2:(m:Int)<(en:Int):=by omega
        have y3:(a:Int)<(s:Int):=by omega
        have y4:(s:Int)<(mid:Int):=by omega
        have y5:(mid:Int)<(en:Int):=by omega
        have y6:¬(en:Int)<(b:Int):=by omega
        clear cA cB cC cD hen2 hen;replace ROT:=Hd (ROT.out.1 (by rw[l2.out];omega) (by rw[l3.out];omega));replace FI:=Hd (fun(W:World) hT=>FI.out.1 W hT (by rw[l1.out];omega) (by rw[l3.out];omega));replace SE:=Hd (fun(W:World) hT=>SE.out.2 W hT (by rw[l2.out,l4.out];omega));go_wp2_with (fail);refine ROT.out.mono ?_;rintro e w1 ⟨rfl,T1⟩;replace T1:=Hd T1;go_wp2_with (fail);refine(FI.out w1 T1.out).mono ?_;rintro e w2 ⟨rfl,T2⟩;replace T2:=Hd T2;go_wp2_with (fail);have T3:=Hd (SE.out w2 T2.out);go_end0;exact T3.out)
    ·
     first
     | (exfalso;clear ROT FI SE;omega)
     | (have y1:(s:Int)<(m:Int):=by omega
        have y2:(m:Int)<(en:Int):=by omega
        have y3:¬(a:Int)<(s:Int):=by omega
        have y4:(s:Int)<(mid:Int):=by omega
        have y5:(mid:Int)<(en:Int):=by omega
        have y6:(en:Int)<(b:Int):=by omega
        clear cA cB cC cD hen2 hen;replace ROT:=Hd (ROT.out.1 (by rw[l2.out];omega) (by rw[l3.out];omega));replace FI:=Hd (fun(W:World) hT=>FI.out.2 W hT (by rw[l1.out,l3.out];omega));replace SE:=Hd (fun(W:World) hT=>SE.out.1 W hT (by rw[l2.out];omega) (by rw[l4.out];omega));go_wp2_with (fail);refine ROT.out.mono ?_;rintro e w1 ⟨rfl,T1⟩;replace T1:=Hd T1;go_wp2_with (fail);have T2:=Hd (FI.out w1 T1.out);refine(SE.out w1 T2.out).mono ?_;rintro e w3 HS3;obtain⟨M3,i3,rfl,o3,m3⟩:=HS3;have T3:Hid (ZF base g c (ltC cf) P (L++R) Q w (.returned (.tuple #[])) w3):=⟨M3,i3,rfl,o3,m3⟩;clear i3 o3 m3;go_wp2_with (fail);go_end0;exact T3.out)
    ·
     first
     | (exfalso;clear ROT FI SE;omega)
     | (have y1:(s:Int)<(m:Int):=by omega
        have y2:(m:Int)<(en:Int):=by omega
        have y3:¬(a:Int)<(s:Int):=by omega
        have y4:(s:Int)<(mid:Int):=by omega
        have y5:(mid:Int)<(en:Int):=by omega
        have y6:¬(en:Int)<(b:Int):=by omega
        clear cA cB cC cD hen2 hen;replace ROT:=Hd (ROT.out.1 (by rw[l2.out];omega) (by rw[l3.out];omega));replace FI:=Hd (fun(W:World) hT=>FI.out.2 W hT (by rw[l1.out,l3.out];omega));replace SE:=Hd (fun(W:World) hT=>SE.out.2 W hT (by rw[l2.out,l4.out];omega));go_wp2_with (fail);refine ROT.out.mono ?_;rintro e w1 ⟨rfl,T1⟩;replace T1:=Hd T1;go_wp2_with (fail);have T2:=Hd (FI.out w1 T1.out);have T3:=Hd (SE.out w1 T2.out);go_end0;exact T3.out)
    ·
     first
     | (exfalso;clear ROT FI SE;omega)
     | (have y1:(s:Int)<(m:Int):=by omega
        have y2:¬(m:Int)<(en:Int):=by omega
        have y3:(a:Int)<(s:Int):=by omega
        have y4:¬(s:Int)<(mid:Int):=by omega
        have y5:(mid:Int)<(en:Int):=by omega
        have y6:(en:Int)<(b:Int):=by omega
        clear cA cB cC cD hen2 hen;have T1:=Hd (ROT.out.2 (by rw[l2.out,l3.out];omega));replace FI:=Hd (fun(W:World) hT=>FI.out.2 W hT (by rw[l1.out,l3.out];omega));replace SE:=Hd (fun(W:World) hT=>SE.out.1 W hT (by rw[l2.out];omega) (by rw[l4.out];omega));go_wp2_with (fail);have T2:=Hd (FI.out wo T1.out);refine(SE.out wo T2.out).mono ?_;rintro e w3 HS3;obtain⟨M3,i3,rfl,o3,m3⟩:=HS3;have T3:Hid (ZF base g c (ltC cf) P (L++R) Q w (.returned (.tuple #[])) w3):=⟨M3,i3,rfl,o3,m3⟩;clear i3 o3 m3;go_wp2_with (fail);go_end0;exact T3.out)
    ·
     first
     | (exfalso;clear ROT FI SE;omega)
     | (have y1:(s:Int)<(m:Int):=by omega
        have y2:¬(m:Int)<(en:Int):=by omega
        have y3:(a:Int)<(s:Int):=by omega
        have y4:¬(s:Int)<(mid:Int):=by omega
        have y5:(mid:Int)<(en:Int):=by omega
        have y6:¬(en:Int)<(b:Int):=by omega
        clear cA cB cC cD hen2 hen;have T1:=Hd (ROT.out.2 (by rw[l2.out,l3.out];omega));replace FI:=Hd (fun(W:World) hT=>FI.out.2 W hT (by rw[l1.out,l3.out];omega));replace SE:=Hd (fun(W:World) hT=>SE.out.2 W hT (by rw[l2.out,l4.out];omega));go_wp2_with (fail);have T2:=Hd (FI.out wo T1.out);have T3:=Hd (SE.out wo T2.out);go_end0;exact T3.out)
    ·
     first
     | (exfalso;clear ROT FI SE;omega)
     | (have y1:(s:Int)<(m:Int):=by omega
        have y2:¬(m:Int)<(en:Int):=by omega
        have y3:¬(a:Int)<(s:Int):=by omega
        have y4:¬(s:Int)<(mid:Int):=by omega
        have y5:(mid:Int)<(en:Int):=by omega
        have y6:(en:Int)<(b:Int):=by omega
        clear cA cB cC cD hen2 hen;have T1:=Hd (ROT.out.2 (by rw[l2.out,l3.out];omega));replace FI:=Hd (fun(W:World) hT=>FI.out.2 W hT (by rw[l1.out,l3.out];omega));replace SE:=Hd (fun(W:World) hT=>SE.out.1 W hT (by rw[l2.out];omega) (by rw[l4.out];omega));go_wp2_with (fail);have T2:=Hd (FI.out wo T1.out);refine(SE.out wo T2.out).mono ?_;rintro e w3 HS3;obtain⟨M3,i3,rfl,o3,m3⟩:=HS3;have T3:Hid (ZF base g c (ltC cf) P (L++R) Q w (.returned (.tuple #[])) w3):=⟨M3,i3,rfl,o3,m3⟩;clear i3 o3 m3;go_wp2_with (fail);go_end0;exact T3.out)
    ·
     first
     | (exfalso;clear ROT FI SE;omega)
     | (have y1:(s:Int)<(m:Int):=by omega
        have y2:¬(m:Int)<(en:Int):=by omega
        have y3:¬(a:Int)<(s:Int):=by omega
        have y4:¬(s:Int)<(mid:Int):=by omega
        have y5:(mid:Int)<(en:Int):=by omega
        have y6:¬(en:Int)<(b:Int):=by omega
        clear cA cB cC cD hen2 hen;have T1:=Hd (ROT.out.2 (by rw[l2.out,l3.out];omega));replace FI:=Hd (fun(W:World) hT=>FI.out.2 W hT (by rw[l1.out,l3.out];omega));replace SE:=Hd (fun(W:World) hT=>SE.out.2 W hT (by rw[l2.out,l4.out];omega));go_wp2_with (fail);have T2:=Hd (FI.out wo T1.out);have T3:=Hd (SE.out wo T2.out);go_end0;exact T3.out)
    ·
     first
     | (exfalso;clear ROT FI SE;omega)
     | (have y1:¬(s:Int)<(m:Int):=by omega
        have y2:(m:Int)<(en:Int):=by omega
        have y3:(a:Int)<(s:Int):=by omega
        have y4:(s:Int)<(mid:Int):=by omega
        have y5:¬(mid:Int)<(en:Int):=by omega
        have y6:(en:Int)<(b:Int):=by omega
        clear cA cB cC cD hen2 hen;have T1:=Hd (ROT.out.2 (by rw[l2.out,l3.out];omega));replace FI:=Hd (fun(W:World) hT=>FI.out.1 W hT (by rw[l1.out];omega) (by rw[l3.out];omega));replace SE:=Hd (fun(W:World) hT=>SE.out.2 W hT (by rw[l2.out,l4.out];omega));go_wp2_with (fail);refine(FI.out wo T1.out).mono ?_;rintro e w2 ⟨rfl,T2⟩;replace T2:=Hd T2;go_wp2_with (fail);have T3:=Hd (SE.out w2 T2.out);go_end0;exact T3.out)
    ·
     first
     | (exfalso;clear ROT FI SE;omega)
     | (have y1:¬(s:Int)<(m:Int):=by omega
        have y2:(m:Int)<(en:Int):=by omega
        have y3:(a:Int)<(s:Int):=by omega
        have y4:(s:Int)<(mid:Int):=by omega
        have y5:¬(mid:Int)<(en:Int):=by omega
        have y6:¬(en:Int)<(b:Int):=by omega
        clear cA cB cC cD hen2 hen;have T1:=Hd (ROT.out.2 (by rw[l2.out,l3.out];omega));replace FI:=Hd (fun(W:World) hT=>FI.out.1 W hT (by rw[l1.out];omega) (by rw[l3.out];omega));replace SE:=Hd (fun(W:World) hT=>SE.out.2 W hT (by rw[l2.out,l4.out];omega));go_wp2_with (fail);refine(FI.out wo T1.out).mono ?_;rintro e w2 ⟨rfl,T2⟩;replace T2:=Hd T2;go_wp2_with (fail);have T3:=Hd (SE.out w2 T2.out);go_end0;exact T3.out)
    ·
     first
     | (exfalso;clear ROT FI SE;omega)
     | (have y1:¬(s:Int)<(m:Int):=by omega
        have y2:(m:Int)<(en:Int):=by omega
        have y3:¬(a:Int)<(s:Int):=by omega
        have y4:(s:Int)<(mid:Int):=by omega
        have y5:¬(mid:Int)<(en:Int):=by omega
        have y6:(en:Int)<(b:Int):=by omega
        clear cA cB cC cD hen2 hen;have T1:=Hd (ROT.out.2 (by rw[l2.out,l3.out];omega));replace FI:=Hd (fun(W:World) hT=>FI.out.2 W hT (by rw[l1.out,l3.out];omega));replace SE:=Hd (fun(W:World) hT=>SE.out.2 W hT (by rw[l2.out,l4.out];omega));go_wp2_with (fail);have T2:=Hd (FI.out wo T1.out);have T3:=Hd (SE.out wo T2.out);go_end0;exact T3.out)
    ·
     first
     | (exfalso;clear ROT FI SE;omega)
     | (have y1:¬(s:Int)<(m:Int):=by omega
        have y2:(m:Int)<(en:Int):=by omega
        have y3:¬(a:Int)<(s:Int):=by omega
        have y4:(s:Int)<(mid:Int):=by omega
        have y5:¬(mid:Int)<(en:Int):=by omega
        have y6:¬(en:Int)<(b:Int):=by omega
        clear cA cB cC cD hen2 hen;have T1:=Hd (ROT.out.2 (by rw[l2.out,l3.out];omega));replace FI:=Hd (fun(W:World) hT=>FI.out.2 W hT (by rw[l1.out,l3.out];omega));replace SE:=Hd (fun(W:World) hT=>SE.out.2 W hT (by rw[l2.out,l4.out];omega));go_wp2_with (fail);have T2:=Hd (FI.out wo T1.out);have T3:=Hd (SE.out wo T2.out);go_end0;exact T3.out)
    ·
     first
     | (exfalso;clear ROT FI SE;omega)
     | (have y1:¬(s:Int)<(m:Int):=by omega
        have y2:¬(m:Int)<(en:Int):=by omega
        have y3:(a:Int)<(s:Int):=by omega
        have y4:¬(s:Int)<(mid:Int):=by omega
        have y5:¬(mid:Int)<(en:Int):=by omega
        have y6:(en:Int)<(b:Int):=by omega
        clear cA cB cC cD hen2 hen;have T1:=Hd (ROT.out.2 (by rw[l2.out,l3.out];omega));replace FI:=Hd (fun(W:World) hT=>FI.out.2 W hT (by rw[l1.out,l3.out];omega));replace SE:=Hd (fun(W:World) hT=>SE.out.2 W hT (by rw[l2.out,l4.out];omega));go_wp2_with (fail);have T2:=Hd (FI.out wo T1.out);have T3:=Hd (SE.out wo T2.out);go_end0;exact T3.out)
    ·
     first
     | (exfalso;clear ROT FI SE;omega)
     | (have y1:¬(s:Int)<(m:Int):=by omega
        have y2:¬(m:Int)<(en:Int):=by omega
        have y3:(a:Int)<(s:Int):=by omega
        have y4:¬(s:Int)<(mid:Int):=by omega
        have y5:¬(mid:Int)<(en:Int):=by omega
        have y6:¬(en:Int)<(b:Int):=by omega
        clear cA cB cC cD hen2 hen;have T1:=Hd (ROT.out.2 (by rw[l2.out,l3.out];omega));replace FI:=Hd (fun(W:World) hT=>FI.out.2 W hT (by rw[l1.out,l3.out];omega));replace SE:=Hd (fun(W:World) hT=>SE.out.2 W hT (by rw[l2.out,l4.out];omega));go_wp2_with (fail);have T2:=Hd (FI.out wo T1.out);have T3:=Hd (SE.out wo T2.out);go_end0;exact T3.out)
    ·
     first
     | (exfalso;clear ROT FI SE;omega)
     | (have y1:¬(s:Int)<(m:Int):=by omega
        have y2:¬(m:Int)<(en:Int):=by omega
        have y3:¬(a:Int)<(s:Int):=by omega
        have y4:¬(s:Int)<(mid:Int):=by omega
        have y5:¬(mid:Int)<(en:Int):=by omega
        have y6:(en:Int)<(b:Int):=by omega
        clear cA cB cC cD hen2 hen;have T1:=Hd (ROT.out.2 (by rw[l2.out,l3.out];omega));replace FI:=Hd (fun(W:World) hT=>FI.out.2 W hT (by rw[l1.out,l3.out];omega));replace SE:=Hd (fun(W:World) hT=>SE.out.2 W hT (by rw[l2.out,l4.out];omega));go_wp2_with (fail);have T2:=Hd (FI.out wo T1.out);have T3:=Hd (SE.out wo T2.out);go_end0;exact T3.out)
    ·
     first
     | (exfalso;clear ROT FI SE;omega)
     | (have y1:¬(s:Int)<(m:Int):=by omega
        have y2:¬(m:Int)<(en:Int):=by omega
        have y3:¬(a:Int)<(s:Int):=by omega
        have y4:¬(s:Int)<(mid:Int):=by omega
        have y5:¬(mid:Int)<(en:Int):=by omega
        have y6:¬(en:Int)<(b:Int):=by omega
        clear cA cB cC cD hen2 hen;have T1:=Hd (ROT.out.2 (by rw[l2.out,l3.out];omega));replace FI:=Hd (fun(W:World) hT=>FI.out.2 W hT (by rw[l1.out,l3.out];omega));replace SE:=Hd (fun(W:World) hT=>SE.out.2 W hT (by rw[l2.out,l4.out];omega));go_wp2_with (fail);have T2:=Hd (FI.out wo T1.out);have T3:=Hd (SE.out wo T2.out);go_end0;exact T3.out)
end
section
theorem ZcT (base g c:Nat)(f:Nat)(lb:Array Value)(cf:Nat->Nat->Int)(nn N:Nat)(hw:Weak (ltC cf))(eg:∀ args w,(callFunc f args).run Tryz.prog w=.ok (.enter f args) w)(hl:N<=1000000000) : ∀ (d a m b:Nat) (P L R Q:List Nat) (w:World),b-a<=d->CmpOk f lb cf nn g w ->
  OwN w base g c (P++(L++(R++Q)))->(P++(L++(R++Q))).length=N->P.length=a->a+L.length=m->m+R.length=b->0<L.length->0<R.length->Srt (ltC cf) L->Srt (ltC cf) R->Apart (· < ·) L R->(∀ x∈L++R,x<nn) ->
  Calls Tryz.prog 202 #[.slice (some ⟨g,0,none⟩) N c,.int .i64 a,.int .i64 m,.int .i64 b,.func (.func f) #[] lb] w (ZF base g c (ltC cf) P (L++R) Q w)
 | 0,a,m,b,P,L,R,Q,w=>fun hd _ _ _ _ h1 h2 h3 h4 _ _ _ _=>by exfalso;omega
 | d+1,a,m,b,P,L,R,Q,w=>fun hd hcmp h hN ha hL hR h1 h2 sl sr hlt hn=>by
  by_cases c1:L.length=1
  ·obtain⟨x,rfl⟩:=List.length_eq_one_iff.1 c1
   exact ZhY base g c f lb cf nn a m b N x P R Q w hw eg hcmp h hN ha (by simpa using hL) hR sr hlt (hn x (by simp)) (fun y hy=>hn y (by simp[hy])) hl
  ·by_cases c2:R.length=1
   ·obtain⟨y,rfl⟩:=List.length_eq_one_iff.1 c2
    exact ZgQ base g c f lb cf nn a m b N y P L Q w hw eg hcmp h hN ha hL (by simpa using hR) (by omega) sl hlt (hn y (by simp)) (fun x hx=>hn x (by simp[hx])) hl
   ·have IH:SymIH base g c f lb cf nn N (b-a) w:=fun a' m' b' P' L' R' Q' W hd' hM h' hN' ha' hL' hR' h1' h2' sl' sr' hlt' hn' =>
     ZcT base g c f lb cf nn N hw eg hl d a' m' b' P' L' R' Q' W (by omega) (hcmp.mod hM) h' hN' ha' hL' hR' h1' h2' sl' sr' hlt' hn'
    by_cases hm:m<=(a+b) / 2
    ·exact Zf3 base g c f lb cf nn a m b N _ a m P L R Q w hw eg hcmp IH h hN ha hL hR (by omega) (by omega) sl sr hlt hn hl rfl (.inl ⟨hm,rfl,rfl⟩)
    ·exact Zf3 base g c f lb cf nn a m b N _ ((a+b) / 2+m-b) ((a+b) / 2) P L R Q w hw eg hcmp IH h hN ha hL hR (by omega) (by omega) sl sr hlt hn hl rfl (.inr ⟨by omega,by omega,rfl⟩)
section
variable (base g c f:Nat) (lb:Array Value) (cf:Nat->Nat->Int) (nn n:Nat) (l0:List Nat) (w:World)
def Ph1 (a:Nat)(W:World) : Prop:=∃ ms:List (List Nat),Bls (ltC cf) 20 ms/\(∀ x∈ms,x.length=20)/\ms.flatten.Perm (l0.take a)/\a<=l0.length/\OwN W base g c (ms.flatten++l0.drop a)/\Mod (fun k=>k=g) w W
def Ph2 (bs:Nat)(W:World) : Prop:=∃ ms:List (List Nat),Bls (ltC cf) bs ms/\ms.flatten.Perm l0/\OwN W base g c ms.flatten/\Mod (fun k=>k=g) w W
def Ph3 (bs a:Nat)(W:World) : Prop:=∃ done todo:List (List Nat),Bls (ltC cf) (2*bs) done/\(∀ x∈done,x.length=2*bs)/\Bls (ltC cf) bs todo/\done.flatten.length=a/\Apart (· < ·) done.flatten todo.flatten/\(done.flatten++todo.flatten).Perm l0/\OwN W base g c (done.flatten++todo.flatten)/\Mod (fun k=>k=g) w W
end
section
variable {base g c f:Nat} {lb:Array Value} {cf:Nat->Nat->Int} {nn n:Nat} {l0:List Nat} {w:World}
theorem Ph1.ins {a b:Nat}{W:World}(h:Ph1 base g c cf l0 w a W)(hw:Weak (ltC cf))(eg:∀ args w,(callFunc f args).run Tryz.prog w=.ok (.enter f args) w)(hcmp:CmpOk f lb cf nn g w)(hr:l0.Pairwise (· < ·))(hn:∀ x∈l0,x<nn)(hN:l0.length=n)(hl:n<=1000000000)(hab:a<=b)(hb:b<=n)(h20:b<=a+20) :
  Calls Tryz.prog 201 #[.slice (some ⟨g,0,none⟩) n c,.int .i64 a,.int .i64 b,.func (.func f) #[] lb] W (ZdL fun W'=>(b=a+20->Ph1 base g c cf l0 w b W')/\(b=n->Ph2 base g c cf l0 w 20 W')):=by
 obtain⟨ms,h1,h2,h3,h4,h5,h6⟩:=h;have e:l0.drop a=(l0.drop a).take (b-a)++l0.drop b:=by
  have:=(List.take_append_drop (b-a) (l0.drop a)).symm
  rwa [List.drop_drop,show a+(b-a)=b by omega] at this
 have hfl:ms.flatten.length=a:=by rw[h3.length_eq,List.length_take];omega
 have hSl:((l0.drop a).take (b-a)).length=b-a:=by rw[List.length_take,List.length_drop];omega
 have hsub:∀ x∈(l0.drop a).take (b-a),x∈l0:=fun x hx=>List.mem_of_mem_drop (List.mem_of_mem_take hx)
 have hrise:Apart (· < ·) (l0.take a) ((l0.drop a).take (b-a)):=fun x hx y hy=>Apart.rise (by rw[List.take_append_drop];exact hr) x hx y (List.mem_of_mem_take hy)
 have hO:=h5;rw[e] at hO;refine(ZbA base g c f lb cf nn a b n ms.flatten ((l0.drop a).take (b-a)) (l0.drop b) W hw eg (hcmp.mod h6) hO ?_ hfl (by omega) ((hr.sublist (List.drop_sublist _ _)).sublist (List.take_sublist _ _)) (fun x hx=>hn x (hsub x hx)) hl).mono ?_
 ·simp only[List.length_append,List.length_drop,hfl,hSl];omega
 rintro e' W' ⟨M,i1,rfl,o1,m1⟩;have hap:Apart (· < ·) ms.flatten M:=hrise.perm h3 i1.1;have hMl:M.length=b-a:=by rw[i1.len,hSl]
 refine⟨rfl,fun hb20=>⟨ms++[M],Bls.snoc i1.2 (by omega) (by omega) h1 h2 hap,?_,?_,by omega,?_,h6.tr m1⟩,fun hbn=>?_⟩
 ·intro x hx
  rcases List.mem_append.1 hx with hx | hx
  ·exact h2 x hx
  ·obtain rfl:=List.mem_singleton.1 hx;omega
 ·rw[List.flatten_append]
  have e2:l0.take b=l0.take a++(l0.drop a).take (b-a):=by
   rw[<-List.take_add,show a+(b-a)=b by omega]
  rw[e2];refine h3.append ?_
  simpa using i1.1
 ·rw[List.flatten_append]
  simpa using o1
 ·have e0:l0.drop b=[]:=List.drop_of_length_le (by omega)
  have hp:(ms.flatten++M).Perm l0:=by
   have:=h3.append i1.1;rw[e0,List.append_nil] at e
   rwa [<-e,List.take_append_drop] at this
  rw[e0,List.append_nil] at o1
  by_cases hM0:M.length=0
  ·have hM:M=[]:=List.eq_nil_of_length_eq_zero hM0
   subst hM;exact⟨ms,h1,by simpa using hp,by simpa using o1,h6.tr m1⟩
  ·exact⟨ms++[M],Bls.snoc i1.2 (by omega) (by omega) h1 h2 hap,by rw[List.flatten_append];simpa using hp,by rw[List.flatten_append];simpa using o1,h6.tr m1⟩
theorem Ph2.go {bs:Nat}{W:World}(h:Ph2 base g c cf l0 w bs W) : Ph3 base g c cf l0 w bs 0 W:=by
 obtain⟨ms,h1,h2,h3,h4⟩:=h;exact⟨[],ms,trivial,by simp,h1,rfl,Apart.nil_left _,h2,h3,h4⟩
theorem Ph3.len {bs a:Nat}{W:World}(h:Ph3 base g c cf l0 w bs a W) : a<=l0.length:=by
 obtain⟨done,todo,h1,h2,h3,h4,h5,h6,h7,h8⟩:=h;have:=h6.length_eq;rw[List.length_append] at this;omega
theorem Ph3.two {bs a:Nat}{W:World}(h:Ph3 base g c cf l0 w bs a W)(hw:Weak (ltC cf))(eg:∀ args w,(callFunc f args).run Tryz.prog w=.ok (.enter f args) w)(hcmp:CmpOk f lb cf nn g w)(hn:∀ x∈l0,x<nn)(hN:l0.length=n)(hl:n<=1000000000)(h0:0<bs)(hb:a+2*bs<=n) :
  Calls Tryz.prog 202 #[.slice (some ⟨g,0,none⟩) n c,.int .i64 a,.int .i64 (a+bs:Nat),.int .i64 (a+2*bs:Nat),.func (.func f) #[] lb] W (ZdL fun W'=>Ph3 base g c cf l0 w bs (a+2*bs) W'):=by
 obtain⟨done,todo,h1,h2,h3,h4,h5,h6,h7,h8⟩:=h;have hlen:=h6.length_eq;rw[List.length_append] at hlen;obtain⟨L,R,ts,rfl,sL,sR,lL,lR,aLR,aT,hts⟩:=h3.two h0 (by omega);have hmem:∀ x∈L++R,x<nn:=fun x hx=>hn x (h6.mem_iff.1 (by
  simp only[List.flatten_cons,List.mem_append] at hx ⊢;rcases hx with hx | hx<;>simp[hx]))
 have hO:OwN W base g c (done.flatten++(L++(R++ts.flatten))):=by simpa using h7
 refine(ZcT base g c f lb cf nn n hw eg hl _ a (a+bs) (a+2*bs) done.flatten L R ts.flatten W (Nat.le_refl _) (hcmp.mod h8) hO ?_ h4 (by omega) (by omega) (by omega) (by omega) sL sR aLR hmem).mono ?_
 ·simp only[List.flatten_cons,List.length_append] at hlen ⊢;omega
 rintro e' W' ⟨M,i1,rfl,o1,m1⟩;have ad:Apart (· < ·) done.flatten (L++R)/\Apart (· < ·) done.flatten ts.flatten:=by
  refine Apart.app_right.1 ?_
  simpa using h5
 have lM:M.length=2*bs:=by rw[i1.len,List.length_append];omega
 refine⟨rfl,done++[M],ts,Bls.snoc i1.2 (by omega) (by omega) h1 h2 (ad.1.perm (List.Perm.refl _) i1.1),?_,hts,?_,?_,?_,?_,h8.tr m1⟩
 ·intro x hx
  rcases List.mem_append.1 hx with hx | hx
  ·exact h2 x hx
  ·obtain rfl:=List.mem_singleton.1 hx;omega
 ·simp only[List.flatten_append,List.length_append,List.flatten_cons,List.flatten_nil,List.append_nil];omega
 ·rw[List.flatten_append]
  refine Apart.app_left.2 ⟨ad.2,?_⟩
  simpa using aT.perm i1.1 (List.Perm.refl _)
 ·rw[List.flatten_append]
  have hp:(done.flatten++(M++ts.flatten)).Perm (done.flatten++((L++R)++ts.flatten)):=List.Perm.append_left _ (i1.1.append (List.Perm.refl _));have h6':(done.flatten++((L++R)++ts.flatten)).Perm l0:=by simpa using h6
  simpa using hp.trans h6'
 ·rw[List.flatten_append]
  simpa using o1
theorem Ph3.last {bs a:Nat}{W:World}(h:Ph3 base g c cf l0 w bs a W)(hw:Weak (ltC cf))(eg:∀ args w,(callFunc f args).run Tryz.prog w=.ok (.enter f args) w)(hcmp:CmpOk f lb cf nn g w)(hn:∀ x∈l0,x<nn)(hN:l0.length=n)(hl:n<=1000000000)(h0:0<bs)(hb:n<a+2*bs)(hm:a+bs<n) :
  Calls Tryz.prog 202 #[.slice (some ⟨g,0,none⟩) n c,.int .i64 a,.int .i64 (a+bs:Nat),.int .i64 n,.func (.func f) #[] lb] W (ZdL fun W'=>Ph2 base g c cf l0 w (2*bs) W'):=by
 obtain⟨done,todo,h1,h2,h3,h4,h5,h6,h7,h8⟩:=h;have hlen:=h6.length_eq;rw[List.length_append] at hlen;rcases h3.tail (by omega) with rfl | ⟨L,rfl,sL,l1,l2⟩ | ⟨L,R,rfl,sL,sR,lL,lR,aLR⟩
 ·simp only[List.flatten_cons,List.flatten_nil,List.append_nil,List.length_append,List.length_nil] at hlen;omega
 ·simp only[List.flatten_cons,List.flatten_nil,List.append_nil,List.length_append,List.length_nil] at hlen;omega
 have hmem:∀ x∈L++R,x<nn:=fun x hx=>hn x (h6.mem_iff.1 (by
  simp only[List.flatten_cons,List.mem_append] at hx ⊢;rcases hx with hx | hx<;>simp[hx]))
 simp only[List.flatten_cons,List.flatten_nil,List.append_nil] at h5 h6 h7 hlen;have hO:OwN W base g c (done.flatten++(L++(R++[]))):=by simpa using h7
 rw[List.length_append] at hlen;refine(ZcT base g c f lb cf nn n hw eg hl _ a (a+bs) n done.flatten L R [] W (Nat.le_refl _) (hcmp.mod h8) hO ?_ h4 (by omega) (by omega) (by omega) (by omega) sL sR aLR hmem).mono ?_
 ·simp only[List.length_append,List.length_nil];omega
 rintro e' W' ⟨M,i1,rfl,o1,m1⟩;have lM:M.length=L.length+R.length:=by rw[i1.len,List.length_append]
 refine⟨rfl,done++[M],Bls.snoc i1.2 (by omega) (by omega) h1 h2 (h5.perm (List.Perm.refl _) i1.1),?_,?_,h8.tr m1⟩
 ·rw[List.flatten_append]
  have hp:(done.flatten++M).Perm (done.flatten++(L++R)):=List.Perm.append_left _ i1.1
  simpa using hp.trans h6
 ·rw[List.flatten_append]
  simpa using o1
theorem Ph3.none {bs a:Nat}{W:World}(h:Ph3 base g c cf l0 w bs a W)(hN:l0.length=n)(h0:0<bs)(hb:n<a+2*bs)(hm:n<=a+bs) : Ph2 base g c cf l0 w (2*bs) W:=by
 obtain⟨done,todo,h1,h2,h3,h4,h5,h6,h7,h8⟩:=h;have hlen:=h6.length_eq;rw[List.length_append] at hlen;rcases h3.tail (by omega) with rfl | ⟨L,rfl,sL,l1,l2⟩ | ⟨L,R,rfl,sL,sR,lL,lR,aLR⟩
 ·exact⟨done,h1,by simpa using h6,by simpa using h7,h8⟩
 ·exact⟨done++[L],Bls.snoc sL l1 (by omega) h1 h2 (by simpa using h5),by rw[List.flatten_append];simpa using h6,by rw[List.flatten_append];simpa using h7,h8⟩
 ·simp only[List.flatten_cons,List.flatten_nil,List.append_nil,List.length_append,List.length_nil] at hlen;omega
theorem Ph2.done {bs:Nat}{W:World}(h:Ph2 base g c cf l0 w bs W)(hN:l0.length<=bs) : ZF base g c (ltC cf) [] l0 [] w (.returned (.tuple #[])) W:=by
 obtain⟨ms,h1,h2,h3,h4⟩:=h;exact⟨ms.flatten,⟨h2,h1.one (by rw[h2.length_eq];exact hN)⟩,rfl,by simpa using h3,h4⟩
end
theorem Ze0 (base g c:Nat)(f:Nat)(lb:Array Value)(cf:Nat->Nat->Int)(nn n:Nat)(l0:List Nat)(w:World)(hw:Weak (ltC cf))(eg:∀ args w,(callFunc f args).run Tryz.prog w=.ok (.enter f args) w)(hcmp:CmpOk f lb cf nn g w)
  (h:OwN w base g c l0) (hN:l0.length=n) (hr:l0.Pairwise (· < ·)) (hn:∀ x∈l0,x<nn) (hl:n<=1000000) :
  Calls Tryz.prog 197 #[.slice (some ⟨g,0,none⟩) n c,.int .i64 n,.func (.func f) #[] lb] w (ZF base g c (ltC cf) [] l0 [] w):=by
 have HS:Hid (Ph1 base g c cf l0 w 0 w):=⟨[],trivial,by simp,by simp,by omega,by simpa using h,Mod.rf _⟩;replace hN:=Hd hN;replace hcmp:=Hd hcmp;replace hw:=Hd hw;replace hr:=Hd hr;replace hn:=Hd hn;clear h;go_enter Tryz.func197,Tryz.ntmps197;go_wp2_with (fail);go_loopw [7,8] (fun av bv wr=>∃ (a b:Nat),av=.int .i64 a/\bv=.int .i64 b/\Hid (b=a+20)/\a<=n/\Hid (Ph1 base g c cf l0 w a wr)) (fun av _ _=>n-(intOf av).toNat)
 case atStart=>exact⟨0,20,rfl,rfl,rfl,by omega,HS⟩
 case round =>
  obtain⟨wo,rfl⟩:=Wq wr;obtain⟨a,b,rfl,rfl,hab,ha,H1⟩:=hrel;clear HS;have hab':=hab.out
  by_cases hb:b<=n
  ·have t0:(b:Int)<=(n:Int):=by omega
   have IN:=Hd (H1.out.ins (b:=b) hw.out eg hcmp.out hr.out hn.out hN.out (by omega) (by omega) hb (by omega));have b20:b+20<=2000000:=by omega
   clear hab' H1;go_wp2_with (fail);refine IN.out.mono ?_;rintro e w1 ⟨rfl,i1,-⟩;have i2:=Hd (i1 hab.out);clear i1;go_wp2_with (fail);go_roundw
   case rel=>exact⟨b,b+20,rfl,by go_num,rfl,hb,i2⟩
   case measure=>simp[intOf];have:=hab.out;omega
  ·have t0:¬(b:Int)<=(n:Int):=by omega
   have IN:=Hd (H1.out.ins (b:=n) hw.out eg hcmp.out hr.out hn.out hN.out (by omega) ha (by omega) (by omega));clear hab' H1 hb;go_wp2_with (fail);refine IN.out.mono ?_;rintro e w1 ⟨rfl,-,i1⟩;have i2:Hid (Ph2 base g c cf l0 w 20 w1):=by first | exact i1 rfl | exact i1 trivial
   clear i1 IN t0;go_wp2_with (fail);go_loopw [6] (fun v wr=>∃ bs:Nat,v=.int .i64 bs/\20<=bs/\bs<=2*n+20/\Hid (Ph2 base g c cf l0 w bs wr)) (fun v _=>n-(intOf v).toNat)
   case atStart=>exact⟨20,rfl,by omega,by omega,i2⟩
   case round =>
    obtain⟨wp,rfl⟩:=Wq wr;obtain⟨bs,rfl,hbs0,hbs1,H2⟩:=hrel;clear i2
    by_cases hbn:bs<n
    ·have t1:(bs:Int)<(n:Int):=by omega
     have H3:=Hd H2.out.go;obtain⟨b2,hb2⟩:∃ b2,Hid (b2=2*bs):=⟨_,rfl⟩;have e2:2*(bs:Int)=(b2:Int):=by rw[hb2.out];omega
     have e2':(bs:Int)*2=(b2:Int):=by rw[hb2.out];omega
     have b2b:b2<=2000000:=by rw[hb2.out];omega
     clear H2;go_wp2_with (fail);go_loopw [7,8] (fun av bv wr=>∃ (a b:Nat),av=.int .i64 a/\bv=.int .i64 b/\Hid (b=a+b2)/\a<=n/\Hid (Ph3 base g c cf l0 w bs a wr)) (fun av _ _=>n-(intOf av).toNat)
     case atStart=>exact⟨0,b2,rfl,rfl,by show b2=0+b2;omega,by omega,H3⟩
     case round =>
      obtain⟨wq,rfl⟩:=Wq wr;obtain⟨a',b',rfl,rfl,hab2,ha2,H4⟩:=hrel;clear H3
      by_cases hb3:b'<=n
      ·have t2:(b':Int)<=(n:Int):=by omega
       have hb4:a'+2*bs=b':=by rw[hab2.out,hb2.out]
       have TW:=H4.out.two hw.out eg hcmp.out hn.out hN.out (by omega) (by omega) (by omega);rw[hb4] at TW;obtain⟨am,ham⟩:∃ am,Hid (am=a'+bs):=⟨_,rfl⟩;rw[<-ham.out] at TW;have eam:(a':Int)+(bs:Int)=(am:Int):=by rw[ham.out];omega
       replace TW:=Hd TW;clear hb4 H4;go_wp2_with (fail);refine TW.out.mono ?_;rintro e w3 ⟨rfl,i3⟩;replace i3:=Hd i3;go_wp2_with (fail);go_roundw
       case rel=>exact⟨b',b'+b2,rfl,by first | rfl | go_num,rfl,hb3,i3⟩
       case measure=>simp[intOf];have:=hab2.out;have:=hb2.out;omega
      ·have t2:¬(b':Int)<=(n:Int):=by omega
       have hb4:a'+2*bs=b':=by rw[hab2.out,hb2.out]
       obtain⟨am,ham⟩:∃ am,Hid (am=a'+bs):=⟨_,rfl⟩;have eam:(a':Int)+(bs:Int)=(am:Int):=by rw[ham.out];omega
       by_cases hmn:am<n
       ·have t3:(am:Int)<(n:Int):=by omega
        have LA:=H4.out.last hw.out eg hcmp.out hn.out hN.out (by omega) (by omega) (by omega) (by rw[<-ham.out];exact hmn);rw[<-ham.out,<-hb2.out] at LA;replace LA:=Hd LA;clear hb4 H4;go_wp2_with (fail);refine LA.out.mono ?_;rintro e w3 ⟨rfl,i3⟩;replace i3:=Hd i3;go_wp2_with (fail);go_roundw
        case rel=>exact⟨b2,rfl,by rw[hb2.out];omega,by rw[hb2.out];omega,i3⟩
        case measure=>simp[intOf];have:=hb2.out;omega
       ·have t3:¬(am:Int)<(n:Int):=by omega
        have i3:=H4.out.none hN.out (by omega) (by omega) (by rw[<-ham.out];omega);rw[<-hb2.out] at i3;replace i3:=Hd i3;clear hb4 H4;go_wp2_with (fail);go_roundw
        case rel=>exact⟨b2,rfl,by rw[hb2.out];omega,by rw[hb2.out];omega,i3⟩
        case measure=>simp[intOf];have:=hb2.out;omega
    ·have t1:¬(bs:Int)<(n:Int):=by omega
     have FIN:=Hd (H2.out.done (by rw[hN.out];omega));clear H2;go_wp2_with (fail);go_end0;exact FIN.out
theorem UJ (base g c:Nat)(f:Nat)(lb:Array Value)(cf:Nat->Nat->Int)(nn n:Nat)(l0:List Nat)(w:World)(hw:Weak (ltC cf))(eg:∀ args w,(callFunc f args).run Tryz.prog w=.ok (.enter f args) w)(hcmp:CmpOk f lb cf nn g w)
  (h:OwN w base g c l0) (hN:l0.length=n) (hr:l0.Pairwise (· < ·)) (hn:∀ x∈l0,x<nn) (hl:n<=1000000) :
  Calls Tryz.prog 191 #[.slice (some ⟨g,0,none⟩) n c,.func (.func f) #[] lb] w fun e w'=>e=.returned (.tuple #[])/\OwN w' base g c (Yh (ltC cf) l0)/\Mod (fun k=>k=g) w w':=by
 have ST:=Hd (Ze0 base g c f lb cf nn n l0 w hw eg hcmp h hN hr hn hl);have hr':=Hd hr;have hw':=Hd hw;clear hcmp h hN hr hn hw;go_enter Tryz.func191,Tryz.ntmps191;go_wp2_with (fail);refine ST.out.mono ?_;rintro e w1 ⟨M,i1,rfl,o1,m1⟩;have e1:=ZaW hw'.out hr'.out i1;rw[List.nil_append,List.append_nil,e1] at o1;have FIN:=Hd (And.intro o1 m1);clear o1 m1 i1 e1;go_wp2_with (fail);go_end0;exact⟨rfl,FIN.out.1,FIN.out.2⟩
end
section
theorem Zjh (row:List Int)(hbd:∀ x∈row,0<=x/\x<=2147483647)(D:Option Addr)(d rb:Nat)(a b:Nat)(ha:a<row.length)(hb:b<row.length)(w:World)(B:w.cell? ⟨rb,0,none⟩=some (.slice D row.length d))(hD:RdI w D row) :
  Calls Tryz.prog 192 #[.int .i64 a,.int .i64 b,.pointer (some ⟨rb,0,none⟩)] w fun e w'=>e=.returned (.int .i64 (row.getD a 0-row.getD b 0))/\∃ q,w'=w.drewN q:=by
 obtain⟨cb,co,x,rfl,z1,c1,e1,_⟩:=hD.at ha;obtain⟨cb',co',y,hq,z2,c2,e2,_⟩:=hD.at hb;obtain⟨rfl,rfl⟩:cb=cb'/\co=co':=by simpa using hq
 have b1:=hbd x (List.mem_of_getElem? e1.out);have b2:=hbd y (List.mem_of_getElem? e2.out);rw[getD_some e1.out,getD_some e2.out];have hw:IntKind.i64.wrap (x-y)=x-y:=IntWalk.i64_in _ (by omega);have q1:(a:Int)<(row.length:Int):=by omega
 have q2:(b:Int)<(row.length:Int):=by omega
 clear e1 e2 b1 b2 hbd hD hq;go_enter Tryz.func192,Tryz.ntmps192;go_wp2_with (fail);go_quiet (fail);go_wp2_with (fail);go_ret;exact⟨rfl,_,rfl⟩
def cfR (row:List Int)(a b:Nat) : Int:=row.getD a 0-row.getD b 0
theorem VR (row:List Int) : Weak (ltC (cfR row)) where
 asym a b h:=by
  unfold ltC cfR at *;simp only[decide_eq_true_eq,decide_eq_false_iff_not] at *;omega
 neg a b c h:=by
  unfold ltC cfR at *;simp only[decide_eq_true_eq] at *;omega
def Xs (rows:List (List Int))(p:List Int) : List Int×Int :=
 match Ye rows.length p with
 | none=>([],1)
 | some m=>(Zf (Yh (ltC (cfR (rows.getD p.length []))) (Zb m)),0)
theorem Vy {i:Nat} : ∀ {l:List Nat},l.Pairwise (· < ·)->i∈l->(l.filter fun j=>decide (i≠j)).length+1=l.length
 | [],_,h=>by cases h
 | x::l,hp,h=>by
  have hp':=List.pairwise_cons.1 hp
  by_cases e:i=x
  ·subst e
   have:l.filter (fun j=>decide (i≠j))=l:=List.filter_eq_self.2 fun y hy=>by
    have:=hp'.1 y hy;simp;omega
   rw[List.filter_cons_of_neg (by simp),this];rfl
  ·rcases List.mem_cons.1 h with h | h
   ·exact absurd h e
   ·rw[List.filter_cons_of_pos (by simpa using e),List.length_cons,List.length_cons,Vy hp'.2 h]
theorem Jt {n:Nat} : ∀ {p:List Int} {m q:Nat},SubN n m->Yd m p=some q->(Zb q).length+p.length=(Zb m).length
 | [],m,q,_,e=>by
  simp only[Yd,Option.some.injEq] at e;subst e;rfl
 | c::p,m,q,h,e=>by
  unfold Yd at e;split at e
  ·rename_i hc
   have h1:=Jt (h.clr _) e;have h2:=Vy (ZD m) (Yl.2 ⟨by omega,hc.2.2⟩:c.toNat∈Zb m);rw[<-Wc h.1] at h2;rw[List.length_cons];omega
  ·cases e
theorem YN {n:Nat}(h24:n<=24){p:List Int}{q:Nat}(e:Ye n p=some q) : (Zb q).length+p.length=n:=by
 unfold Ye at e;split at e
 ·cases e
 ·rw[Jt (YM h24) e,We (by omega),List.length_range]
theorem Mod.heap {g:Nat}{w w':World}(h:Mod (fun k=>k=g) w w'){a:World}(x:Ext a w)(hg:a.heap.size<=g) : Ext a w':=x.mod h fun k hk e=>by omega
theorem RdI.modG {w w':World}{A:Option Addr}{xs:List Int}{g:Nat}(h:RdI w A xs)(k:Mod (fun k=>k=g) w w')(hb:∀ b,bl A=some b->b<g) : RdI w' A xs:=by
 rcases h with rfl | ⟨b,off,rfl,hlt,hc⟩
 ·exact .inl rfl
 ·refine .inr ⟨b,off,rfl,Nat.lt_of_lt_of_le hlt k.size,fun j x hj=>?_⟩
  have h1:=hb b rfl;rw[<-hc j x hj];exact World.cell?_of_block (k.block b hlt fun hs=>by omega)
theorem ZgR {base g:Nat}{rows:List (List Int)}(P:Option Addr)(pc:Nat)(p:List Int)(w:World)(hT:Tab w)(H:KernA w base g rows)(ok:RowsOk rows)(hP:RdI w P p)(lp:p.length<=1000000000) :
  Calls Tryz.prog 187 #[.pointer (some ⟨g,0,none⟩),.slice P p.length pc] w (Ys (Xs rows p).1 (Xs rows p).2 w):=by
 have FR:=fun(W:World) (x:Ext w W)=>ZdH P pc p W (H.ext x) ok.n1 ok.n2 (hP.ext x) lp
 have l1:=ok.n1;have l2:=ok.n2;obtain⟨C,cc,us,hB,_,hV,hR⟩:=H;have lus:Hid (us.length=rows.length):=hR.1;obtain⟨r,hr⟩:∃ r,Hid (Ye rows.length p=r):=⟨_,rfl⟩;rw[hr.out] at FR
 cases r with
 | none =>
  have e:Xs rows p=([],1):=by unfold Xs;rw[hr.out]
  rw[e];unfold Zb1 ZS at FR;replace FR:=Hd FR;go_enter Tryz.func187,Tryz.ntmps187;go_wp2_with (fail);refine(FR.out _ (Ext.rf w)).mono ?_;rintro e w1 ⟨rfl,x1⟩;have X:=Hd (x1.alloc (.cells #[.int .u64 0,.int .u64 0] 161));go_wp2_with (fail);go_ret2;exact⟨none,0,rfl,OwI.nil _ _,by have:=X.out;first | exact x1 | exact this⟩
 | some m =>
  obtain⟨hpl,hin,hS⟩:=WG l2 hr.out;have hlen:=YN l2 hr.out;have e:Xs rows p=(Zf (Yh (ltC (cfR (rows.getD p.length []))) (Zb m)),0):=by unfold Xs;rw[hr.out]
  rw[e];clear e;have LI:=Hd (fun(W:World) (hW:Tab W)=>ZaD m hS.1 (fun x hx=>by have:=hS.2 x hx;omega) W hW);have hsub:=Hd hS.2;have hsrt:=Hd (ZD m);unfold Zb1 ZS at FR;unfold ZS at LI;replace FR:=Hd FR;clear hr hS hin;generalize Zb m=l at *;replace hP:=Hd hP;replace hV:=Hd hV;replace hR:=Hd hR;replace hT:=Hd hT;replace hB:=Hd hB
  cases l with
  | nil =>
   have e:Yh (ltC (cfR (rows.getD p.length []))) []=[]:=rfl;rw[e];clear e;go_enter Tryz.func187,Tryz.ntmps187;go_wp2_with (fail);refine(FR.out _ (Ext.rf w)).mono ?_;rintro e w1 ⟨rfl,x1⟩;have X2:=Hd (x1.alloc (.cells #[.int .u64 m,.int .u64 0] 161));clear x1;go_wp2_with (fail);refine(LI.out _ (hT.out.ext X2.out)).mono ?_;rintro e w3 ⟨A,c,rfl,o3,x3⟩;have X3:=Hd (X2.out.tr x3);have o3':=Hd (OwI.more o3 X2.out.size);clear x3 o3;go_wp2_with (fail);go_ret2;exact⟨A,c,rfl,o3'.out,X3.out⟩
  | cons i0 l =>
   have hne:0<(i0::l).length:=by simp
   generalize i0::l=l at *;have hkr:p.length<rows.length:=by omega
   have er:rows[p.length]?=some rows[p.length]:=List.getElem?_eq_getElem hkr;have eg:rows.getD p.length []=rows[p.length]:=by simp[List.getD,er]
   rw[eg];clear eg;obtain⟨D,d,hu,oD⟩:=hR.out.2 _ _ er;have hmem:rows[p.length]∈rows:=List.getElem_mem hkr;have lrow:=ok.row _ hmem;have nrow:=ok.num _ hmem;generalize rows[p.length]=row at *;replace lrow:=Hd lrow;replace oD:=Hd oD;replace nrow:=Hd nrow;have lz:(l.length:Int)>0:=by omega
   have lcc:rows.length<=cc:=by
    rcases hV.out.cases with⟨_,_,h,_⟩ | ⟨_,_,_,_,_,h,_⟩<;>omega
   clear er;go_enter Tryz.func187,Tryz.ntmps187;go_wp2_with (fail);refine(FR.out _ (Ext.rf w)).mono ?_;rintro e w1 ⟨rfl,x1⟩;have X2:=Hd (x1.alloc (.cells #[.int .u64 m,.int .u64 0] 161));clear x1;go_wp2_with (fail);refine(LI.out _ (hT.out.ext X2.out)).mono ?_;rintro e w3 ⟨A,c,rfl,o3,x3⟩;rcases OwI.cases o3 with⟨_,_,h0⟩ | ⟨gl,cur,rfl,hbg,_,_,_,_⟩
   ·exfalso
    have:=congrArg List.length h0;rw[Zh,List.length_nil] at this;omega
   rw[Zh] at *;have X3:=Hd (X2.out.tr x3);have zg:=(OwI.lt o3 gl rfl).2;have zgl:w.heap.size<=gl:=Nat.le_trans X2.out.size hbg;have z2:=X2.out.size;have o3':Hid (OwN w3 w.heap.size gl c l):=OwI.more o3 X2.out.size;obtain⟨ab,ao,vv,hC,zv,cv,ev⟩:=(hV.out.read.ext X3.out).at (j:=p.length) (by rw[lus.out];exact hkr);subst hC;obtain rfl:.slice D row.length d=vv:=by
    have h:=ev.out;rw[hu] at h;exact Option.some.inj h
   have cK:w3.cell? ⟨g,0,none⟩=some (.slice (some ⟨ab,ao,none⟩) rows.length cc):=(hB.out.ext X3.out).cell 0;have q1:(p.length:Int)<(rows.length:Int):=by omega
   have rb:Hid (Blk (w3.alloc (.cells #[.slice D row.length d] 22)) w3.heap.size 22 #[.slice D row.length d]):=.new rfl;have HCO:Hid (CmpOk 192 #[.pointer (some ⟨w3.heap.size,0,none⟩)] (cfR row) row.length gl (w3.alloc (.cells #[.slice D row.length d] 22))):=by
    intro W x y hx hy hm;have b2:=rb.out.mod hm (by show ¬w3.heap.size=gl;omega);refine Zjh row nrow.out D d w3.heap.size x y hx hy W (b2.cell 0) ?_;refine RdI.modG ((oD.out.read.ext X3.out).ext ((Ext.rf _).alloc _)) hm fun b hb=>?_
    have:=(oD.out.lt b hb).2;omega
   have SO:=UJ w.heap.size gl c 192 #[.pointer (some ⟨w3.heap.size,0,none⟩)] (cfR row) row.length l.length l _ (VR row) (enters_of Tryz.func192 (by kernel_rfl) rfl) HCO.out (OwN.ext o3'.out ((Ext.rf _).alloc _)) rfl hsrt.out (fun x hx=>by rw[lrow.out];exact hsub.out x hx) (by omega);have X4:=Hd (X3.out.alloc (.cells #[.slice D row.length d] 22));replace SO:=Hd SO;clear o3 x3 hbg ev hu HCO rb;go_wp2_with (fail);refine SO.out.mono ?_;rintro e w5 ⟨rfl,o5,m5⟩;have FIN:Hid (OwI w5 w.heap.size (some ⟨gl,0,none⟩) c (Zf (Yh (ltC (cfR row)) l))/\Ext w w5):=⟨o5,m5.heap X4.out zgl⟩;have hll:Hid ((Zf (Yh (ltC (cfR row)) l)).length=l.length):=Hd (by rw[Zh,Yz]);clear o5 m5;go_wp2_with (fail);go_ret2;refine⟨some ⟨gl,0,none⟩,c,?_,FIN.out.1,FIN.out.2⟩;rw[hll.out]
   rfl
def Xc (n m:Nat) : Array Value:=((List.range 24).map fun c=>Value.bool (decide (c<n) && !m.testBit c)).toArray
theorem Xd {n m c:Nat}(hc:c<24) : (Xc n m)[c]?=some (.bool (decide (c<n) && !m.testBit c)):=by
 unfold Xc;simp[hc]
theorem Ju {n m c:Nat}(h:m<18446744073709551616)(hc:c<n) : (Xc n m).setIfInBounds c (.bool true)=Xc n (YG m c):=by
 apply Array.ext_getElem?;intro i
 by_cases hi:i<24
 ·rw[Xd hi]
  by_cases e:c=i
  ·subst e
   rw[Array.getElem?_setIfInBounds_self_of_lt (by unfold Xc;simp;omega),ZaA h];simp[hc]
  ·rw[Array.getElem?_setIfInBounds_ne e,Xd hi,ZaA h]
   simp[e]
 ·rw[Array.getElem?_eq_none (by unfold Xc;simp;omega),Array.getElem?_eq_none (by unfold Xc;simp;omega)]
abbrev ZjG : Array Value:=#[.bool false,.bool false,.bool false,.bool false,.bool false,.bool false,.bool false,.bool false,.bool false,.bool false,.bool false,.bool false,.bool false,.bool false,.bool false,.bool false,.bool false,.bool false,.bool false,.bool false,.bool false,.bool false,.bool false,.bool false]
theorem ZaZ {n:Nat}(h:n<=24) : Xc n (2^n-1)=ZjG:=by
 apply Array.ext_getElem?;intro i
 by_cases hi:i<24
 ·rw[Xd hi]
  have e:(decide (i<n) && !(2^n-1).testBit i)=false:=by
   rw[Nat.testBit_two_pow_sub_one]
   cases decide (i<n)<;>rfl
  rw[e];have:i=0\/i=1\/i=2\/i=3\/i=4\/i=5\/i=6\/i=7\/i=8\/i=9\/i=10\/i=11\/i=12\/i=13\/i=14\/i=15\/i=16\/i=17\/i=18\/i=19\/i=20\/i=21\/i=22\/i=23:=by omega
  rcases this with rfl | rfl | rfl | rfl | rfl | rfl | rfl | rfl | rfl | rfl | rfl | rfl | rfl | rfl | rfl | rfl | rfl | rfl | rfl | rfl | rfl | rfl | rfl | rfl<;>rfl
 ·rw[Array.getElem?_eq_none (by unfold Xc;simp;omega),Array.getElem?_eq_none (by simp;omega)]
theorem JZ {n m:Nat}(h:SubN n m)(hn:n<=64) : Zb m=(List.range n).filter fun c=>m.testBit c:=by
 refine List.Perm.eq_of_pairwise (le:=(· < ·)) (fun a b _ _ h1 h2=>by omega) (ZD m) (List.Pairwise.filter _ List.pairwise_lt_range) ?_;refine(List.perm_ext_iff_of_nodup ((ZD m).imp fun h=>Nat.ne_of_lt h) ((List.Pairwise.filter _ List.pairwise_lt_range).imp fun h=>Nat.ne_of_lt h)).2 fun c=>?_
 rw[Yl];simp only[List.mem_filter,List.mem_range]
 constructor
 ·rintro ⟨h1,h2⟩
  exact⟨h.2 c (Yl.2 ⟨h1,h2⟩),h2⟩
 ·rintro ⟨h1,h2⟩
  exact⟨by omega,h2⟩
def VS (m:Nat)(w:World)(e:Ending)(w':World) : Prop:=∃ A c,e=.returned (.tuple #[.slice A (Zb m).length c,.bool true])/\OwI w' w.heap.size A c (Zf (Zb m))/\Ext w w'
def Zf4 (r:Option Nat)(w:World)(e:Ending)(w':World) : Prop:=match r with
 | none=>e=.returned (.tuple #[.slice none 0 0,.bool false])/\Ext w w'
 | some m=>VS m w e w'
def YR (m k:Nat) : List Nat:=(List.range k).filter fun c=>m.testBit c
theorem Zb9 (m k:Nat) : YR m (k+1)=YR m k++if m.testBit k=true then [k] else []:=by
 unfold YR;rw[List.range_succ,List.filter_append]
 by_cases h:m.testBit k=true
 ·rw[if_pos h];simp[h]
 ·rw[if_neg h];simp[h]
theorem ZdN (m k:Nat) : (YR m k).length<=k:=by
 have:=List.length_filter_le (fun c=>m.testBit c) (List.range k)
 rwa [List.length_range] at this
theorem Zca (i:InstP)(us:List Value)(P:Option Addr)(pc:Nat)(p:List Int)(w:World)(H:RInst w us i)(n:Nat)(hn:i.n=n)(h1:1<=n)(h24:n<=24)(hP:RdI w P p)(lp:p.length<=1000000000) :
  Calls Tryz.prog 83 #[.agg (List.toArray us),.slice P p.length pc] w (Zf4 (Ye n p) w):=by
 obtain⟨kind,nn,cap,xw,xv,co⟩:=i;obtain⟨A,a,B,b,D,d,rfl,-,-,-⟩:=H;simp only at *;subst hn;have UF:=Hd (YM h24);obtain⟨r,hr⟩:∃ r,Hid (Ye n p=r):=⟨_,rfl⟩;rw[hr.out];unfold Ye at hr;replace hP:=Hd hP;have B1:Hid (Blk (w.alloc (.cells #[.int .i64 kind,.int .i64 n,.int .i64 cap,.slice A xw.length a,.slice B xv.length b,.slice D co.length d] 25)) w.heap.size 25 #[.int .i64 kind,.int .i64 n,.int .i64 cap,.slice A xw.length a,.slice B xv.length b,.slice D co.length d]):=.new rfl
 by_cases hlen:n<p.length
 ·have hr2:Hid (r=none):=by
   have h:=hr.out;rw[if_pos hlen] at h;exact h.symm
  have hlb:(n:Int)<(p.length:Int):=by omega
  rw[hr2.out];unfold Zf4;clear hr hr2;go_enter Tryz.func83,Tryz.ntmps83;go_wp2_with (fail);go_ret2;exact⟨rfl,XI⟩
 ·have hr2:Hid (Yd (2^n-1) p=r):=by
   have h:=hr.out;rw[if_neg hlen] at h;exact h
  have hlb:¬(n:Int)<(p.length:Int):=by omega
  obtain⟨m0,hm0⟩:∃ m0,Hid (m0=2^n-1):=⟨2^n-1,by exact rfl⟩;have FU2:Hid (Xc n m0=ZjG):=by rw[hm0.out];exact ZaZ h24
  rw[<-hm0.out] at hr2 UF;have START:Hid (Ext w ((w.alloc (.cells #[.int .i64 kind,.int .i64 n,.int .i64 cap,.slice A xw.length a,.slice B xv.length b,.slice D co.length d] 25)).alloc (.cells #[.bool false,.bool false,.bool false,.bool false,.bool false,.bool false,.bool false,.bool false,.bool false,.bool false,.bool false,.bool false,.bool false,.bool false,.bool false,.bool false,.bool false,.bool false,.bool false,.bool false,.bool false,.bool false,.bool false,.bool false] 153))/\Blk ((w.alloc (.cells #[.int .i64 kind,.int .i64 n,.int .i64 cap,.slice A xw.length a,.slice B xv.length b,.slice D co.length d] 25)).alloc (.cells #[.bool false,.bool false,.bool false,.bool false,.bool false,.bool false,.bool false,.bool false,.bool false,.bool false,.bool false,.bool false,.bool false,.bool false,.bool false,.bool false,.bool false,.bool false,.bool false,.bool false,.bool false,.bool false,.bool false,.bool false] 153)) w.heap.size 25 #[.int .i64 kind,.int .i64 n,.int .i64 cap,.slice A xw.length a,.slice B xv.length b,.slice D co.length d]/\Blk ((w.alloc (.cells #[.int .i64 kind,.int .i64 n,.int .i64 cap,.slice A xw.length a,.slice B xv.length b,.slice D co.length d] 25)).alloc (.cells #[.bool false,.bool false,.bool false,.bool false,.bool false,.bool false,.bool false,.bool false,.bool false,.bool false,.bool false,.bool false,.bool false,.bool false,.bool false,.bool false,.bool false,.bool false,.bool false,.bool false,.bool false,.bool false,.bool false,.bool false] 153)) (w.heap.size+1) 153 (Xc n m0)) :=
   ⟨((Ext.rf _).alloc _).alloc _,B1.out.alloc _,by rw[FU2.out];exact .new (by simp)⟩
  clear hr;go_enter Tryz.func83,Tryz.ntmps83;go_wp2_with (fail);go_loopw [7] (fun v wr=>∃ (k m:Nat),v=.int .i64 k/\k<=p.length/\Hid (Yd m (p.drop k)=r)/\Hid (SubN n m)/\Hid (Ext w wr/\Blk wr w.heap.size 25 #[.int .i64 kind,.int .i64 n,.int .i64 cap,.slice A xw.length a,.slice B xv.length b,.slice D co.length d]/\Blk wr (w.heap.size+1) 153 (Xc n m))) (fun v _=>p.length-(intOf v).toNat)
  case atStart=>exact⟨0,m0,rfl,by omega,hr2,UF,START⟩
  case round =>
   obtain⟨wo,rfl⟩:=Wq wr;clear START FU2;obtain⟨k,m,rfl,hk,HF,HU,HH⟩:=hrel;obtain⟨Y,bI,bU⟩:=HH.out;have cN:=bI.c1;replace Y:=Hd Y;replace bI:=Hd bI;replace bU:=Hd bU;clear HH
   by_cases hlt:k<p.length
   ·obtain⟨pb,po,c,rfl,zp,cp,ep,dp⟩:=(hP.out.ext Y.out).at hlt
    have HF2:Hid (r=if 0<=c/\c<64/\m.testBit c.toNat=true then Yd (YG m c.toNat) (p.drop (k+1)) else none):=by
     have h:=HF.out;rw[dp.out,ZaV] at h;exact h.symm
    have q1:(k:Int)<(p.length:Int):=by omega
    clear HF ep dp
    by_cases c0:c<0
    ·have HN:Hid (r=none):=by
      have h:=HF2.out;rw[if_neg (by omega)] at h;exact h
     have t0:decide (c<0)=true:=decide_eq_true c0;go_wp2_with (fail);go_quiet (fail);go_wp2_with (fail);go_ret2;rw[HN.out];exact⟨rfl,Y.out.drewN _⟩
    ·have t0:decide (c<0)=false:=decide_eq_false c0
     obtain⟨ci,rfl⟩:∃ ci:Nat,c=(ci:Int):=⟨c.toNat,by omega⟩;rw[Int.toNat_natCast] at HF2;clear c0 t0
     by_cases c1:n<=ci
     ·have HN:Hid (r=none):=by
       have h:=HF2.out;rw[if_neg (by rintro ⟨_,h1,h2⟩;have:=HU.out.2 ci (Yl.2 ⟨by omega,h2⟩);omega)] at h;exact h
      have t1:decide (n<=ci)=true:=decide_eq_true c1;have t2:decide ((n:Int)<=(ci:Int))=true:=decide_eq_true (by omega);go_wp2_with (fail);go_quiet (fail);go_wp2_with (fail);go_ret2;rw[HN.out];exact⟨rfl,Y.out.drewN _⟩
     ·have t1:decide (n<=ci)=false:=decide_eq_false c1
      have t2:decide ((n:Int)<=(ci:Int))=false:=decide_eq_false (by omega);have cin:ci<n:=by omega
      have ci24:(ci:Int)<24:=by omega
      have dn:decide (ci<n)=true:=decide_eq_true cin
      cases hb:m.testBit ci with
      | false =>
       have HN:Hid (r=none):=by
        have h:=HF2.out;rw[if_neg (by rintro ⟨_,h1,h2⟩;rw[hb] at h2;cases h2)] at h;exact h
       have cu:wo.cell? ⟨w.heap.size+1,ci,none⟩=some (.bool true):=by rw[bU.out.cell,Xd (by omega),dn,hb];rfl
       clear HF2 hb dn;go_wp2_with (fail);go_quiet (fail);go_wp2_with (fail);go_ret2;rw[HN.out];exact⟨rfl,Y.out.drewN _⟩
      | true =>
       have HF3:Hid (Yd (YG m ci) (p.drop (k+1))=r):=by
        have h:=HF2.out;rw[if_pos ⟨by omega,by omega,hb⟩] at h;exact h.symm
       have cu:wo.cell? ⟨w.heap.size+1,ci,none⟩=some (.bool false):=by rw[bU.out.cell,Xd (by omega),dn,hb];rfl
       have fu:=bU.out.free ci;have HU2:=Hd (HU.out.clr ci);have NX:Hid (∀ q,Ext w ((wo.drewN q).setCell ⟨w.heap.size+1,ci,none⟩ (.bool true))/\Blk ((wo.drewN q).setCell ⟨w.heap.size+1,ci,none⟩ (.bool true)) w.heap.size 25 #[.int .i64 kind,.int .i64 n,.int .i64 cap,.slice A xw.length a,.slice B xv.length b,.slice D co.length d]/\Blk ((wo.drewN q).setCell ⟨w.heap.size+1,ci,none⟩ (.bool true)) (w.heap.size+1) 153 (Xc n (YG m ci))):=by
        intro q;refine⟨(Y.out.drewN q).setNew (by simp) _,(bI.out.drewN q).far (by simp) _,?_⟩;rw[<-Ju HU.out.1 cin];exact(bU.out.drewN q).set ci _
       clear HF2 hb dn;generalize YG m ci=m2 at *;go_wp2_with (fail);go_quiet (fail);go_wp2_with (fail);go_roundw
       case rel=>exact⟨k+1,m2,by go_num,by omega,HF3,HU2,NX.out _⟩
       case measure=>simp[intOf];omega
   ·have HF2:Hid (some m=r):=by
     have h:=HF.out;rw[show p.drop k=[] from List.drop_of_length_le (by omega)] at h;exact h
    have q1:¬(k:Int)<(p.length:Int):=by omega
    have HM:Hid (Zb m=YR m n):=JZ HU.out (by omega);have X9:=Hd (Y.out.alloc (.cells #[] 3));have bI9:=Hd (bI.out.alloc (.cells #[] 3));have bU9:=Hd (bU.out.alloc (.cells #[] 3));have zY:=Y.out.size;have o9:Hid (OwI (wo.alloc (.cells #[] 3)) w.heap.size (some ⟨wo.heap.size,0,none⟩) 0 (Zf (YR m 0))):=OwI.new (xs:=[]) rfl zY (by simp[maxLen]);clear HF HU hr2;go_wp2_with (fail);go_loopw [9,8] (fun v o wr=>∃ (k:Nat) (A':Option Addr) (c':Nat),v=.int .i64 k/\o=.slice A' (YR m k).length c'/\k<=n/\Hid (OwI wr w.heap.size A' c' (Zf (YR m k)))/\Hid (Ext w wr)/\Hid (Blk wr w.heap.size 25 #[.int .i64 kind,.int .i64 n,.int .i64 cap,.slice A xw.length a,.slice B xv.length b,.slice D co.length d])/\Hid (Blk wr (w.heap.size+1) 153 (Xc n m))) (fun v _ _=>n-(intOf v).toNat)
    case atStart=>exact⟨0,_,_,rfl,rfl,by omega,o9,X9,bI9,bU9⟩
    case round =>
     obtain⟨wi,rfl⟩:=Wq wr;obtain⟨j,A',c',rfl,rfl,hj,oJ,YJ,bIJ,bUJ⟩:=hrel;clear X9 bI9 bU9 o9;have cN2:=bIJ.out.c1;have US:=Hd (Zb9 m j);have UL:=ZdN m j
     by_cases hjn:j<n
     ·have j24:(j:Int)<24:=by omega
      have dn:decide (j<n)=true:=decide_eq_true hjn;have q3:(j:Int)<(n:Int):=by omega
      cases hb:m.testBit j with
      | false =>
       have cu:wi.cell? ⟨w.heap.size+1,j,none⟩=some (.bool true):=by rw[bUJ.out.cell,Xd (by omega),dn,hb];rfl
       have HE:Hid (YR m (j+1)=YR m j):=by
        have h:=US.out;rw[hb,if_neg (by simp),List.append_nil] at h;exact h
       clear US hb dn;go_wp2_with (fail);go_roundw
       case rel=>exact⟨j+1,A',c',by go_num,by rw[HE.out],by omega,by rw[HE.out];exact oJ,YJ,bIJ,bUJ⟩
       case measure=>simp[intOf];omega
      | true =>
       have cu:wi.cell? ⟨w.heap.size+1,j,none⟩=some (.bool false):=by rw[bUJ.out.cell,Xd (by omega),dn,hb];rfl
       have HE:Hid (YR m (j+1)=YR m j++[j]):=by
        have h:=US.out;rw[hb,if_pos rfl] at h;exact h
       have HE2:Hid (Zf (YR m (j+1))=Zf (YR m j)++[(j:Int)]):=Hd (by rw[HE.out];simp[Zf]);have HL:Hid ((YR m (j+1)).length=(YR m j).length+1):=Hd (by rw[HE.out];simp);have zJ:=YJ.out.size;have e0:(YR m j).length=(Zf (YR m j)).length:=(Zh _).symm;have l0:(Zf (YR m j)).length<=24:=by rw[Zh];omega
       rw[e0];clear US hb dn UL e0 HE;replace l0:=Hd l0;go_wp2_with (at_builtin;refine Yx _ rfl _ _ rfl w.heap.size A' (Zf (YR m j)).length c' (Zf (YR m j)) [(j:Int)] (some ⟨wi.heap.size,0,none⟩) 1 rfl rfl rfl ?_ ?_ ?_ ?_ ?_;(exact oJ.out.ext ((Ext.rf _).alloc _));(exact .blk (.new (by simp)) rfl);(have:=l0.out;simp;omega);(first | exact Nat.le_refl _ | omega | (focus (simp;try omega)));rintro A5 c5 w5 o5 g5 _;have X5:=Hd (Ext.grow (YJ.out.alloc _) g5 (fun k hk=>(oJ.out.lt k hk).1));have bI5:Hid (Blk w5 w.heap.size 25 #[.int .i64 kind,.int .i64 n,.int .i64 cap,.slice A xw.length a,.slice B xv.length b,.slice D co.length d]):=(bIJ.out.alloc _).mod (Mod.grown (S:=fun k=>bl A'=some k) g5 (fun _ h=>h)) (fun h=>absurd rfl (oJ.out.ne bIJ.out (by decide) _ h));have bU5:Hid (Blk w5 (w.heap.size+1) 153 (Xc n m)):=(bUJ.out.alloc _).mod (Mod.grown (S:=fun k=>bl A'=some k) g5 (fun _ h=>h)) (fun h=>absurd rfl (oJ.out.ne bUJ.out (by decide) _ h));rw[<-HE2.out] at o5;replace o5:=Hd o5;clear g5);go_roundw
       case rel=>exact⟨j+1,A5,c5,by go_num,by rw[HL.out,Zh],by omega,o5,X5,bI5,bU5⟩
       case measure=>simp[intOf];omega
     ·obtain rfl:j=n:=by omega
      have q3:¬(j:Int)<(j:Int):=by omega
      have FIN:Hid (VS m w (.returned (.tuple #[.slice A' (YR m j).length c',.bool true])) wi):=⟨A',c',by rw[HM.out],by rw[HM.out];exact oJ.out,YJ.out⟩;clear US UL;go_wp2_with (fail);go_ret2;rw[<-HF2.out];exact FIN.out
theorem ZdO (row:List Int)(x y:Nat) : Zbz (ltC (cfR row)) x y=(decide (row.getD x 0<row.getD y 0) || (decide (row.getD x 0=row.getD y 0)&&decide (x<y))):=by
 unfold Zbz ltC cfR;rw[Bool.eq_iff_iff];simp only[Bool.or_eq_true,Bool.and_eq_true,Bool.not_eq_true',decide_eq_true_eq,decide_eq_false_iff_not];omega
theorem Zf5 {l:List Nat}(h:l.Pairwise (· < ·)){i j x y:Nat}(hx:l[i]?=some x)(hy:l[j]?=some y) : decide (x<y)=decide (i<j):=by
 obtain⟨h1,rfl⟩:=List.getElem?_eq_some_iff.1 hx;obtain⟨h2,rfl⟩:=List.getElem?_eq_some_iff.1 hy;rw[decide_eq_decide];rcases Nat.lt_trichotomy i j with hc | hc | hc
 ·exact⟨fun _=>hc,fun _=>List.pairwise_iff_getElem.1 h i j h1 h2 hc⟩
 ·subst hc;omega
 ·have:=List.pairwise_iff_getElem.1 h j i h2 h1 hc
  omega
theorem ZdP (i:InstP)(us:List Value)(P:Option Addr)(pc:Nat)(p:List Int)(w:World)(H:RInst w us i)(ok:SquareOk i)(hP:RdI w P p)(lp:p.length<=1000000000) :
  Calls Tryz.prog 51 #[.agg (List.toArray us),.slice P p.length pc] w (Ys (Xs i.cost p).1 (Xs i.cost p).2 w):=by
 have rok:=ZP ok;have l1:=rok.n1;have l2:=rok.n2;have hnn:i.n=(i.cost.length:Int):=ok.len.symm;have FR:=fun(W:World) (x:Ext w W)=>Zca i us P pc p W (H.ext x) i.cost.length hnn l1 l2 (hP.ext x) lp
 clear ok;obtain⟨kind,nn,cap,xw,xv,co⟩:=i;obtain⟨A,a,B,b,D,d,rfl,-,-,⟨hC,-,-⟩⟩:=H;simp only at *;subst hnn;obtain⟨r,hr⟩:∃ r,Hid (Ye co.length p=r):=⟨_,rfl⟩;rw[hr.out] at FR;replace hP:=Hd hP;have B1:Hid (Blk (w.alloc (.cells #[.int .i64 kind,.int .i64 co.length,.int .i64 cap,.slice A xw.length a,.slice B xv.length b,.slice D co.length d] 25)) w.heap.size 25 #[.int .i64 kind,.int .i64 co.length,.int .i64 cap,.slice A xw.length a,.slice B xv.length b,.slice D co.length d]):=.new rfl
 cases r with
 | none =>
  have e:Xs co p=([],1):=by unfold Xs;rw[hr.out]
  rw[e];unfold Zf4 at FR;replace FR:=Hd FR;go_enter Tryz.func51,Tryz.ntmps51;go_wp2_with (fail);refine(FR.out _ XI).mono ?_;rintro e w1 ⟨rfl,x1⟩;have X1:=Hd (Ext.tr (a:=w) XI x1);clear x1;go_wp2_with (fail);go_ret2;exact⟨none,0,rfl,OwI.nil _ _,X1.out⟩
 | some m =>
  obtain⟨hpl,hin,hS⟩:=WG l2 hr.out;have hlen:=YN l2 hr.out;have e:Xs co p=(Zf (Yh (ltC (cfR (co.getD p.length []))) (Zb m)),0):=by unfold Xs;rw[hr.out]
  rw[e];clear e;have hsub:=Hd hS.2;have hsrt:=Hd (ZD m);replace FR:=fun(W:World) (x:Ext w W)=>(show Calls _ _ _ W (VS m W) from FR W x)
  unfold VS at FR;replace FR:=Hd FR;clear hr hS hin;generalize Zb m=l at *
  by_cases hpn:p.length=co.length
  ·obtain rfl:l=[]:=List.eq_nil_of_length_eq_zero (by omega)
   have e:Yh (ltC (cfR (co.getD p.length []))) []=[]:=rfl;rw[e];have hb:((p.length:Int)==(co.length:Int))=true:=by rw[beq_iff_eq];omega
   replace hpn:=Hd hpn;clear e;go_enter Tryz.func51,Tryz.ntmps51;go_wp2_with (fail);refine(FR.out _ XI).mono ?_;rintro e w1 ⟨A1,c1,rfl,o1,x1⟩;have X1:=Hd (Ext.tr (a:=w) XI x1);have BB:=B1.out.ext x1;have d1:=BB.c1;clear x1 o1 BB;go_wp2_with (fail);go_ret2;exact⟨none,0,rfl,OwI.nil _ _,X1.out⟩
  ·have hb:((p.length:Int)==(co.length:Int))=false:=by rw[beq_eq_false_iff_ne];omega
   have hkr:p.length<co.length:=by omega
   have er:co[p.length]?=some co[p.length]:=List.getElem?_eq_getElem hkr;have eg:co.getD p.length []=co[p.length]:=by simp[List.getD,er]
   rw[eg];clear eg;replace hC:=Hd hC;have hmem:co[p.length]∈co:=List.getElem_mem hkr;have lrow:=rok.row _ hmem;clear hmem;have HCO:Hid (∀ W,Ext w W->∃ bb off D' row d',D=some ⟨bb,off,none⟩/\W.cell? ⟨bb,off+p.length,none⟩=some (.slice D' row.length d')/\RdI W D' row/\row=co[p.length]):=by
    intro W x;obtain⟨bb,off,D',row,d',h1,_,h3,h4,_,h6,_⟩:=(hC.out.ext x fun _ _ h=>h.ext x).ints hkr;refine⟨bb,off,D',row,d',h1,h3,h6,?_⟩;have:=h4.out;rw[er] at this;exact(Option.some.inj this).symm
   generalize co[p.length]=row0 at *;clear er;have q1:(p.length:Int)<(co.length:Int):=by omega
   have hl24:l.length<=24:=by omega
   replace lrow:=Hd lrow;replace hlen:=Hd hlen;clear hpn;go_enter Tryz.func51,Tryz.ntmps51;go_wp2_with (fail);refine(FR.out _ XI).mono ?_;rintro e w1 ⟨A1,c1,rfl,o1,x1⟩;have X1:=Hd (Ext.tr (a:=w) XI x1);have BB:=Hd (B1.out.ext x1);obtain⟨bb,off,D',row,d',rfl,cD,rD,rfl⟩:=HCO.out _ X1.out;have d1:=BB.out.c1;have d5:=BB.out.c5;have z1:=X1.out.size;have zo:=o1.lt;replace o1:=Hd o1.read;replace rD:=Hd rD;clear x1 HCO zo;go_wp2_with (at_make;refine W7 _ rfl _ _ rfl w1.heap.size _ _ l.length rfl rfl rfl rfl (by omega) (Nat.le_refl _) ?_;rintro w3 o3 g3);have x3:Ext w1 w3:=(Ext.rf _).grownNone g3;have S3:Hid (OwI w3 w1.heap.size (some ⟨w1.heap.size,0,none⟩) l.length (Yp (Zy (ltC (cfR row)) l) l 0)/\Ext w1 w3):=⟨o3,x3⟩;clear o3 g3 x3 d1 d5 cD;go_wp2_with (fail);go_loopw [10] (fun v wr=>∃ k:Nat,v=.int .i64 k/\k<=l.length/\Hid (OwI wr w1.heap.size (some ⟨w1.heap.size,0,none⟩) l.length (Yp (Zy (ltC (cfR row)) l) l k)/\Ext w1 wr)) (fun v _=>l.length-(intOf v).toNat)
   case atStart=>exact⟨0,rfl,by omega,S3⟩
   case round =>
    obtain⟨wo,rfl⟩:=Wq wr;obtain⟨k,rfl,hk,HS⟩:=hrel;clear S3
    by_cases hlt:k<l.length
    ·have q2:(k:Int)<(l.length:Int):=by omega
     have ek:l[k]?=some l[k]:=List.getElem?_eq_getElem hlt;have hkm:l[k]∈l:=List.getElem_mem hlt;have HPK:Hid (Yp (Zy (ltC (cfR row)) l) l (k+1)=(Yp (Zy (ltC (cfR row)) l) l k).set (Zy (ltC (cfR row)) l l[k]) ((l[k]:Nat):Int)):=by
      have h:Yp (Zy (ltC (cfR row)) l) l (k+1)=(Yp (Zy (ltC (cfR row)) l) l k).set (Zy (ltC (cfR row)) l (l.getD k 0)) ((l.getD k 0:Nat):Int):=rfl;rw[show l.getD k 0=l[k] by simp[List.getD,ek]] at h;exact h
     have hxs:=hsub.out _ hkm;generalize l[k]=x at *;obtain⟨O,Y⟩:=HS.out;clear HS;replace O:=Hd O;replace Y:=Hd Y;go_wp2_with (fail);go_loopw [12,11] (fun v nv wr=>∃ j:Nat,v=.int .i64 j/\nv=.int .i64 (Zy (ltC (cfR row)) (l.take j) x:Nat)/\j<=l.length/\Hid (Ext wo wr)) (fun v _ _=>l.length-(intOf v).toNat)
     case atStart=>exact⟨0,rfl,rfl,by omega,Ext.rf _⟩
     case round =>
      obtain⟨wi,rfl⟩:=Wq wr;obtain⟨j,rfl,rfl,hj,YI⟩:=hrel;have hale:=Js (ltC (cfR row)) (l.take j) x;rw[List.length_take] at hale;have rl:RdI wi A1 (Zf l):=(o1.out.ext Y.out).ext YI.out;have rr:RdI wi D' row:=(rD.out.ext Y.out).ext YI.out;obtain⟨lb,lo,xk,rfl,_,ck,exk,_⟩:=rl.at (k:=k) (by rw[Zh];exact hlt);obtain rfl:xk=(x:Int):=by
       have h:=exk.out;rw[Z7 ek] at h;exact(Option.some.inj h).symm
      obtain⟨rb,ro,yk,rfl,_,cxk,eyk,_⟩:=rr.at (k:=x) (by rw[lrow.out];exact hxs);have gk:row.getD x 0=yk:=getD_some eyk.out;clear exk eyk
      by_cases hjl:j<l.length
      ·have q3:(j:Int)<(l.length:Int):=by omega
       have ej:l[j]?=some l[j]:=List.getElem?_eq_getElem hjl;have hjs:=hsub.out _ (List.getElem_mem hjl);have HA:Hid (Zy (ltC (cfR row)) (l.take (j+1)) x=Zy (ltC (cfR row)) (l.take j) x+if Zbz (ltC (cfR row)) l[j] x=true then 1 else 0):=by
        have h:l.take (j+1)=l.take j++[l[j]]:=by rw[List.take_add_one,ej];rfl
        have h2:=UI (ltC (cfR row)) (l.take j) x l[j];rw[<-h] at h2;exact h2
       have HB:=Zf5 hsrt.out ej ek;generalize l[j]=y at *;obtain⟨lb2,lo2,xj,hq,_,cj,exj,_⟩:=rl.at (k:=j) (by rw[Zh];exact hjl);obtain⟨rfl,rfl⟩:lb=lb2/\lo=lo2:=by simpa using hq
       obtain rfl:xj=(y:Int):=by
        have h:=exj.out;rw[Z7 ej] at h;exact(Option.some.inj h).symm
       obtain⟨rb2,ro2,yj,hq2,_,cxj,eyj,_⟩:=rr.at (k:=y) (by rw[lrow.out];exact hjs);obtain⟨rfl,rfl⟩:rb=rb2/\ro=ro2:=by simpa using hq2
       have gj:row.getD y 0=yj:=getD_some eyj.out;have HA2:Hid (Zy (ltC (cfR row)) (l.take (j+1)) x=Zy (ltC (cfR row)) (l.take j) x+if (decide (yj<yk) || (decide (yj=yk)&&decide (j<k)))=true then 1 else 0):=by
        have h:=HA.out;rw[ZdO,gj,gk,HB] at h;exact h
       have qx:(x:Int)<(row.length:Int):=by rw[lrow.out];omega
       have qy:(y:Int)<(row.length:Int):=by rw[lrow.out];omega
       clear HA HB ej exj eyj hq hq2 gj gk rl rr;generalize Zy (ltC (cfR row)) (l.take j) x=ah at *
       by_cases t1:yj<yk
       ·have d1:decide (yj<yk)=true:=decide_eq_true t1
        have HA3:Hid (Zy (ltC (cfR row)) (l.take (j+1)) x=ah+1):=by
         have h:=HA2.out;rw[d1,Bool.true_or,if_pos rfl] at h;exact h
        clear HA2;go_wp2_with (fail);go_quiet (fail);go_wp2_with (fail);go_roundw
        case rel=>exact⟨j+1,by go_num,by rw[HA3.out];go_num,by omega,YI.out.drewN _⟩
        case measure=>simp[intOf];omega
       ·have d1:decide (yj<yk)=false:=decide_eq_false t1
        by_cases t2:yj=yk
        ·have d2:(yj==yk)=true:=by rw[beq_iff_eq];exact t2
         have d2':decide (yj=yk)=true:=decide_eq_true t2;replace t2:=Hd t2
         by_cases t3:j<k
         ·have d3:decide (j<k)=true:=decide_eq_true t3
          have HA3:Hid (Zy (ltC (cfR row)) (l.take (j+1)) x=ah+1):=by
           have h:=HA2.out;rw[d1,d2',d3] at h;exact h
          clear HA2 d2';go_wp2_with (fail);go_quiet (fail);go_wp2_with (fail);go_roundw
          case rel=>exact⟨j+1,by go_num,by rw[HA3.out];go_num,by omega,YI.out.drewN _⟩
          case measure=>simp[intOf];omega
         ·have d3:decide (j<k)=false:=decide_eq_false t3
          have HA3:Hid (Zy (ltC (cfR row)) (l.take (j+1)) x=ah):=by
           have h:=HA2.out;rw[d1,d2',d3] at h;exact h
          clear HA2 d2';go_wp2_with (fail);go_quiet (fail);go_wp2_with (fail);go_roundw
          case rel=>exact⟨j+1,by go_num,by rw[HA3.out],by omega,YI.out.drewN _⟩
          case measure=>simp[intOf];omega
        ·have d2:(yj==yk)=false:=by rw[beq_eq_false_iff_ne];exact t2
         have d2':decide (yj=yk)=false:=decide_eq_false t2;have HA3:Hid (Zy (ltC (cfR row)) (l.take (j+1)) x=ah):=by
          have h:=HA2.out;rw[d1,d2'] at h;exact h
         clear HA2 d2';go_wp2_with (fail);go_quiet (fail);go_wp2_with (fail);go_roundw
         case rel=>exact⟨j+1,by go_num,by rw[HA3.out],by omega,YI.out.drewN _⟩
         case measure=>simp[intOf];omega
      ·obtain rfl:j=l.length:=by omega
       have q3:¬(l.length:Int)<(l.length:Int):=by omega
       have e0:l.take l.length=l:=List.take_length;rw[e0];have hal:Zy (ltC (cfR row)) l x<l.length:=by
        have W:=VR row;obtain⟨k',hk',e'⟩:=List.mem_iff_getElem.1 ((Xa W hsrt.out).mem.2 hkm);rw[VQ W hsrt.out (by rw[List.getElem?_eq_getElem hk',e'])]
        rwa [Yz] at hk'
       clear e0 hale gk;generalize Zy (ltC (cfR row)) l x=ah at *;obtain⟨v9,c9,f9,_,_,s9⟩:=OwI.cell (OwI.ext O.out YI.out) (k:=ah) (by rw[Y1];exact hal);have q4:(ah:Int)<(l.length:Int):=by omega
       have NX:Hid (∀ W2,Ext wi W2->OwI (W2.setCell ⟨w1.heap.size,ah,none⟩ (.int .i64 x)) w1.heap.size (some ⟨w1.heap.size,0,none⟩) l.length (Yp (Zy (ltC (cfR row)) l) l (k+1))/\Ext w1 (W2.setCell ⟨w1.heap.size,ah,none⟩ (.int .i64 x))):=by
        intro W2 x2;rw[HPK.out];obtain⟨_,_,_,_,_,s8⟩:=OwI.cell (OwI.ext (OwI.ext O.out YI.out) x2) (k:=ah) (by rw[Y1];exact hal);exact⟨s8.out _,((Y.out.tr YI.out).tr x2).setNew (p:=⟨w1.heap.size,ah,none⟩) (Nat.le_refl _) _⟩
       clear s9 HPK rl rr;go_wp2_with (first | go_quiet (fail) | go_region);go_roundw
       case rel=>exact⟨k+1,by go_num,by omega,NX.out _ XI⟩
       case measure=>simp[intOf];omega
    ·obtain rfl:k=l.length:=by omega
     have q2:¬(l.length:Int)<(l.length:Int):=by omega
     have FIN:Hid (Ys (Zf (Yh (ltC (cfR row)) l)) 0 w (.returned (.tuple #[.slice (some ⟨w1.heap.size,0,none⟩) l.length l.length,.int .i64 0])) wo):=by
      refine⟨some ⟨w1.heap.size,0,none⟩,l.length,by rw[Zh,Yz],?_,X1.out.tr HS.out.2⟩;have h:=HS.out.1;rw[Qm (VR row) hsrt.out] at h;exact OwI.more h z1
     clear HS;go_wp2_with (fail);go_ret2;exact FIN.out
end
end Go.Proofs.YtnbcmiaaleambaaGreatDoor
