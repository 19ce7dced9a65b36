/- parts, packed by a program -/
import Derived.Test.YtocfmioihaefoaaGreatDoorShellWritesP1
import Derived.Deep.CutBlock
import Derived.Shelf.Unicode.DecodeAny
import Derived.Shelf.Small.Strs
import Derived.Lib.LaidU8
set_option maxRecDepth 100000
set_option maxHeartbeats 16000000
set_option linter.all false
namespace Go.Proofs.YtocfmioihaefoaaGreatDoor
open Go.ChangeAt Go.ChangeShapes Go.Deep Go.RowKit Go.WideShapes
section
structure PartP where
 kind:Int
 count:Int
 who:Int
 every:Int
 seed:Int
deriving DecidableEq
structure ScrP where
 wk:Int
 sl:Int
 lv:Int
 draws:List Int
 parts:List PartP
deriving DecidableEq
def Zs : Txt:=[119,111,114,107,101,114,115]
def ZK : Txt:=[115,108,111,116,115]
def ZE : Txt:=[108,101,118,101,108,115]
def ZB : Txt:=[100,114,97,119,115]
def Vj : Txt:=[114,111,117,110,100]
def WB : Txt:=[102,97,118,111,114]
def WD : Txt:=[109,105,120,101,100]
def Zbj : Txt:=[97,108,108]
def ZX : Int:=999999999999999999
def Va (w:Txt)(most:Int) : Option Int:=if (Xp w).2.2=0/\(Xp w).2.1=(w.length:Int)/\(Xp w).1<=most then some (Xp w).1 else none
def Zn : List Txt->List Int->Option (List Int)
 | [],[]=>some []
 | w::ws,m::ms=>match Va w m with
  | none=>none
  | some n=>match Zn ws ms with
   | none=>none
   | some l=>some (n::l)
 | [],_::_=>none
 | _::_,[]=>none
def Xi (w:List Txt)(wk:Int) : Option PartP :=
 if w.headD []=Vj then match Zn w.tail [1000000] with
  | some [a]=>some ⟨1,a,0,0,0⟩
  | _=>none
 else if w.headD []=Zbj then match Zn w.tail [1000000] with
  | some [a]=>some ⟨4,a,0,0,0⟩
  | _=>none
 else if w.headD []=WB then match Zn w.tail [wk-1,1000000,1000000] with
  | some [a,b,c]=>if b=0 then none else some ⟨2,c,a,b,0⟩
  | _=>none
 else if w.headD []=WD then match Zn w.tail [1000000,ZX] with
  | some [a,b]=>some ⟨3,a,0,0,b⟩
  | _=>none
 else none
def Yl (s:ScrP)(said:List Txt)(w:List Txt)(most:Int)(put:Int->ScrP) : Option (ScrP×List Txt) :=
 if s.parts≠[]\/w.headD []∈said then none
 else match Zn w.tail [most] with
  | some [x]=>if x=0 then none else some (put x,said++[w.headD []])
  | _=>none
def Zy (s:ScrP)(said:List Txt)(w:List Txt) : Option (ScrP×List Txt) :=
 if w.headD []=Zs then Yl s said w 16 (fun x=>{ s with wk:=x })
 else if w.headD []=ZK then Yl s said w 4096 (fun x=>{ s with sl:=x })
 else if w.headD []=ZE then Yl s said w 6 (fun x=>{ s with lv:=x })
 else if w.headD []=ZB then
  if s.parts≠[]\/w.headD []∈said\/100<w.tail.length then none
  else match Zn w.tail (List.replicate w.tail.length ZX) with
   | some d=>some ({ s with draws:=s.draws++d },said++[w.headD []])
   | none=>none
 else match Xi w s.wk with
  | some p=>if 50<=s.parts.length then none else some ({ s with parts:=s.parts++[p] },said)
  | none=>none
def YD (s:ScrP)(said:List Txt)(l:Txt) : Option (ScrP×List Txt) :=
 if l=[]\/l.head?=some 35 then some (s,said) else Zy s said (Zp 32 l)
def scr0 : ScrP:=⟨0,0,0,[],[]⟩
def scrS : ScrP:=⟨2,64,3,[],[]⟩
def YV : ScrP->List Txt->Int->List Txt->ScrP×Int×Int
 | s,_,_,[]=>(s,0,0)
 | s,said,n,l::ls=>match YD s said l with
  | none=>(scr0,n,8)
  | some r=>YV r.1 r.2 (n+1) ls
def ZM (s:Txt) : ScrP×Int×Int:=if 65536<s.length then(scr0,0,5) else YV scrS [] 1 (Zp 10 s)
def XG (p:PartP) : Txt :=
 if p.kind=1 then Vj++32::Lib.itoa p.count
 else if p.kind=2 then WB++32::(Lib.itoa p.who++32::(Lib.itoa p.every++32::Lib.itoa p.count))
 else if p.kind=3 then WD++32::(Lib.itoa p.count++32::Lib.itoa p.seed)
 else Zbj++32::Lib.itoa p.count
def Yu (l:List Int) : Txt:=if l=[] then [] else ZB++(l.flatMap fun n=>32::Lib.itoa n)++[10]
def ZI (s:ScrP) : Txt :=
 (Zs++32::Lib.itoa s.wk++[10])++(ZK++32::Lib.itoa s.sl++[10])++(ZE++32::Lib.itoa s.lv++[10])++Yu s.draws++s.parts.flatMap fun p=>XG p++[10]
def Yq (s:ScrP) : Txt×Int:=if (ZM (ZI s)).2.2=0/\(ZM (ZI s)).1=s then(ZI s,0) else([],8)
theorem Qa {w:Txt}{m n:Int}(h:Va w m=some n) : 0<=n/\n<=m/\n<1000000000000000000:=by
 unfold Va at h;split at h
 ·rename_i h1
  injection h with h
  subst h;exact⟨(Ui w).1,h1.2.2,(Ui w).2⟩
 ·cases h
theorem Yh : ∀ {ws:List Txt} {ms l:List Int},Zn ws ms=some l->l.length=ms.length/\ws.length=ms.length/\∀ i:Nat,∀ n m:Int,l[i]?=some n->ms[i]?=some m->0<=n/\n<=m/\n<1000000000000000000
 | [],[],l,h=>by
  rw[Zn] at h
  injection h with h
  subst h;simp
 | w::ws,m::ms,l,h=>by
  rw[Zn] at h
  cases h1:Va w m with
  | none=>rw[h1] at h;cases h
  | some n =>
   rw[h1] at h
   cases h2:Zn ws ms with
   | none=>rw[h2] at h;cases h
   | some l' =>
    rw[h2] at h
    injection h with h
    subst h;obtain⟨a,b,c⟩:=Yh h2;refine⟨by simp[a],by simp[b],fun i n' m' e1 e2=>?_⟩
    cases i with
    | zero =>
     simp only[List.getElem?_cons_zero,Option.some.injEq] at e1 e2;subst e1;subst e2;exact Qa h1
    | succ i=>exact c i n' m' (by simpa using e1) (by simpa using e2)
 | [],_::_,_,h=>by simp[Zn] at h
 | _::_,[],_,h=>by simp[Zn] at h
theorem Wl (ws:List Txt)(ms acc:List Int)(k:Nat)(w:Txt)(m:Int)(hw:ws[k]?=some w)(hm:ms[k]?=some m)(h:Zn ws ms=(Zn (ws.drop k) (ms.drop k)).map (acc ++ ·)) :
  Zn ws ms=match Va w m with
   | none=>none
   | some n=>(Zn (ws.drop (k+1)) (ms.drop (k+1))).map (acc++[n] ++ ·):=by
 obtain⟨h1,rfl⟩:=List.getElem?_eq_some_iff.1 hw;obtain⟨h2,rfl⟩:=List.getElem?_eq_some_iff.1 hm;rw[h,List.drop_eq_getElem_cons h1,List.drop_eq_getElem_cons h2,Zn]
 cases Va ws[k] ms[k] with
 | none=>rfl
 | some n =>
  simp only
  cases Zn (ws.drop (k+1)) (ms.drop (k+1)) with
  | none=>rfl
  | some l=>simp
theorem Zd8 (l:Txt)(c:UInt8)(h:l[(Yr l).length]?=some c) : isD c=false:=by
 unfold Yr at h
 induction l with
 | nil=>simp at h
 | cons b l ih =>
  rw[List.takeWhile_cons] at h
  cases hb:isD b with
  | true =>
   rw[hb] at h;simp only[if_true,List.length_cons,List.getElem?_cons_succ] at h;exact ih h
  | false =>
   rw[hb] at h;simp at h;subst h;exact hb
theorem Zgn {l:Txt}{k:Nat}(h:k<(Yr l).length) : ∃ c,l[k]?=some c/\(Yr l)[k]?=some c/\isD c=true:=by
 obtain⟨c,hc⟩:∃ c,(Yr l)[k]?=some c:=⟨_,List.getElem?_eq_getElem h⟩;refine⟨c,?_,hc,Vu l c (List.mem_of_getElem? hc)⟩;rw[<-QZ l,List.getElem?_take,if_pos h] at hc;exact hc
theorem Un (s:Txt) : ZJ s 0=Xp s:=by
 unfold ZJ Xp YB;rw[List.drop_zero];split
 ·rfl
 split
 ·rfl
 ·simp
theorem Zae {ws:List Txt}{ms:List Int}(h:ws.length≠ms.length) : Zn ws ms=none:=by
 cases e:Zn ws ms with
 | none=>rfl
 | some l=>exact absurd (Yh e).2.1 h
theorem WZ (ws:List Txt)(ms acc:List Int)(k:Nat)(h1:ws.length<=k)(h2:ms.length<=k)(h:Zn ws ms=(Zn (ws.drop k) (ms.drop k)).map (acc ++ ·)) : Zn ws ms=some acc:=by
 rw[h,List.drop_eq_nil_of_le h1,List.drop_eq_nil_of_le h2,Zn];simp
theorem XH {c:UInt8} : ∀ {s x:Txt},x∈Zp c s->x.length<=s.length
 | [],x,h=>by
  simp[Zp] at h;subst h;exact Nat.le_refl _
 | a::s,x,h=>by
  have ih:=fun {y} (hy:y∈Zp c s)=>XH (x:=y) hy
  unfold Zp at h;split at h
  ·rcases List.mem_cons.1 h with rfl | h
   ·exact Nat.zero_le _
   ·have:=ih h
    simp;omega
  ·split at h
   ·simp at h
    subst h;simp
   ·rename_i p r e
    rcases List.mem_cons.1 h with rfl | h
    ·have:=ih (y:=p) (by rw[e];simp)
     simp;omega
    ·have:=ih (y:=x) (by rw[e];simp[h])
     simp;omega
theorem YZ {c:UInt8} : ∀ (s:Txt),(Zp c s).length<=s.length+1
 | []=>by simp[Zp]
 | a::s=>by
  have ih:=YZ (c:=c) s;unfold Zp;split
  ·simp;omega
  ·split
   ·simp
   ·rename_i p r e
    rw[e] at ih;simp at ih ⊢;omega
end
section
theorem Zaf (s:Txt)(a:Nat)(w:World)(ha:a<=s.length)(hl:s.length<=1000000) :
  Calls Tryz.prog 42 #[.string ⟨s.toArray⟩,.int .i64 (a:Int)] w fun e w'=>e=.returned (.tuple #[.int .i64 (ZJ s a).1,.int .i64 (ZJ s a).2.1,.int .i64 (ZJ s a).2.2])/\Ext w w':=by
 have hsz:(⟨s.toArray⟩:ByteArray).size=s.length:=by simp[Lib.size_eq]
 have AT:Hid (∀ (k:Nat) (hk:k<(⟨s.toArray⟩:ByteArray).size),s[k]?=some ((⟨s.toArray⟩:ByteArray)[k]'hk)):=Hd fun k hk=>Wy s k hk
 have DG:=Hd (fun(x:UInt8) (W:World)=>Zbi x W);have hR:Hid (ZJ s a=((YB (Yr (s.drop a))).1,if (YB (Yr (s.drop a))).2.2=0 then(a:Int)+(YB (Yr (s.drop a))).2.1 else 0,(YB (Yr (s.drop a))).2.2)):=Hd rfl;obtain⟨D,hD⟩:∃ D,Yr (s.drop a)=D:=⟨_,rfl⟩;have RA:Hid (∀ k,k<D.length->∃ c,s[a+k]?=some c/\D[k]?=some c/\isD c=true):=Hd fun k hk=>by
  rw[<-hD] at hk ⊢;obtain⟨c,h1,h2,h3⟩:=Zgn hk;exact⟨c,by rwa [List.getElem?_drop] at h1,h2,h3⟩
 have RE:Hid (∀ c,s[a+D.length]?=some c->isD c=false):=Hd fun c h=>by
  rw[<-hD] at h;exact Zd8 (s.drop a) c (by rw[List.getElem?_drop];exact h)
 have HL:a+D.length<=s.length:=by
  have:=Vt (s.drop a);rw[hD,List.length_drop] at this;omega
 have hDm:∀ b∈D,isD b=true:=by rw[<-hD];exact Vu _
 have VR:Hid (∀ k,k<=18->0<=Yj (D.take k)/\Yj (D.take k)<1000000000000000000):=Hd fun k hk=>by
  obtain⟨v1,v2⟩:=Vf (D.take k) (fun x hx=>hDm x (List.mem_of_mem_take hx));refine⟨v1,Int.lt_of_lt_of_le v2 ?_⟩;have h18:(D.take k).length<19:=by rw[List.length_take];omega
  exact Zgc ⟨_,h18⟩
 rw[hD] at hR;obtain⟨R,hRR⟩:∃ R,Hid (ZJ s a=R):=⟨_,rfl⟩;rw[hRR.out];rw[hRR.out] at hR;clear hRR hD hDm;obtain⟨n,hn⟩:∃ n,s.length=n:=⟨_,rfl⟩;rw[hn] at hsz ha hl HL;clear hn;obtain⟨m,hm⟩:∃ m,Hid (D.length=m):=⟨_,rfl⟩;rw[hm.out] at RA RE HL;have FULL:Hid (D.take m=D):=Hd (by rw[<-hm.out,List.take_length]);generalize hs:(⟨s.toArray⟩:ByteArray)=sb at *;clear hs;have SZ:=Hd hsz;clear hsz;have s0:(0:Int)<=(sb.size:Int):=by omega
 have g1:¬((a:Int)<0):=by omega
 have g2:¬((a:Int)>(sb.size:Int)):=by have:=SZ.out;omega
 have g3:¬((sb.size:Int)<(a:Int)):=by have:=SZ.out;omega
 have g4:(0:Int)<=(a:Int):=by omega
 obtain⟨E,hE⟩:∃ E,Hid (E=a+m):=⟨_,rfl⟩;have HE:E<=n:=by have:=hE.out;omega
 go_enter Tryz.func42,Tryz.ntmps42;go_upto_block 0 with(fail);go_cut [7] (fun v wx=>v=.int .i64 (E:Int)/\Hid (Ext w wx))
 case first =>
  go_wp2_with (fail);go_loopw [7] (fun ev wr=>∃ b k:Nat,ev=.int .i64 (b:Int)/\Hid (b=a+k)/\k<=m/\b<=n/\Hid (Ext w wr)) (fun ev _=>n-(intOf ev).toNat)
  case atStart=>exact⟨a,0,rfl,Hd (by omega),by omega,by omega,Hd XI⟩
  case round =>
   obtain⟨b,k,rfl,hb,hk,hbn,Y⟩:=hrel
   by_cases hkm:k<m
   ·have hbn1:b<n:=by have:=hb.out;have:=hE.out;omega
    have hk2:b<sb.size:=by rw[SZ.out];exact hbn1
    have hk3:(b:Int)<(sb.size:Int):=by omega
    have hat:=AT.out b hk2;obtain⟨c,h1,-,h3⟩:=RA.out k hkm;rw[<-hb.out,hat] at h1
    injection h1 with h1
    have DX:=Hd (fun(W:World)=>(show Calls Tryz.prog 74 #[.int .u8 (sb[b]'hk2).toNat] W fun e w'=>e=.returned (.bool true)/\Ext W w' by have h2:=DG.out (sb[b]'hk2) W;rwa [h1,h3,<-h1] at h2));clear hat h1 h3 AT RA RE;go_wp2_with (go_at_call 74;refine(DX.out _).mono ?_;rintro r w2 ⟨rfl,x2⟩);go_roundw
    case rel=>exact⟨b+1,k+1,by go_num,Hd (by have:=hb.out;omega),by omega,by omega,Hd (Y.out.tr (Ext.tr XI x2))⟩
    case measure=>simp[intOf];omega
   ·have hbE:b=E:=by have:=hb.out;have:=hE.out;omega
    subst hbE
    by_cases hbe:b=n
    ·have hk3:¬((b:Int)<(sb.size:Int)):=by have:=SZ.out;omega
     have hk4:¬(b<sb.size):=by have:=SZ.out;omega
     clear AT RA RE VR DG hR;go_wp2_with (fail);go_meet;exact⟨by rw[hbe],Hd (Y.out.tr XI)⟩
    ·have hk2:b<sb.size:=by rw[SZ.out];omega
     have hk3:(b:Int)<(sb.size:Int):=by omega
     have hat:=AT.out b hk2;have h3:=RE.out _ (by rw[<-hE.out];exact hat);have DX:=Hd (fun(W:World)=>(show Calls Tryz.prog 74 #[.int .u8 (sb[b]'hk2).toNat] W fun e w'=>e=.returned (.bool false)/\Ext W w' by have h2:=DG.out (sb[b]'hk2) W;rwa [h3] at h2));clear hat h3 AT RA RE VR DG hR;go_wp2_with (go_at_call 74;refine(DX.out _).mono ?_;rintro r w2 ⟨rfl,x2⟩);go_meet;exact⟨rfl,Hd (Y.out.tr (Ext.tr XI x2))⟩
 case rest =>
  obtain⟨rfl,Y⟩:=hcut;have hab:a<=E:=by have:=hE.out;omega
  have hsub:Hid ((E:Int)-(a:Int)=(m:Int)):=Hd (by have:=hE.out;omega);have hm64:m<=1000000:=by omega
  have FIN:Hid (∀ (v1 v2 v3:Int) (W:World),R=(v1,v2,v3)->Ext w W->(Ending.returned (.tuple #[.int .i64 v1,.int .i64 v2,.int .i64 v3])=.returned (.tuple #[.int .i64 R.1,.int .i64 R.2.1,.int .i64 R.2.2])/\Ext w W)):=Hd fun v1 v2 v3 W h1 h2=>by rw[h1];exact⟨rfl,h2⟩
  by_cases hm0:m=0
  ·have e1:Hid (R=(0,0,4)):=Hd (by
    have h:=hR.out;have hn:D=[]:=List.length_eq_zero_iff.1 (by rw[hm.out,hm0]);rw[hn] at h
    simpa [YB] using h)
   have hba:((E:Int)==(a:Int))=true:=beq_iff_eq.2 (by have:=hE.out;omega);clear AT RA RE VR DG hR hsub;go_wp2_with (fail);go_ret3;exact FIN.out _ _ _ _ e1.out (Y.out.tr XI)
  ·have hba:((E:Int)==(a:Int))=false:=beq_eq_false_iff_ne.2 (by have:=hE.out;omega)
   have hpa:a<sb.size:=by have:=SZ.out;have:=hE.out;omega
   have hpa2:(a:Int)<(sb.size:Int):=by omega
   obtain⟨c0,q1,q2,q3⟩:=RA.out 0 (by omega);have hat0:=AT.out a hpa;rw[Nat.add_zero,hat0] at q1
   injection q1 with q1
   have hhd:D.head?=some (sb[a]'hpa):=by rw[List.head?_eq_getElem?,q2,q1]
   have HR2:Hid (R=if 1<m/\(sb[a]'hpa)=48 then(0,0,4) else if 18<m then(0,0,5) else(Yj D,(E:Int),0)):=Hd (by
    have h:=hR.out;unfold YB at h;rw[hm.out,hhd] at h;have hne:D≠[]:=by intro e;have:=hm.out;rw[e] at this;simp at this;omega
    by_cases c1:1<m/\(sb[a]'hpa)=48
    ·rw[if_pos c1]
     rw[if_pos (.inr ⟨c1.1,by rw[c1.2]⟩)] at h
     simpa using h
    ·rw[if_neg c1]
     rw[if_neg (by
      rintro (e | ⟨e1,e2⟩)
      ·exact hne e
      ·injection e2 with e2;exact c1 ⟨e1,e2⟩)] at h
     by_cases c2:18<m
     ·rw[if_pos c2]
      rw[if_pos c2] at h
      simpa using h
     ·rw[if_neg c2]
      rw[if_neg c2] at h;simp only[if_true] at h;rw[h];have:=hE.out;refine Prod.ext rfl (Prod.ext ?_ rfl);show (a:Int)+(m:Int)=(E:Int);omega)
   have z1:Hid ((sb[a]'hpa)=48->(((sb[a]'hpa).toNat:Int)==48)=true):=Hd fun h=>by rw[h];decide
   have z2:Hid ((sb[a]'hpa)≠48->(((sb[a]'hpa).toNat:Int)==48)=false):=Hd fun h=>beq_eq_false_iff_ne.2 fun e=>h (UInt8.toNat_inj.1 (by simp;omega))
   clear hat0 q1 q2 q3 hhd hR
   by_cases hm1:m=1
   ·subst hm1
    have s1:=hsub.out;have e1:Hid (R=(Yj D,(E:Int),0)):=Hd (by rw[HR2.out,if_neg (by omega),if_neg (by omega)]);clear HR2 z1 z2 hsub;go_upto_block 2 with(fail);go_cut [8] (fun v wx=>v=.int .i64 (Yj D)/\Hid (Ext w wx))
    case first =>
     go_wp2_with (fail);go_loopw [8,9] (fun nv iv wr=>∃ i k:Nat,nv=.int .i64 (Yj (D.take k))/\iv=.int .i64 (i:Int)/\Hid (i=a+k)/\k<=1/\i<=E/\a<=i/\Hid (Ext w wr)) (fun _ iv _=>E-(intOf iv).toNat)
     case atStart=>exact⟨a,0,rfl,rfl,Hd rfl,by omega,by omega,Nat.le_refl _,Hd (Y.out.tr XI)⟩
     case round =>
      clear Y;obtain⟨i,k,rfl,rfl,hik,hkm,hiE,hai,Y⟩:=hrel
      by_cases hlt:i<E
      ·have hk1:k<1:=by have:=hik.out;have:=hE.out;omega
       have hi2:i<sb.size:=by rw[SZ.out];have:=HL;have:=hE.out;omega
       have hi3:(i:Int)<(sb.size:Int):=by omega
       have hi4:(i:Int)<(E:Int):=by omega
       have hat:=AT.out i hi2;obtain⟨c,d1,d2,d3⟩:=RA.out k hk1;rw[<-hik.out,hat] at d1
       injection d1 with d1
       have hisd:isD (sb[i]'hi2)=true:=by rw[d1];exact d3
       obtain⟨a1,a2⟩:=VR.out k (by omega);obtain⟨b1,b2⟩:=VR.out (k+1) (by omega);have htk:D.take (k+1)=D.take k++[sb[i]'hi2]:=by rw[List.take_add_one,d2,d1];rfl
       rw[htk,YN] at b1 b2;have hd1:48<=(sb[i]'hi2).toNat/\(sb[i]'hi2).toNat<=57:=by
        unfold isD at hisd
        simpa [Bool.and_eq_true,decide_eq_true_eq] using hisd
       have hvs:=Hd (show Yj (D.take (k+1))=Yj (D.take k)*10+(((sb[i]'hi2).toNat:Int)-48) by rw[htk,YN]);clear hat hisd htk AT VR DG d1 d2 d3 RA RE;generalize Yj (D.take k)=v at *;obtain⟨d1,d2⟩:=hd1;go_wp2_with (fail);go_roundw
       case rel=>exact⟨i+1,k+1,by rw[hvs.out],by go_num,Hd (by have:=hik.out;omega),by omega,by omega,by omega,Hd (Y.out.tr XI)⟩
       case measure=>simp[intOf];omega
      ·have hi4:¬(i:Int)<(E:Int):=by omega
       have hkE:k=1:=by have:=hik.out;have:=hE.out;omega
       have hV:Yj (D.take k)=Yj D:=by rw[hkE,FULL.out]
       rw[hV];clear hV;generalize Yj D=vD at *;go_wp2_with (fail);go_meet;exact⟨rfl,Hd (Y.out.tr XI)⟩
    case rest =>
     obtain⟨rfl,Y2⟩:=hcut;go_wp2_with (fail);go_ret3;exact FIN.out _ _ _ _ e1.out (Y2.out.tr XI)
   ·have h1m:(1:Int)<(m:Int):=by omega
    by_cases c48:(sb[a]'hpa)=48
    ·have e1:Hid (R=(0,0,4)):=Hd (by rw[HR2.out,if_pos ⟨by omega,c48⟩])
     have hz:=z1.out c48;have s1:=hsub.out;clear HR2 z1 z2 hsub c48 AT RA RE VR DG;go_wp2_with (fail);go_ret3;exact FIN.out _ _ _ _ e1.out (Y.out.tr XI)
    ·have hz:=z2.out c48
     have s1:=hsub.out
     by_cases c18:18<m
     ·have e1:Hid (R=(0,0,5)):=Hd (by rw[HR2.out,if_neg (fun h=>c48 h.2),if_pos c18])
      have h18:(18:Int)<(m:Int):=by omega
      clear HR2 z1 z2 hsub c48 AT RA RE VR DG;go_wp2_with (fail);go_ret3;exact FIN.out _ _ _ _ e1.out (Y.out.tr XI)
     ·have e1:Hid (R=(Yj D,(E:Int),0)):=Hd (by rw[HR2.out,if_neg (fun h=>c48 h.2),if_neg c18])
      have h18:¬(18:Int)<(m:Int):=by omega
      clear HR2 z1 z2 hsub c48;go_upto_block 2 with(fail);go_cut [8] (fun v wx=>v=.int .i64 (Yj D)/\Hid (Ext w wx))
      case first =>
       go_wp2_with (fail);go_loopw [8,9] (fun nv iv wr=>∃ i k:Nat,nv=.int .i64 (Yj (D.take k))/\iv=.int .i64 (i:Int)/\Hid (i=a+k)/\k<=m/\i<=E/\a<=i/\Hid (Ext w wr)) (fun _ iv _=>E-(intOf iv).toNat)
       case atStart=>exact⟨a,0,rfl,rfl,Hd rfl,by omega,by omega,Nat.le_refl _,Hd (Y.out.tr XI)⟩
       case round =>
        clear Y;obtain⟨i,k,rfl,rfl,hik,hkm,hiE,hai,Y⟩:=hrel
        by_cases hlt:i<E
        ·have hk1:k<m:=by have:=hik.out;have:=hE.out;omega
         have hi2:i<sb.size:=by rw[SZ.out];have:=HL;have:=hE.out;omega
         have hi3:(i:Int)<(sb.size:Int):=by omega
         have hi4:(i:Int)<(E:Int):=by omega
         have hat:=AT.out i hi2;obtain⟨c,d1,d2,d3⟩:=RA.out k hk1;rw[<-hik.out,hat] at d1
         injection d1 with d1
         have hisd:isD (sb[i]'hi2)=true:=by rw[d1];exact d3
         obtain⟨a1,a2⟩:=VR.out k (by omega);obtain⟨b1,b2⟩:=VR.out (k+1) (by omega);have htk:D.take (k+1)=D.take k++[sb[i]'hi2]:=by rw[List.take_add_one,d2,d1];rfl
         rw[htk,YN] at b1 b2;have hd1:48<=(sb[i]'hi2).toNat/\(sb[i]'hi2).toNat<=57:=by
          unfold isD at hisd
          simpa [Bool.and_eq_true,decide_eq_true_eq] using hisd
         have hvs:=Hd (show Yj (D.take (k+1))=Yj (D.take k)*10+(((sb[i]'hi2).toNat:Int)-48) by rw[htk,YN]);clear hat hisd htk AT VR DG d1 d2 d3 RA RE;generalize Yj (D.take k)=v at *;obtain⟨d1,d2⟩:=hd1;go_wp2_with (fail);go_roundw
         case rel=>exact⟨i+1,k+1,by rw[hvs.out],by go_num,Hd (by have:=hik.out;omega),by omega,by omega,by omega,Hd (Y.out.tr XI)⟩
         case measure=>simp[intOf];omega
        ·have hi4:¬(i:Int)<(E:Int):=by omega
         have hkE:k=m:=by have:=hik.out;have:=hE.out;omega
         have hV:Yj (D.take k)=Yj D:=by rw[hkE,FULL.out]
         rw[hV];clear hV;generalize Yj D=vD at *;go_wp2_with (fail);go_meet;exact⟨rfl,Hd (Y.out.tr XI)⟩
      case rest =>
       obtain⟨rfl,Y2⟩:=hcut;go_wp2_with (fail);go_ret3;exact FIN.out _ _ _ _ e1.out (Y2.out.tr XI)
end
section
open Go.Shelf
def Qb : Go.Shelf.Ren:=⟨fun | 197=>135 | 260=>201 | n=>n,fun | 9=>9 | 21=>21 | 3=>3 | 4=>4 | 5=>5 | 105=>251 | 119=>352 | 0=>0 | 46=>298 | 139=>355 | 138=>354 | n=>n,fun | 3=>1 | 4=>2 | n=>n⟩
theorem Zd9 : Lays.n197 Tryz.prog Qb where
 mixed:=by kernel_rfl
 f197:=Tryz.func135.trans (congrArg some (by kernel_rfl))
 f260:=Tryz.func201.trans (congrArg some (by kernel_rfl))
 t0:=Tryz.underlying0
 a0:=Tryz.isAgg0
 z0:=Tryz.sizeOf0
 v0:=Tryz.zeroValue0
 t3:=Tryz.underlying3
 a3:=Tryz.isAgg3
 z3:=Tryz.sizeOf3
 v3:=Tryz.zeroValue3
 t4:=Tryz.underlying4
 a4:=Tryz.isAgg4
 z4:=Tryz.sizeOf4
 v4:=Tryz.zeroValue4
 t5:=Tryz.underlying5
 a5:=Tryz.isAgg5
 z5:=Tryz.sizeOf5
 v5:=Tryz.zeroValue5
 t9:=Tryz.underlying9
 a9:=Tryz.isAgg9
 z9:=Tryz.sizeOf9
 v9:=Tryz.zeroValue9
 t21:=Tryz.underlying21
 a21:=Tryz.isAgg21
 z21:=Tryz.sizeOf21
 v21:=Tryz.zeroValue21
 t46:=Tryz.underlying298
 a46:=Tryz.isAgg298
 z46:=Tryz.sizeOf298
 v46:=Tryz.zeroValue298
 t105:=Tryz.underlying251
 a105:=Tryz.isAgg251
 z105:=Tryz.sizeOf251
 v105:=Tryz.zeroValue251
 t119:=Tryz.underlying352
 a119:=Tryz.isAgg352
 z119:=Tryz.sizeOf352
 t138:=Tryz.underlying354
 a138:=Tryz.isAgg354
 z138:=Tryz.sizeOf354
 v138:=Tryz.zeroValue354
 t139:=Tryz.underlying355
 a139:=Tryz.isAgg355
 z139:=Tryz.sizeOf355
 v139:=Tryz.zeroValue355
 g3:=by kernel_rfl
 g4:=by kernel_rfl
def Zbk : Go.Shelf.Ren:=⟨fun | 137=>213 | 217=>202 | 266=>262 | n=>n,fun | 9=>9 | 5=>5 | 3=>3 | n=>n,fun n=>n⟩
theorem Zgo : Lays.n137 Tryz.prog Zbk where
 mixed:=by kernel_rfl
 f137:=Tryz.func213.trans (congrArg some (by kernel_rfl))
 f217:=Tryz.func202.trans (congrArg some (by kernel_rfl))
 f266:=Tryz.func262.trans (congrArg some (by kernel_rfl))
 t3:=Tryz.underlying3
 a3:=Tryz.isAgg3
 z3:=Tryz.sizeOf3
 v3:=Tryz.zeroValue3
 t5:=Tryz.underlying5
 a5:=Tryz.isAgg5
 z5:=Tryz.sizeOf5
 v5:=Tryz.zeroValue5
 t9:=Tryz.underlying9
 a9:=Tryz.isAgg9
 z9:=Tryz.sizeOf9
 v9:=Tryz.zeroValue9
end
section
def UT (w:World) : Prop:=Lib.Utf8Tabs 1 2 w
theorem UT.ext {w w':World}(h:UT w)(x:Ext w w') : UT w':=by
 obtain⟨h1,h2⟩:=h;refine⟨fun c hc=>?_,fun i hi=>⟨?_,?_⟩⟩
 ·rw[x.cell (World.block_lt_of_cell? w _ (h1 c hc))]
  exact h1 c hc
 ·rw[x.cell (World.block_lt_of_cell? w _ (h2 i hi).1)]
  exact(h2 i hi).1
 ·rw[x.cell (World.block_lt_of_cell? w _ (h2 i hi).2)]
  exact(h2 i hi).2
theorem Xu (l:Txt)(a:Nat) : (⟨l.toArray⟩:ByteArray).extract a (⟨l.toArray⟩:ByteArray).size=⟨(l.drop a).toArray⟩:=by
 apply ByteArray.ext;apply Array.ext';rw[Lib.extract_data];simp only[ByteArray.size,List.size_toArray];rw[List.take_of_length_le (by rw[List.length_drop];exact Nat.le_refl _)]
theorem Zag (l:Txt)(a n:Nat) : (⟨l.toArray⟩:ByteArray).extract a (a+n)=⟨((l.drop a).take n).toArray⟩:=by
 apply ByteArray.ext;apply Array.ext';rw[Lib.extract_data];simp[List.drop_take]
theorem Vk {r:Int}(h:128<=r) : YP r=0:=by
 unfold YP;rw[if_neg (by omega),if_neg (by omega),if_neg (by omega),if_neg (by omega)]
theorem WE (s:ByteArray)(p:Nat)(h:p<s.size) : YP ((Utf8.decode s p).1:Int)=Um (s[p]'h):=by
 unfold Um
 by_cases h8:(s[p]'h).toNat<128
 ·rw[decode_ascii s p h h8]
 ·rw[Vk (by have:=(decode_high s p h (by omega)).1;omega),Vk (by omega)]
theorem Qc (r:Int)(w:World) :
  Calls Tryz.prog 212 #[.int .i32 r] w fun e w'=>e=.returned (.int .i64 (YP r))/\Ext w w':=by
 go_enter Tryz.func212,Tryz.ntmps212;go_wp2_with (fail)
 all_goals (go_ret;refine⟨?_,XI⟩;show Ending.returned (Value.int .i64 _)=_;refine congrArg (fun k=>Ending.returned (Value.int .i64 k)) ?_;simp only[beq_iff_eq,beq_eq_false_iff_ne,decide_eq_true_eq,decide_eq_false_iff_not,ne_eq] at *;unfold YP;repeat' (first | omega | split))
def ScB (w:World)(g:Nat)(s:Txt)(a:Nat)(L:Option Addr)(n c:Nat) : Prop:=Blk w g 163 #[.string ⟨s.toArray⟩,.int .i64 (a:Int),.slice L n c]
theorem ZS (s:Txt) : (⟨s.toArray⟩:ByteArray).size=s.length:=by simp[Lib.size_eq]
theorem VV (g:Nat)(s:Txt)(a:Nat)(L:Option Addr)(n c:Nat)(w:World)(H:ScB w g s a L n c)(ha:a<=s.length)(hs:s.length<=70000)(hU:UT w) :
  Calls Tryz.prog 141 #[.pointer (some ⟨g,0,none⟩)] w fun e w'=>e=.returned (.int .i64 (Zv s a))/\Ext w w':=by
 have c0:w.cell? ⟨g,0,none⟩=some (.string ⟨s.toArray⟩):=H.cell 0;have c1:=H.c1;have zg:=Blk.lt H;have hsz:=ZS s;have hx:=Xu s a;rw[hsz] at hx;clear H
 by_cases hlt:a<s.length
 ·have DC:=Hd (fun(W:World) (x:Ext w W)=>Any.utf8_DecodeRuneInString Zd9 ⟨(s.drop a).toArray⟩ W (hU.ext x))
  have hk:YP ((Lib.decodeGo ⟨(s.drop a).toArray⟩).1:Int)=Zv s a:=by
   have h0:0<(⟨(s.drop a).toArray⟩:ByteArray).size:=by rw[ZS,List.length_drop];omega
   unfold Lib.decodeGo;rw[if_neg (by omega),WE _ _ h0,Q3 hlt]
   congr 1
   simp[ByteArray.getElem_eq_getElem_data]
  rw[<-hk];generalize Lib.decodeGo ⟨(s.drop a).toArray⟩=dg at *;obtain⟨d1,d2⟩:=dg;have KN:=Hd (fun(W:World)=>Qc (d1:Int) W);generalize YP (d1:Int)=kk at *;replace hk:=Hd hk;have hge:¬((a:Int)>=(s.length:Int)):=by omega
  clear hU;go_enter Tryz.func141,Tryz.ntmps141;go_upto_region 3 with(go_quiet (fail));refine wp_region_any (by kernel_rfl) ?_
  change wpAny _ _ _ _ _ _ _ (World.drew _)
  refine Za 0 (.move (.tmp 0)) 161 (some 16) rfl (by kernel_rfl) Hq (by intro _;go_simp;try rfl) ?_;simp only[lay];refine Za 1 (.nilCheck (.tmp 16)) 0 (some 17) rfl (by kernel_rfl) Hq (by intro _;go_simp;try rfl) ?_;simp only[lay];refine Za 2 (.fieldAddr 163 (.tmp 17) 0) 0 (some 18) rfl (by kernel_rfl) Hq (by intro _;go_simp;try rfl) ?_;simp only[lay];refine Za 4 (.move (.tmp 0)) 161 (some 20) rfl (by kernel_rfl) Hq (by intro _;go_simp;try rfl) ?_;simp only[lay];refine Za 5 (.nilCheck (.tmp 20)) 0 (some 21) rfl (by kernel_rfl) Hq (by intro _;go_simp;try rfl) ?_;simp only[lay];refine Za 6 (.fieldAddr 163 (.tmp 21) 1) 0 (some 22) rfl (by kernel_rfl) Hq (by intro _;go_simp;try rfl) ?_;simp only[lay];refine Zm (n:=7) [(3,some 19),(7,some 23)] (fun | 3=>.string ⟨s.toArray⟩ | 7=>.int .i64 (a:Int) | _=>undef) #[true,true,true,true,true,true,true,true,false,false,false,false,false,false,false] (by decide +kernel) ?_ ?_
  ·intro pS hpm uS hD K hK
   simp only[List.mem_cons,List.not_mem_nil,or_false] at hpm;rcases hpm with rfl | rfl
   ·exact Ze (T:=9) (x:=Operand.tmp 18) (t:=9) (d:=some 19) rfl (.pointer (some ⟨g,0,none⟩)) (by kernel_rfl) (.string ⟨s.toArray⟩) (by go_simp) hK
   ·exact Ze (T:=3) (x:=Operand.tmp 22) (t:=3) (d:=some 23) rfl (.pointer (some ⟨g,1,none⟩)) (by kernel_rfl) (.int .i64 (a:Int)) (by go_simp) hK
  simp only[Zc,Act.put,List.setIfInBounds_toArray,List.set_cons_zero,List.set_cons_succ];refine Zu (i:=8) (op:=Op.slice 9 (Operand.tmp 19) (some (Operand.tmp 23)) none none) (t:=9) (d:=some 24) (v:=.string ⟨(s.drop a).toArray⟩) rfl (by decide +kernel) (by decide +kernel) (by decide +kernel) Hq ?_ ?_
  ·(intro _;unfold Zj;go_simp;skip)
  try simp only[lay]
  refine Zd 9 (by decide +kernel) (Zi (f:=135) (xs:=#[Operand.tmp 24]) (ts:=#[9]) (t:=251) (d:=some 25) rfl #[.string ⟨(s.drop a).toArray⟩] (by go_simp) (by kernel_rfl) _ (DC.out _ (((Ext.rf _).drewN _).drew)) ?_);rintro e w1 ⟨rfl,x1⟩;have X1:=Hd (Ext.tr (a:=w) XI x1);clear x1;refine⟨_,rfl,?_⟩
  try simp only[lay]
  refine Za 10 (.move (.tmp 25)) 251 (some 15) rfl (by kernel_rfl) Hq (by intro _;go_simp;try rfl) ?_;simp only[lay];refine Za 11 (.extract (.tmp 15) 0) 21 (some 26) rfl (by kernel_rfl) Hq (by intro _;go_simp;try rfl) ?_;simp only[lay];refine Za 12 (.extract (.tmp 15) 1) 3 (some 27) rfl (by kernel_rfl) Hq (by intro _;go_simp;try rfl) ?_;simp only[lay];refine Za 13 (.assign (.tmp 26)) 21 (some 3) rfl (by kernel_rfl) Hq (by intro _;go_simp;try rfl) ?_;simp only[lay];refine Za 14 (.assign (.tmp 27)) 3 (some 4) rfl (by kernel_rfl) Hq (by intro _;go_simp;try rfl) ?_;simp only[lay];refine wpAny_done (by kernel_rfl) ?_ _;go_simp;go_wp2_with (fail);refine(KN.out _).mono ?_;rintro e w2 ⟨rfl,x2⟩;go_wp2_with (fail);go_ret;exact⟨rfl,X1.out.tr (Ext.tr XI x2)⟩
 ·have hk:Zv s a=1:=by unfold Zv;rw[List.getElem?_eq_none (by omega)]
  rw[hk];have hge:(a:Int)>=(s.length:Int):=by omega
  clear hU hk;go_enter Tryz.func141,Tryz.ntmps141;go_wp2_with (go_quiet (fail));go_ret;exact⟨rfl,XI⟩
end
section
open Go.Lib
theorem Qd (s:ByteArray)(p:Nat)(h:p<s.size)(hk:Um (s[p]'h)≠0) : Utf8.decode s p=((s[p]'h).toNat,1):=by
 by_cases h8:(s[p]'h).toNat<128
 ·exact decode_ascii s p h h8
 ·exact absurd (Vk (by omega)) hk
theorem Zfq (l:Txt)(w:World)(hl:l.length<4294967281) :
  Calls Tryz.prog 207 #[.string ⟨l.toArray⟩] w fun e w'=>e=.returned (.int .i64 ((Yr l).length:Nat))/\Ext w w':=by
 have hsz:=ZS l;have hA:Hid (∀ (k:Nat) (hk:k<(⟨l.toArray⟩:ByteArray).size),l[k]?=some ((⟨l.toArray⟩:ByteArray)[k]'hk)):=Hd fun k hk=>Wy l k hk
 have hH:Hid ((⟨l.toArray⟩:ByteArray).size=l.length):=Hd hsz;have hr:=Hd (ZdO (s:=l));generalize hs:(⟨l.toArray⟩:ByteArray)=s at *;have hK0:=World.iter_heap w s 0;have hX0:Ext w (w.iter s 0):=(Ext.rf w).alloc _;go_enter Tryz.func207,Tryz.ntmps207;go_wp2;go_loopw [3,4] (fun _ _ wr=>∃ pos:Nat,pos<=s.size/\wr.heap[w.heap.size]?=some (.stringIter s pos)/\Hid (∀ j,j<pos->∀ c,l[j]?=some c->isD c=true)/\Ext w wr)
  (fun _ _ wr=>s.size-wr.iterPos w.heap.size)
 case atStart=>exact⟨0,Nat.zero_le _,hK0,Hd (fun j hj=>absurd hj (Nat.not_lt_zero _)),hX0⟩
 case round =>
  obtain⟨pos,hps,hk,hd,hx⟩:=hrel;clear hK0 hX0
  by_cases hpl:pos<s.size
  ·have hc:=hA.out pos hpl
   have hnext:∀ ty,(Instr.next (.pointer (some ⟨w.heap.size,0,none⟩)) true ty).run Tryz.prog wr=_:=fun ty=>Lib.run_next_any_at wr w.heap.size s pos ty hk hpl
   have hdk:=WE s pos hpl;have hd1:=Qd s pos hpl;obtain⟨rr,wd,hdec⟩:∃ rr wd,Utf8.decode s pos=(rr,wd):=⟨_,_,rfl⟩;rw[hdec] at hnext hdk hd1;simp only at hnext hdk;have hk1:=Lib.iterAt_heap wr w.heap.size s pos (pos+wd) hk;have hx1:Ext w (wr.iterAt w.heap.size s (pos+wd)):=YL hx (Nat.le_refl _) s (pos+wd);have hmu:wr.iterPos w.heap.size=pos:=by simp[World.iterPos,hk]
   have KN:=Hd (fun(W:World)=>Qc (rr:Int) W);have hkd:=Hd (ZcI (s[pos]'hpl));have hcH:=Hd hc;have hdkH:=Hd hdk;have hd1H:=Hd hd1;clear hc hdk hd1 hdec;generalize s[pos]'hpl=b at *;generalize wr.iterAt w.heap.size s (pos+wd)=W1 at hnext hk1 hx1;go_wp2_with (fail);refine(KN.out _).mono ?_;rintro e W2 ⟨rfl,x2⟩;have hk2:W2.heap[w.heap.size]?=some (.stringIter s (pos+wd)):=(x2.block _ (Array.getElem?_eq_some_iff.1 hk1).1).trans hk1;have hx2:Ext w W2:=Ext.tr hx1 x2
   by_cases hD:YP (rr:Int)=2
   ·rw[hD]
    have hb2:Um b=2:=hdkH.out.symm.trans hD;have hw1:wd=1:=congrArg Prod.snd (hd1H.out (by rw[hb2];decide));have hDH:=Hd (hkd.out.1 hb2);subst hw1;clear hD hb2;go_wp2_with (fail);go_roundw
    case rel =>
     refine⟨pos+1,by omega,hk2,Hd fun j hj c hc=>?_,hx2⟩
     by_cases he:j=pos
     ·subst he
      have:=hcH.out.symm.trans hc;simp at this;subst this;exact hDH.out
     ·exact hd.out j (by omega) c hc
    case measure =>
     have hmu2:W2.iterPos w.heap.size=pos+1:=by simp[World.iterPos,hk2]
     rw[hmu,hmu2];omega
   ·have hne:(YP (rr:Int)==2)=false:=beq_eq_false_iff_ne.2 hD
    have hDH:Hid (isD b=false):=Hd (Bool.eq_false_iff.2 fun h=>hD (hdkH.out.trans (hkd.out.2 h)));have hst:=Hd (ZcJ hd.out hcH.out hDH.out);generalize YP (rr:Int)=kc at *;clear hD;go_wp2_with (fail);go_ret;rw[hst.out.1];exact⟨rfl,hx2⟩
  ·have hnext:∀ ty,(Instr.next (.pointer (some ⟨w.heap.size,0,none⟩)) true ty).run Tryz.prog wr=_:=fun ty=>Lib.run_next_end_at wr w.heap.size s pos ty hk hpl
   have he:Hid (Yr l=l):=Hd (hr.out fun b hb=>by
    obtain⟨j,hj,rfl⟩:=List.mem_iff_getElem.1 hb;exact hd.out j (by omega) _ (List.getElem?_eq_getElem hj))
   go_wp2_with (fail);go_ret;rw[he.out];exact⟨rfl,hx⟩
theorem Vl (s0:Txt)(a:Nat)(w:World)(ha:a<=s0.length)(hl:s0.length<=70000) :
  Calls Tryz.prog 139 #[.string ⟨s0.toArray⟩,.int .i64 (a:Int)] w fun e w'=>e=.returned (.tuple #[.int .i64 (ZJ s0 a).1,.int .i64 (ZJ s0 a).2.1,.int .i64 (ZJ s0 a).2.2])/\Ext w w':=by
 have hsz:=ZS s0;have hds:(s0.drop a).length<=70000:=by rw[List.length_drop];omega
 have RN:=Hd (fun(W:World)=>Zfq (s0.drop a) W (by omega));have hE:=Xu s0 a;have hT:=JY (s0.drop a) (Yr (s0.drop a)).length;rw[QZ] at hT;have hn1:=Vt (s0.drop a);have hdz:=ZS (s0.drop a);have hD:Hid (∀ b∈Yr (s0.drop a),isD b=true):=Hd (Vu _);rw[hsz] at hE;unfold ZJ;have ga:¬((a:Int)>(s0.length:Int)):=by omega
 have ga2:(a:Int)<=(s0.length:Int):=by omega
 have g0:(0:Int)<=(a:Int):=by omega
 have g1:¬((a:Int)<0):=by omega
 generalize Yr (s0.drop a)=D at *
 cases D with
 | nil =>
  go_enter Tryz.func139,Tryz.ntmps139;go_wp2_with (go_at_call 207;refine(RN.out _).mono ?_;rintro e w1 ⟨rfl,x1⟩);go_ret3;exact⟨rfl,by(repeat (first | assumption | exact Ext.rf _ | apply Ext.drew | apply Ext.drewN | apply Ext.alloc))⟩
 | cons b r =>
  rw[Za8];have hn:Hid ((b::r).length=r.length+1):=Hd rfl;generalize (b::r).length=n at *;have hidx:∀ h,(⟨(b::r).toArray⟩:ByteArray)[0]'h=b:=fun _=>rfl
  by_cases c2:0<r.length/\b=48
  ·rw[if_pos c2]
   obtain⟨h2,rfl⟩:=c2;go_enter Tryz.func139,Tryz.ntmps139;go_wp2_with (go_at_call 207;refine(RN.out _).mono ?_;rintro e w1 ⟨rfl,x1⟩);go_ret3;exact⟨rfl,by(repeat (first | assumption | exact Ext.rf _ | apply Ext.drew | apply Ext.drewN | apply Ext.alloc))⟩
  ·rw[if_neg c2]
   by_cases c3:17<r.length
   ·rw[if_pos c3]
    have hb:Hid (b≠48):=Hd fun h=>c2 ⟨by omega,h⟩
    have hb2:((b.toNat:Int)==48)=false:=beq_eq_false_iff_ne.2 fun h=>hb.out (UInt8.toNat_inj.1 (by simp;omega))
    clear c2;go_enter Tryz.func139,Tryz.ntmps139;go_wp2_with (go_at_call 207;refine(RN.out _).mono ?_;rintro e w1 ⟨rfl,x1⟩);go_ret3;exact⟨rfl,by(repeat (first | assumption | exact Ext.rf _ | apply Ext.drew | apply Ext.drewN | apply Ext.alloc))⟩
   ·rw[if_neg c3]
    have hv:Hid (∀ k,k<=r.length+1->0<=Yj ((b::r).take k)/\Yj ((b::r).take k)<1000000000000000000):=Hd fun k hk=>by
     obtain⟨v1,v2⟩:=Vf ((b::r).take k) (fun x hx=>hD.out x (List.mem_of_mem_take hx));refine⟨v1,Int.lt_of_lt_of_le v2 ?_⟩;have h18:((b::r).take k).length<19:=by rw[List.length_take,List.length_cons];omega
     exact Zgc ⟨_,h18⟩
    have hA:Hid (∀ (k:Nat) (hk:k<(⟨(b::r).toArray⟩:ByteArray).size),((⟨(b::r).toArray⟩:ByteArray)[k]'hk).toNat<128/\(b::r)[k]?=some ((⟨(b::r).toArray⟩:ByteArray)[k]'hk)/\isD ((⟨(b::r).toArray⟩:ByteArray)[k]'hk)=true):=Hd fun k hk=>by
     have h1:=Wy (b::r) k hk;have h2:=hD.out _ (List.mem_of_getElem? h1);refine⟨?_,h1,h2⟩;unfold isD at h2;simp only[Bool.and_eq_true,decide_eq_true_eq] at h2;omega
    have hL:Hid ((⟨(b::r).toArray⟩:ByteArray).size=r.length+1/\(b::r).length=r.length+1):=Hd ⟨by simp[Lib.size_eq],rfl⟩;have hb:Hid (r.length≠0->b≠48):=Hd fun h1 h=>c2 ⟨by omega,h⟩
    clear c2 hD;generalize hDD:b::r=D at *;generalize hs:(⟨D.toArray⟩:ByteArray)=s at *
    by_cases c4:r.length=0
    ·have hsz1:s.size=1:=by rw[hL.out.1,c4]
     have hem:s.toList.isEmpty=false:=by rw[<-hs,<-hDD,Lib.toList_data];rfl
     go_enter Tryz.func139,Tryz.ntmps139;go_wp2_with (go_at_call 207;refine(RN.out _).mono ?_;rintro e w1 ⟨rfl,x1⟩);have hK0:=World.iter_heap w1 s 0;have hX0:Ext w (w1.iter s 0):=Ext.alloc (by(repeat (first | assumption | exact Ext.rf _ | apply Ext.drew | apply Ext.drewN | apply Ext.alloc))) _;have hg:w.heap.size<=w1.heap.size:=x1.size;obtain⟨g,hgw⟩:∃ g,w1.heap.size=g:=⟨_,rfl⟩;rw[hgw] at hK0 hg ⊢;go_loopw [4,9] (fun a _ wr=>∃ pos:Nat,pos<=s.size/\a=.int .i64 (Yj (D.take pos))/\wr.heap[g]?=some (.stringIter s pos)/\Ext w wr)
      (fun _ _ wr=>s.size-wr.iterPos g)
     case atStart=>exact⟨0,Nat.zero_le _,rfl,hK0,hX0⟩
     case round =>
      obtain⟨pos,hps,rfl,hk,hx⟩:=hrel;clear hK0 hX0
      by_cases hpl:pos<s.size
      ·obtain⟨h128,hc,hdig⟩:=hA.out pos hpl
       have hnext:∀ ty,(Instr.next (.pointer (some ⟨g,0,none⟩)) true ty).run Tryz.prog wr=_:=fun ty=>Lib.run_next_ascii_at wr g s pos ty hk hpl h128
       have hk1:=Lib.iterAt_heap wr g s pos (pos+1) hk;have hx1:Ext w (wr.iterAt g s (pos+1)):=YL hx hg s (pos+1);have hmu:wr.iterPos g=pos:=by simp[World.iterPos,hk]
       have hv1:=hv.out pos;have hv2:=hv.out (pos+1);have htk:D.take (pos+1)=D.take pos++[s[pos]'hpl]:=by rw[List.take_add_one,hc];rfl
       rw[htk,YN] at hv2;have hd1:48<=(s[pos]'hpl).toNat/\(s[pos]'hpl).toNat<=57:=by
        unfold isD at hdig
        simpa [Bool.and_eq_true,decide_eq_true_eq] using hdig
       have hvs:=Hd (show Yj (D.take (pos+1))=Yj (D.take pos)*10+(((s[pos]'hpl).toNat:Int)-48) by rw[htk,YN]);clear htk hc hdig;generalize s[pos]'hpl=x at *;generalize Yj (D.take pos)=v at *;generalize wr.iterAt g s (pos+1)=W1 at hnext hk1 hx1;obtain⟨hv3,hv4⟩:=hv2 (by have:=hL.out;omega);obtain⟨hv5,hv6⟩:=hv1 (by have:=hL.out;omega);clear hv1 hv2;obtain⟨hd2,hd3⟩:=hd1;go_wp2_with (fail);have hmu2:W1.iterPos g=pos+1:=by simp[World.iterPos,hk1]
       exact⟨⟨pos+1,by omega,by rw[hvs.out],hk1,hx1⟩,by rw[hmu,hmu2];omega⟩
      ·have hnext:∀ ty,(Instr.next (.pointer (some ⟨g,0,none⟩)) true ty).run Tryz.prog wr=_:=fun ty=>Lib.run_next_end_at wr g s pos ty hk hpl
       have hall:D.take pos=D:=List.take_of_length_le (by have:=hL.out;omega);rw[hall];go_wp2_with (fail);go_ret3;refine⟨?_,hx⟩
       first
        | rfl
        | (simp;done)
        | (simp[c4];done)
        | (rw[c4] at hn;simp[hn.out];done)
    ·have hb2:((b.toNat:Int)==48)=false:=beq_eq_false_iff_ne.2 fun h=>hb.out c4 (UInt8.toNat_inj.1 (by simp;omega))
     have hsz1:s.size=r.length+1:=hL.out.1;have hem:s.toList.isEmpty=false:=by rw[<-hs,<-hDD,Lib.toList_data];rfl
     have hidx2:∀ h,s[0]'h=b:=by subst hs;subst hDD;exact fun _=>rfl
     go_enter Tryz.func139,Tryz.ntmps139;go_wp2_with (go_at_call 207;refine(RN.out _).mono ?_;rintro e w1 ⟨rfl,x1⟩);have hK0:=World.iter_heap w1 s 0;have hX0:Ext w (w1.iter s 0):=Ext.alloc (by(repeat (first | assumption | exact Ext.rf _ | apply Ext.drew | apply Ext.drewN | apply Ext.alloc))) _;have hg:w.heap.size<=w1.heap.size:=x1.size;obtain⟨g,hgw⟩:∃ g,w1.heap.size=g:=⟨_,rfl⟩;rw[hgw] at hK0 hg ⊢;go_loopw [4,9] (fun a _ wr=>∃ pos:Nat,pos<=s.size/\a=.int .i64 (Yj (D.take pos))/\wr.heap[g]?=some (.stringIter s pos)/\Ext w wr)
      (fun _ _ wr=>s.size-wr.iterPos g)
     case atStart=>exact⟨0,Nat.zero_le _,rfl,hK0,hX0⟩
     case round =>
      obtain⟨pos,hps,rfl,hk,hx⟩:=hrel;clear hK0 hX0
      by_cases hpl:pos<s.size
      ·obtain⟨h128,hc,hdig⟩:=hA.out pos hpl
       have hnext:∀ ty,(Instr.next (.pointer (some ⟨g,0,none⟩)) true ty).run Tryz.prog wr=_:=fun ty=>Lib.run_next_ascii_at wr g s pos ty hk hpl h128
       have hk1:=Lib.iterAt_heap wr g s pos (pos+1) hk;have hx1:Ext w (wr.iterAt g s (pos+1)):=YL hx hg s (pos+1);have hmu:wr.iterPos g=pos:=by simp[World.iterPos,hk]
       have hv1:=hv.out pos;have hv2:=hv.out (pos+1);have htk:D.take (pos+1)=D.take pos++[s[pos]'hpl]:=by rw[List.take_add_one,hc];rfl
       rw[htk,YN] at hv2;have hd1:48<=(s[pos]'hpl).toNat/\(s[pos]'hpl).toNat<=57:=by
        unfold isD at hdig
        simpa [Bool.and_eq_true,decide_eq_true_eq] using hdig
       have hvs:=Hd (show Yj (D.take (pos+1))=Yj (D.take pos)*10+(((s[pos]'hpl).toNat:Int)-48) by rw[htk,YN]);clear htk hc hdig;generalize s[pos]'hpl=x at *;generalize Yj (D.take pos)=v at *;generalize wr.iterAt g s (pos+1)=W1 at hnext hk1 hx1;obtain⟨hv3,hv4⟩:=hv2 (by have:=hL.out;omega);obtain⟨hv5,hv6⟩:=hv1 (by have:=hL.out;omega);clear hv1 hv2;obtain⟨hd2,hd3⟩:=hd1;go_wp2_with (fail);have hmu2:W1.iterPos g=pos+1:=by simp[World.iterPos,hk1]
       exact⟨⟨pos+1,by omega,by rw[hvs.out],hk1,hx1⟩,by rw[hmu,hmu2];omega⟩
      ·have hnext:∀ ty,(Instr.next (.pointer (some ⟨g,0,none⟩)) true ty).run Tryz.prog wr=_:=fun ty=>Lib.run_next_end_at wr g s pos ty hk hpl
       have hall:D.take pos=D:=List.take_of_length_le (by have:=hL.out;omega);rw[hall];go_wp2_with (fail);go_ret3;exact⟨rfl,hx⟩
end
section
theorem Jb (x:Txt)(m:Int)(w:World)(hl:x.length<=70000) :
  Calls Tryz.prog 72 #[.string ⟨x.toArray⟩,.int .i64 m] w fun e w'=>e=.returned (.tuple #[.int .i64 ((Va x m).getD 0),.bool (Va x m).isSome])/\Ext w w':=by
 have RD:=Hd (fun(W:World)=>(show Calls Tryz.prog 139 #[.string ⟨x.toArray⟩,.int .i64 0] W fun e w'=>e=.returned (.tuple #[.int .i64 (Xp x).1,.int .i64 (Xp x).2.1,.int .i64 (Xp x).2.2])/\Ext W w' by have h:=Vl x 0 W (Nat.zero_le _) hl;rw[Un] at h;exact h));have hsz:(⟨x.toArray⟩:ByteArray).size=x.length:=ZS x;unfold Va;generalize Xp x=r at *;obtain⟨n,en,er⟩:=r;simp only at RD ⊢;rw[<-hsz];clear hsz hl;generalize (⟨x.toArray⟩:ByteArray)=sb at *
 by_cases h1:er=0
 ·subst h1
  by_cases h2:en=(sb.size:Int)
  ·have q1:(en==(sb.size:Int))=true:=beq_iff_eq.2 h2
   have q2:(en != (sb.size:Int))=false:=by simp[h2]
   by_cases h3:n<=m
   ·have q3:¬(m<n):=by omega
    rw[if_pos ⟨rfl,h2,h3⟩];clear h2;go_enter Tryz.func72,Tryz.ntmps72;go_wp2_with (go_at_call 139;refine(RD.out _).mono ?_;rintro r w2 ⟨rfl,x2⟩);go_ret2;exact⟨rfl,Ext.tr XI x2⟩
   ·have q3:m<n:=by omega
    rw[if_neg (fun h=>h3 h.2.2)];clear h2 h3;go_enter Tryz.func72,Tryz.ntmps72;go_wp2_with (go_at_call 139;refine(RD.out _).mono ?_;rintro r w2 ⟨rfl,x2⟩);go_ret2;exact⟨rfl,Ext.tr XI x2⟩
  ·have q1:(en==(sb.size:Int))=false:=beq_eq_false_iff_ne.2 h2
   have q2:(en != (sb.size:Int))=true:=by simp[h2]
   rw[if_neg (fun h=>h2 h.2.1)];clear h2;go_enter Tryz.func72,Tryz.ntmps72;go_wp2_with (go_at_call 139;refine(RD.out _).mono ?_;rintro r w2 ⟨rfl,x2⟩);go_ret2;exact⟨rfl,Ext.tr XI x2⟩
 ·have q1:(er==0)=false:=beq_eq_false_iff_ne.2 h1
  have q2:(er != 0)=true:=by simp[h1]
  rw[if_neg (fun h=>h1 h.1)];clear h1;go_enter Tryz.func72,Tryz.ntmps72;go_wp2_with (go_at_call 139;refine(RD.out _).mono ?_;rintro r w2 ⟨rfl,x2⟩);go_ret2;exact⟨rfl,Ext.tr XI x2⟩
def YJ (R:Option (List Int))(w:World)(e:Ending)(w':World) : Prop:=∃ (X:Option Addr) (k:Nat),e=.returned (.tuple #[.slice X (R.getD []).length k,.bool R.isSome])/\OwI w' w.heap.size X k (R.getD [])/\Ext w w'
theorem Qe (A:Option Addr)(c:Nat)(xs:List Txt)(B:Option Addr)(d:Nat)(ms:List Int)(w:World)(hA:RdV w 9 A (txV xs))(hB:RdI w B ms)(hx:∀ x∈xs,x.length<=70000)(hl:xs.length<=70000) :
  Calls Tryz.prog 70 #[.slice A xs.length c,.slice B ms.length d] w (YJ (Zn xs ms) w):=by
 unfold YJ;obtain⟨R,hR⟩:∃ R,Hid (Zn xs ms=R):=⟨_,rfl⟩;rw[hR.out];have NW:=Hd (fun(W:World) (x:Txt) (m:Int) (h:x∈xs)=>Jb x m W (hx x h))
 by_cases hn:xs.length=ms.length
 ·have lx:(txV xs).length=xs.length:=Xt xs
  replace hA:=Hd hA;replace hB:=Hd hB;have STEP:=Hd (Wl xs ms);have END:=Hd (WZ xs ms);obtain⟨n,hnx⟩:∃ n,Hid (xs.length=n):=⟨_,rfl⟩;have hnm:Hid (ms.length=n):=Hd (by rw[<-hn,hnx.out]);rw[hnx.out] at hl lx;rw[hnx.out,hnm.out];clear hn hx;replace lx:=Hd lx;go_enter Tryz.func70,Tryz.ntmps70;go_wp2_with (fail);go_loopw [6,18] (fun ov kv wr=>∃ (k:Nat) (X:Option Addr) (cx:Nat) (acc:List Int),ov=.slice X k cx/\kv=.int .i64 k/\k<=n/\Hid (acc.length=k)/\Hid (Zn xs ms=(Zn (xs.drop k) (ms.drop k)).map (acc ++ ·))/\Hid (OwI wr w.heap.size X cx acc)/\Hid (Ext w wr)) (fun _ kv _=>n-(intOf kv).toNat)
  case atStart=>exact⟨0,none,0,[],rfl,rfl,by omega,Hd rfl,Hd (by rw[List.drop_zero,List.drop_zero];cases Zn xs ms<;>simp),Hd (OwI.nil _ _),Hd XI⟩
  case round =>
   obtain⟨k,X,cx,acc,rfl,rfl,hk,hak,HN,HO,Y⟩:=hrel
   by_cases hlt:k<n
   ·have hlt2:(k:Int)<(n:Int):=by omega
    obtain⟨x,hxk⟩:∃ x,xs[k]?=some x:=⟨_,List.getElem?_eq_getElem (by rw[hnx.out];exact hlt)⟩;obtain⟨m,hmk⟩:∃ m,ms[k]?=some m:=⟨_,List.getElem?_eq_getElem (by rw[hnm.out];exact hlt)⟩;have NX:=Hd (fun(W:World)=>NW.out W x m (List.mem_of_getElem? hxk));have HS:=Hd (STEP.out acc k x m hxk hmk HN.out);obtain⟨ba,oa,v,rfl,-,ca,ea⟩:=(hA.out.ext Y.out).at (j:=k) (by rw[lx.out];exact hlt);obtain⟨bb,ob,v2,rfl,-,cb,eb,-⟩:=(hB.out.ext Y.out).at (k:=k) (by rw[hnm.out];exact hlt);obtain rfl:v=txS x:=by have h:=ea.out;unfold txV at h;rw[List.getElem?_map,hxk] at h;simpa using h.symm
    obtain rfl:v2=m:=by have h:=eb.out;rw[hmk] at h;simpa using h.symm
    unfold txS at ca
    cases hw:Va x v2 with
    | none =>
     have e1:Hid (R=none):=Hd (by have h:=HS.out;rw[hw] at h;rw[<-hR.out,h]);have NX2:=Hd (fun(W:World)=>(show Calls Tryz.prog 72 #[.string ⟨x.toArray⟩,.int .i64 v2] W fun e w'=>e=.returned (.tuple #[.int .i64 0,.bool false])/\Ext W w' by have h:=NX.out W;rw[hw] at h;exact h));clear hw HS NX NW STEP END HN hxk hmk ea eb hA hB;go_wp2_with (go_at_call 72;refine(NX2.out _).mono ?_;rintro r w2 ⟨rfl,x2⟩);go_ret2;rw[e1.out];exact⟨none,0,rfl,OwI.nil _ _,Y.out.tr (Ext.tr (a:=wr) XI x2)⟩
    | some q =>
     have HS2:=Hd (show Zn xs ms=(Zn (xs.drop (k+1)) (ms.drop (k+1))).map (acc++[q] ++ ·) by have h:=HS.out;rw[hw] at h;exact h);have NX2:=Hd (fun(W:World)=>(show Calls Tryz.prog 72 #[.string ⟨x.toArray⟩,.int .i64 v2] W fun e w'=>e=.returned (.tuple #[.int .i64 q,.bool true])/\Ext W w' by have h:=NX.out W;rw[hw] at h;exact h));clear hw HS NX NW STEP END HN hxk hmk ea eb hA hB;go_wp2_with (first | (go_at_call 72;refine(NX2.out _).mono ?_;rintro r w2 ⟨rfl,x2⟩;have y2:=Ext.tr (a:=wr) XI x2) | (at_builtin;(refine Yn _ rfl _ _ rfl w.heap.size X k cx acc [q] (some ⟨w2.heap.size,0,none⟩) 1 rfl rfl hak.out.symm ?_ ?_ ?_ ?_ ?_;(exact HO.out.ext (y2.alloc _));(exact .blk (.new (by simp)) rfl);(rw[hak.out];simp;omega);(have:=(Y.out.tr y2).size;simp;omega);rintro A6 c6 w6 o6 g6 _;have Y6:=Hd (Ext.grow (a:=w) ((Y.out.tr y2).alloc _) g6 (fun kk hkk=>(HO.out.lt kk hkk).1));replace o6:=Hd o6)));go_roundw
     case rel=>exact⟨k+1,A6,c6,acc++[q],by have:=hak.out;simp[this],by go_num,by omega,Hd (by have:=hak.out;simp[this]),HS2,o6,Y6⟩
     case measure=>simp[intOf];omega
   ·have hlt2:¬(k:Int)<(n:Int):=by omega
    obtain rfl:k=n:=by omega
    have e1:Hid (R=some acc):=Hd (by rw[<-hR.out];exact END.out acc k (by rw[hnx.out];exact Nat.le_refl _) (by rw[hnm.out];exact Nat.le_refl _) HN.out);clear NW STEP END HN hA hB hR;go_wp2_with (fail);go_ret2;rw[e1.out];exact⟨X,cx,by simp only[Option.getD_some,hak.out];rfl,HO.out.ext XI,Y.out.tr XI⟩
 ·have e1:Hid (R=none):=Hd (by rw[<-hR.out];exact Zae hn)
  obtain⟨n1,h1⟩:∃ n,Hid (xs.length=n):=⟨_,rfl⟩;obtain⟨n2,h2⟩:∃ n,Hid (ms.length=n):=⟨_,rfl⟩;rw[h1.out,h2.out] at hn;rw[h1.out,h2.out];have q1:((n1:Int)==(n2:Int))=false:=beq_eq_false_iff_ne.2 (by omega);have q2:((n1:Int) != (n2:Int))=true:=bne_iff_ne.2 (by omega);clear hA hB hx hl NW hR h1 h2 hn;go_enter Tryz.func70,Tryz.ntmps70;go_wp2_with (fail);go_ret2;rw[e1.out];exact⟨none,0,rfl,OwI.nil _ _,XI⟩
theorem Qf (x:Txt)(m:Int)(w:World)(hl:x.length<=70000) :
  Calls Tryz.prog 27 #[.string ⟨x.toArray⟩,.int .i64 m] w fun e w'=>e=.returned (.int .i64 ((Va x m).getD (-1)))/\Ext w w':=by
 have RD:=Hd (fun(W:World)=>(show Calls Tryz.prog 42 #[.string ⟨x.toArray⟩,.int .i64 0] W fun e w'=>e=.returned (.tuple #[.int .i64 (Xp x).1,.int .i64 (Xp x).2.1,.int .i64 (Xp x).2.2])/\Ext W w' by have h:=Zaf x 0 W (Nat.zero_le _) (by omega);rw[Un] at h;exact h));have hsz:(⟨x.toArray⟩:ByteArray).size=x.length:=ZS x;unfold Va;generalize Xp x=r at *;obtain⟨n,en,er⟩:=r;simp only at RD ⊢;rw[<-hsz];clear hsz hl;generalize (⟨x.toArray⟩:ByteArray)=sb at *
 by_cases h1:er=0
 ·subst h1
  by_cases h2:en=(sb.size:Int)
  ·have q1:(en==(sb.size:Int))=true:=beq_iff_eq.2 h2
   have q2:(en != (sb.size:Int))=false:=by simp[h2]
   by_cases h3:n<=m
   ·have q3:¬(m<n):=by omega
    rw[if_pos ⟨rfl,h2,h3⟩];clear h2;go_enter Tryz.func27,Tryz.ntmps27;go_wp2_with (go_at_call 42;refine(RD.out _).mono ?_;rintro r w2 ⟨rfl,x2⟩);go_ret;exact⟨rfl,Ext.tr XI x2⟩
   ·have q3:m<n:=by omega
    rw[if_neg (fun h=>h3 h.2.2)];clear h2 h3;go_enter Tryz.func27,Tryz.ntmps27;go_wp2_with (go_at_call 42;refine(RD.out _).mono ?_;rintro r w2 ⟨rfl,x2⟩);go_ret;exact⟨rfl,Ext.tr XI x2⟩
  ·have q1:(en==(sb.size:Int))=false:=beq_eq_false_iff_ne.2 h2
   have q2:(en != (sb.size:Int))=true:=by simp[h2]
   rw[if_neg (fun h=>h2 h.2.1)];clear h2;go_enter Tryz.func27,Tryz.ntmps27;go_wp2_with (go_at_call 42;refine(RD.out _).mono ?_;rintro r w2 ⟨rfl,x2⟩);go_ret;exact⟨rfl,Ext.tr XI x2⟩
 ·have q1:(er==0)=false:=beq_eq_false_iff_ne.2 h1
  have q2:(er != 0)=true:=by simp[h1]
  rw[if_neg (fun h=>h1 h.1)];clear h1;go_enter Tryz.func27,Tryz.ntmps27;go_wp2_with (go_at_call 42;refine(RD.out _).mono ?_;rintro r w2 ⟨rfl,x2⟩);go_ret;exact⟨rfl,Ext.tr XI x2⟩
theorem XP (A:Option Addr)(c:Nat)(xs:List Txt)(B:Option Addr)(d:Nat)(ms:List Int)(w:World)(hA:RdV w 9 A (txV xs))(hB:RdI w B ms)(hx:∀ x∈xs,x.length<=70000)(hl:xs.length<=70000) :
  Calls Tryz.prog 28 #[.slice A xs.length c,.slice B ms.length d] w (YJ (Zn xs ms) w):=by
 unfold YJ;obtain⟨R,hR⟩:∃ R,Hid (Zn xs ms=R):=⟨_,rfl⟩;rw[hR.out];have NW:=Hd (fun(W:World) (x:Txt) (m:Int) (h:x∈xs)=>Qf x m W (hx x h))
 by_cases hn:xs.length=ms.length
 ·have lx:(txV xs).length=xs.length:=Xt xs
  replace hA:=Hd hA;replace hB:=Hd hB;have STEP:=Hd (Wl xs ms);have END:=Hd (WZ xs ms);obtain⟨n,hnx⟩:∃ n,Hid (xs.length=n):=⟨_,rfl⟩;have hnm:Hid (ms.length=n):=Hd (by rw[<-hn,hnx.out]);rw[hnx.out] at hl lx;rw[hnx.out,hnm.out];clear hn hx;replace lx:=Hd lx;have O0:Hid (OwI (w.alloc (.cells #[] 3)) w.heap.size (some ⟨w.heap.size,0,none⟩) 0 []):=Hd (OwI.empty (.new rfl) (Nat.le_refl _));go_enter Tryz.func28,Tryz.ntmps28;go_wp2_with (fail);go_loopw [6,7] (fun ov kv wr=>∃ (k:Nat) (X:Option Addr) (cx:Nat) (acc:List Int),ov=.slice X k cx/\kv=.int .i64 k/\k<=n/\Hid (acc.length=k)/\Hid (Zn xs ms=(Zn (xs.drop k) (ms.drop k)).map (acc ++ ·))/\Hid (OwI wr w.heap.size X cx acc)/\Hid (Ext w wr)) (fun _ kv _=>n-(intOf kv).toNat)
  case atStart=>exact⟨0,some ⟨w.heap.size,0,none⟩,0,[],rfl,rfl,by omega,Hd rfl,Hd (by rw[List.drop_zero,List.drop_zero];cases Zn xs ms<;>simp),Hd (O0.out.ext XI),Hd XI⟩
  case round =>
   clear O0;obtain⟨k,X,cx,acc,rfl,rfl,hk,hak,HN,HO,Y⟩:=hrel
   by_cases hlt:k<n
   ·have hlt2:(k:Int)<(n:Int):=by omega
    obtain⟨x,hxk⟩:∃ x,xs[k]?=some x:=⟨_,List.getElem?_eq_getElem (by rw[hnx.out];exact hlt)⟩;obtain⟨m,hmk⟩:∃ m,ms[k]?=some m:=⟨_,List.getElem?_eq_getElem (by rw[hnm.out];exact hlt)⟩;have NX:=Hd (fun(W:World)=>NW.out W x m (List.mem_of_getElem? hxk));have HS:=Hd (STEP.out acc k x m hxk hmk HN.out);obtain⟨ba,oa,v,rfl,za,ca,ea⟩:=(hA.out.ext Y.out).at (j:=k) (by rw[lx.out];exact hlt);obtain⟨bb,ob,v2,rfl,zb,cb,eb,-⟩:=(hB.out.ext Y.out).at (k:=k) (by rw[hnm.out];exact hlt);obtain rfl:v=txS x:=by have h:=ea.out;unfold txV at h;rw[List.getElem?_map,hxk] at h;simpa using h.symm
    obtain rfl:v2=m:=by have h:=eb.out;rw[hmk] at h;simpa using h.symm
    unfold txS at ca;obtain⟨q,hq⟩:∃ q,Va x v2=q:=⟨_,rfl⟩;have NX2:=NX.out;rw[hq] at NX2;have HS2:=HS.out;rw[hq] at HS2;have hqr:∀ z,q=some z->0<=z:=fun z hz=>by rw[hz] at hq;exact(Qa hq).1
    clear hq HS NX NW STEP END HN hxk hmk ea eb hA hB;replace NX2:=Hd NX2;replace HS2:=Hd HS2;replace hqr:=Hd hqr;go_upto_region 7 with(fail);refine wp_region_any (by kernel_rfl) ?_
    change wpAny _ _ _ _ _ _ _ (World.drew _)
    refine Za 0 (.move (.tmp 0)) 57 (some 21) rfl (by kernel_rfl) Hq (by intro _;go_simp;try rfl) ?_;simp only[lay];refine Za 1 (.move (.tmp 7)) 3 (some 22) rfl (by kernel_rfl) Hq (by intro _;go_simp;try rfl) ?_;simp only[lay];refine Za 2 (.indexAddr 57 (.tmp 21) (.tmp 22)) 0 (some 23) rfl (by kernel_rfl) Hq (by intro _;go_simp;try rfl) ?_;simp only[lay];refine Za 4 (.move (.tmp 1)) 22 (some 25) rfl (by kernel_rfl) Hq (by intro _;go_simp;try rfl) ?_;simp only[lay];refine Za 5 (.move (.tmp 7)) 3 (some 26) rfl (by kernel_rfl) Hq (by intro _;go_simp;try rfl) ?_;simp only[lay];refine Za 6 (.indexAddr 22 (.tmp 25) (.tmp 26)) 0 (some 27) rfl (by kernel_rfl) Hq (by intro _;go_simp;try rfl) ?_;simp only[lay];refine Zm (n:=2) [(3,some 24),(7,some 28)] (fun | 3=>.string ⟨x.toArray⟩ | 7=>.int .i64 v2 | _=>undef) #[true,true,true,true,true,true,true,true,false,false] (by decide +kernel) ?_ ?_
    ·intro pS hpm uS hD K hK
     simp only[List.mem_cons,List.not_mem_nil,or_false] at hpm;rcases hpm with rfl | rfl
     ·exact Ze (T:=9) (x:=Operand.tmp 23) (t:=9) (d:=some 24) rfl (.pointer (some ⟨ba,oa+k,none⟩)) (by kernel_rfl) (.string ⟨x.toArray⟩) (by go_simp) hK
     ·exact Ze (T:=3) (x:=Operand.tmp 27) (t:=3) (d:=some 28) rfl (.pointer (some ⟨bb,ob+k,none⟩)) (by kernel_rfl) (.int .i64 v2) (by go_simp) hK
    simp only[Zc,Act.put,List.setIfInBounds_toArray,List.set_cons_zero,List.set_cons_succ];refine Zd 8 (by decide +kernel) (Zi (f:=27) (xs:=#[Operand.tmp 24,Operand.tmp 28]) (ts:=#[9,3]) (t:=3) (d:=some 29) rfl #[.string ⟨x.toArray⟩,.int .i64 v2] (by go_simp) (by kernel_rfl) _ (NX2.out _) ?_);rintro e w2 ⟨rfl,x2⟩;refine⟨_,rfl,?_⟩
    try simp only[lay]
    refine Za 9 (.assign (.tmp 29)) 3 (some 8) rfl (by kernel_rfl) Hq (by intro _;go_simp;try rfl) ?_;simp only[lay];refine wpAny_done (by kernel_rfl) ?_ _;have y2:=Ext.tr (a:=wr) XI x2;clear x2 NX2 ca cb;go_simp
    cases q with
    | none =>
     have e1:Hid (R=none):=Hd (by rw[<-hR.out,HS2.out]);clear HS2 hqr;go_wp2_with (fail);go_ret2;rw[e1.out];exact⟨none,0,rfl,OwI.nil _ _,Y.out.tr (y2.tr XI)⟩
    | some q =>
     have hq0:0<=q:=hqr.out q rfl;have hq1:¬q<0:=by omega
     have HS3:Hid (Zn xs ms=(Zn (xs.drop (k+1)) (ms.drop (k+1))).map (acc++[q] ++ ·)):=Hd HS2.out;have O2:=Hd (HO.out.ext y2);have Y2:=Hd (Y.out.tr y2);clear HS2 hqr y2 HO Y;simp only[Option.getD_some];go_wp2_with (at_builtin;(refine Yn _ rfl _ _ rfl w.heap.size X k cx acc [q] (some ⟨w2.heap.size,0,none⟩) 1 rfl rfl hak.out.symm ?_ ?_ ?_ ?_ ?_;(exact O2.out.ext ((Ext.rf _).alloc _));(exact .blk (.new (by simp)) rfl);(rw[hak.out];simp;omega);(have:=Y2.out.size;simp;omega);rintro A6 c6 w6 o6 g6 _;have Y6:=Hd (Ext.grow (a:=w) (Y2.out.alloc _) g6 (fun kk hkk=>(O2.out.lt kk hkk).1));replace o6:=Hd o6));go_roundw
     case rel=>exact⟨k+1,A6,c6,acc++[q],by have:=hak.out;simp[this],by go_num,by omega,Hd (by have:=hak.out;simp[this]),HS3,o6,Y6⟩
     case measure=>simp[intOf];omega
   ·have hlt2:¬(k:Int)<(n:Int):=by omega
    obtain rfl:k=n:=by omega
    have e1:Hid (R=some acc):=Hd (by rw[<-hR.out];exact END.out acc k (by rw[hnx.out];exact Nat.le_refl _) (by rw[hnm.out];exact Nat.le_refl _) HN.out);clear NW STEP END HN hA hB hR;go_wp2_with (fail);go_ret2;rw[e1.out];exact⟨X,cx,by simp only[Option.getD_some,hak.out];rfl,HO.out.ext XI,Y.out.tr XI⟩
 ·have e1:Hid (R=none):=Hd (by rw[<-hR.out];exact Zae hn)
  obtain⟨n1,h1⟩:∃ n,Hid (xs.length=n):=⟨_,rfl⟩;obtain⟨n2,h2⟩:∃ n,Hid (ms.length=n):=⟨_,rfl⟩;rw[h1.out,h2.out] at hn;rw[h1.out,h2.out];have q1:((n1:Int)==(n2:Int))=false:=beq_eq_false_iff_ne.2 (by omega);have q2:((n1:Int) != (n2:Int))=true:=bne_iff_ne.2 (by omega);clear hA hB hx hl NW hR h1 h2 hn;go_enter Tryz.func28,Tryz.ntmps28;go_wp2_with (fail);go_ret2;rw[e1.out];exact⟨none,0,rfl,OwI.nil _ _,XI⟩
theorem Zea (A:Option Addr)(c:Nat)(xs:List Txt)(x:Txt)(w:World)(hA:RdV w 9 A (txV xs))(hl:xs.length<=1000000) :
  Calls Tryz.prog 206 #[.slice A xs.length c,.string ⟨x.toArray⟩] w fun e w'=>(∃ i:Int,e=.returned (.int .i64 i)/\(0<=i/\x∈xs\/i=-1/\x∉xs))/\Ext w w':=by
 have lx:(txV xs).length=xs.length:=Xt xs;obtain⟨n,hn⟩:∃ n,Hid (xs.length=n):=⟨_,rfl⟩;rw[hn.out] at hl lx ⊢;replace lx:=Hd lx;replace hA:=Hd hA;go_enter Tryz.func206,Tryz.ntmps206;go_wp2_with (fail);go_loopw [8] (fun i wr=>∃ j:Nat,i=.int .i64 j/\j<=n/\Hid (∀ k,k<j->xs[k]?≠some x)/\Ext w wr) (fun i _=>n-(intOf i).toNat)
 case atStart=>exact⟨0,rfl,by omega,Hd (fun k hk=>by omega),XI⟩
 case round =>
  obtain⟨j,rfl,hj,HN,Y⟩:=hrel
  by_cases hlt:j<n
  ·have e1:(j:Int)<(n:Int):=by omega
   obtain⟨y,hy⟩:∃ y,xs[j]?=some y:=⟨_,List.getElem?_eq_getElem (by rw[hn.out];exact hlt)⟩;obtain⟨b,o,v,rfl,-,ca,ea⟩:=(hA.out.ext Y).at (j:=j) (by rw[lx.out];exact hlt);obtain rfl:v=txS y:=by have h:=ea.out;unfold txV at h;rw[List.getElem?_map,hy] at h;simpa using h.symm
   unfold txS at ca;have hmem:=Hd (List.mem_of_getElem? hy)
   by_cases hxy:x=y
   ·subst hxy
    clear ea hA;replace hy:=Hd hy;go_wp2_with (fail);go_ret;exact⟨⟨j,rfl,.inl ⟨by omega,hmem.out⟩⟩,Y.tr XI⟩
   ·have e2:@BEq.beq (List UInt8) _ x y=false:=beq_eq_false_iff_ne.2 hxy
    have HN2:Hid (∀ k,k<j+1->xs[k]?≠some x):=Hd fun k hk e=>by
     by_cases hkj:k=j
     ·subst hkj;rw[hy] at e;injection e with e;exact hxy e.symm
     ·exact HN.out k (by omega) e
    clear ea hy hxy HN;go_wp2_with (fail);go_roundw
    case rel=>exact⟨j+1,by go_num,by omega,HN2,Y.tr XI⟩
    case measure=>simp[intOf];omega
  ·have e1:¬((j:Int)<(n:Int)):=by omega
   have HM:Hid (x∉xs):=Hd fun h=>by
    obtain⟨k,hk,hk2⟩:=List.mem_iff_getElem.1 h;exact HN.out k (by have:=hn.out;omega) (by rw[List.getElem?_eq_getElem hk,hk2])
   clear HN hA;go_wp2_with (fail);go_ret;exact⟨⟨-1,rfl,.inr ⟨rfl,HM.out⟩⟩,Y.tr XI⟩
theorem Zeb (A:Option Addr)(c:Nat)(xs:List Txt)(x:Txt)(w:World)(hA:RdV w 9 A (txV xs))(hl:xs.length<=1000000) :
  Calls Tryz.prog 138 #[.slice A xs.length c,.string ⟨x.toArray⟩] w fun e w'=>e=.returned (.bool (decide (x∈xs)))/\Ext w w':=by
 have IX:=Hd (fun(W:World) (X:Ext w W)=>Zea A c xs x W (hA.ext X) hl);clear hA hl;obtain⟨q,hq⟩:∃ q,Hid (decide (x∈xs)=q):=⟨_,rfl⟩;rw[hq.out];obtain⟨n,hn⟩:∃ n,xs.length=n:=⟨_,rfl⟩;rw[hn] at IX ⊢;clear hn;go_enter Tryz.func138,Tryz.ntmps138;go_wp2_with (fail);refine(IX.out _ XI).mono ?_;rintro e w1 ⟨⟨i,rfl,hi⟩,x1⟩;rcases hi with⟨h1,h2⟩ | ⟨rfl,h2⟩
 ·have e1:Hid (q=true):=Hd (by rw[<-hq.out];exact decide_eq_true h2)
  clear IX h2;go_wp2_with (fail);go_ret;rw[e1.out];exact⟨rfl,Ext.tr XI (x1.tr XI)⟩
 ·have e1:Hid (q=false):=Hd (by rw[<-hq.out];exact decide_eq_false h2)
  clear IX h2;go_wp2_with (fail);go_ret;rw[e1.out];exact⟨rfl,Ext.tr XI (x1.tr XI)⟩
def Vc (p:PartP) : List Value:=[.int .i64 p.kind,.int .i64 p.count,.int .i64 p.who,.int .i64 p.every,.int .u64 (IntKind.u64.wrap p.seed)]
def ZU (l:List PartP) : List Value:=l.flatMap Vc
theorem Uo (l:List PartP)(p:PartP) : ZU (l++[p])=ZU l++Vc p:=by unfold ZU;simp
theorem Qg : ∀ l:List PartP,(ZU l).length=l.length*5
 | []=>rfl
 | e::l=>by
  have:=Qg l;unfold ZU at this ⊢;rw[List.flatMap_cons,List.length_append,this,List.length_cons,Nat.succ_mul];show 5+_=_;omega
structure RdS (base g:Nat)(s:ScrP)(said:List Txt)(A:Option Addr)(a:Nat)(B:Option Addr)(b:Nat)(C:Option Addr)(c:Nat)(w:World) : Prop where
 rb:Blk w g 59 #[.int .i64 s.wk,.int .i64 s.sl,.int .i64 s.lv,.slice A s.draws.length a,.slice B s.parts.length b,.slice C said.length c]
 rd:OwI w base A a s.draws
 rp:OwV w base 46 5 B s.parts.length b (ZU s.parts)
 rt:OwV w base 9 1 C said.length c (txV said)
 rz:g<base
def RdX (base g:Nat)(s:ScrP)(said:List Txt)(w:World) : Prop:=∃ A a B b C c,RdS base g s said A a B b C c w
theorem RdS.ext {base g:Nat}{s:ScrP}{said:List Txt}{A B C:Option Addr}{a b c:Nat}{w w':World}(h:RdS base g s said A a B b C c w)(x:Ext w w') : RdS base g s said A a B b C c w':=⟨h.rb.ext x,h.rd.ext x,h.rp.ext x,h.rt.ext x,h.rz⟩
def MR (base g:Nat)(w w':World) : Prop:=Mod (fun k=>k=g\/base<=k) w w'
theorem MR.ext {base g:Nat}{w w' w2:World}(h:MR base g w w')(x:Ext w' w2) : MR base g w w2:=Mod.ext h x
theorem MR.of_ext {base g:Nat}{w w':World}(x:Ext w w') : MR base g w w':=Mod.of_ext x
theorem MR.tr {base g:Nat}{w w' w2:World}(h:MR base g w w')(k:MR base g w' w2) : MR base g w w2:=Mod.tr h k
theorem MR.modT {base g:Nat}{ts:List TypeId}{w w':World}(h:ModT base ts w w') : MR base g w w':=Mod.mono h fun i _ hs=>.inr hs.1
theorem Ext.mr {base g:Nat}{a w w':World}(h:Ext a w)(k:MR base g w w')(h1:a.heap.size<=g)(h2:a.heap.size<=base) : Ext a w':=h.mod k fun i hi hs=>by rcases hs with hs | hs<;>omega
theorem RdS.said {base g:Nat}{s:ScrP}{said:List Txt}{A B C A6:Option Addr}{a b c c6:Nat}{x:Txt}{w w6:World}(H:RdS base g s said A a B b C c w)(M:ModT base [9] w w6)(o:OwV w6 base 9 1 A6 (said.length+1) c6 (txV said++[txS x])) :
  RdS base g s (said++[x]) A a B b A6 c6 (w6.setCell ⟨g,5,none⟩ (.slice A6 (said.length+1) c6))/\MR base g w (w6.setCell ⟨g,5,none⟩ (.slice A6 (said.length+1) c6)):=by
 have B6:=H.rb.modT M (by decide);have MS:ModT 0 [59] w6 (w6.setCell ⟨g,5,none⟩ (.slice A6 (said.length+1) c6)):=ModT.set w6 B6 (by simp) (Nat.zero_le _) 5 _;have hl:(said++[x]).length=said.length+1:=by simp
 refine⟨⟨by rw[hl];exact B6.set 5 _,(H.rd.modT M (by decide)).modT MS (by decide),(H.rp.modT M (by decide)).modT MS (by decide),by rw[hl,UV];exact o.modT MS (by decide),H.rz⟩,(MR.modT M).tr ?_⟩;exact Mod.set (S:=fun k=>k=g\/base<=k) (p:=⟨g,5,none⟩) (Mod.rf _) (.inl (.inl rfl)) _
theorem RdS.draw {base g:Nat}{s:ScrP}{said:List Txt}{A B C A6:Option Addr}{a b c c6:Nat}{n:Int}{w w6:World}(H:RdS base g s said A a B b C c w)(M:ModT base [3] w w6)(o:OwI w6 base A6 c6 (s.draws++[n])) :
  RdS base g { s with draws:=s.draws++[n] } said A6 c6 B b C c (w6.setCell ⟨g,3,none⟩ (.slice A6 (s.draws.length+1) c6))/\MR base g w (w6.setCell ⟨g,3,none⟩ (.slice A6 (s.draws.length+1) c6))/\ModT 0 [3,59] w (w6.setCell ⟨g,3,none⟩ (.slice A6 (s.draws.length+1) c6)):=by
 have B6:=H.rb.modT M (by decide);have MS:ModT 0 [59] w6 (w6.setCell ⟨g,3,none⟩ (.slice A6 (s.draws.length+1) c6)):=ModT.set w6 B6 (by simp) (Nat.zero_le _) 3 _;have hl:(s.draws++[n]).length=s.draws.length+1:=by simp
 refine⟨⟨by show Blk _ g _ #[_,_,_,.slice A6 (s.draws++[n]).length c6,_,_];rw[hl];exact B6.set 3 _,o.modT MS (by decide),(H.rp.modT M (by decide)).modT MS (by decide),(H.rt.modT M (by decide)).modT MS (by decide),H.rz⟩,(MR.modT M).tr ?_,(M.more (Nat.zero_le _) (by simp)).tr (MS.more (Nat.le_refl _) (by simp))⟩;exact Mod.set (S:=fun k=>k=g\/base<=k) (p:=⟨g,3,none⟩) (Mod.rf _) (.inl (.inl rfl)) _
theorem RdS.part {base g:Nat}{s:ScrP}{said:List Txt}{A B C A6:Option Addr}{a b c c6:Nat}{p:PartP}{w w6:World}(H:RdS base g s said A a B b C c w)(M:ModT base [46] w w6)(o:OwV w6 base 46 5 A6 (s.parts.length+1) c6 (ZU s.parts++Vc p)) :
  RdS base g { s with parts:=s.parts++[p] } said A a A6 c6 C c (w6.setCell ⟨g,4,none⟩ (.slice A6 (s.parts.length+1) c6))/\MR base g w (w6.setCell ⟨g,4,none⟩ (.slice A6 (s.parts.length+1) c6)):=by
 have B6:=H.rb.modT M (by decide);have MS:ModT 0 [59] w6 (w6.setCell ⟨g,4,none⟩ (.slice A6 (s.parts.length+1) c6)):=ModT.set w6 B6 (by simp) (Nat.zero_le _) 4 _;have hl:(s.parts++[p]).length=s.parts.length+1:=by simp
 refine⟨⟨by show Blk _ g _ #[_,_,_,_,.slice A6 (s.parts++[p]).length c6,_];rw[hl];exact B6.set 4 _,(H.rd.modT M (by decide)).modT MS (by decide),by show OwV _ _ _ _ _ (s.parts++[p]).length _ (ZU (s.parts++[p]));rw[hl,Uo];exact o.modT MS (by decide),(H.rt.modT M (by decide)).modT MS (by decide),H.rz⟩,(MR.modT M).tr ?_⟩;exact Mod.set (S:=fun k=>k=g\/base<=k) (p:=⟨g,4,none⟩) (Mod.rf _) (.inl (.inl rfl)) _
def Ys (s:ScrP)(i:Nat)(n:Int) : ScrP:=if i=0 then { s with wk:=n } else if i=1 then { s with sl:=n } else { s with lv:=n }
theorem RdS.num {base g:Nat}{s:ScrP}{said:List Txt}{A B C:Option Addr}{a b c:Nat}{w:World}(H:RdS base g s said A a B b C c w)(i:Nat)(hi:i<3)(n:Int) :
  RdS base g (Ys s i n) said A a B b C c (w.setCell ⟨g,i,none⟩ (.int .i64 n))/\MR base g w (w.setCell ⟨g,i,none⟩ (.int .i64 n)):=by
 have MS:ModT 0 [59] w (w.setCell ⟨g,i,none⟩ (.int .i64 n)):=ModT.set w H.rb (by simp) (Nat.zero_le _) i _;have hs:(Ys s i n).draws=s.draws/\(Ys s i n).parts=s.parts:=by unfold Ys;split;exact⟨rfl,rfl⟩;split<;>exact⟨rfl,rfl⟩
 refine⟨⟨?_,by rw[hs.1];exact H.rd.modT MS (by decide),by rw[hs.2];exact H.rp.modT MS (by decide),H.rt.modT MS (by decide),H.rz⟩,Mod.set (S:=fun k=>k=g\/base<=k) (p:=⟨g,i,none⟩) (Mod.rf _) (.inl (.inl rfl)) _⟩;rw[hs.1,hs.2];have hB:=H.rb.set i (.int .i64 n);rcases(show i=0\/i=1\/i=2 by omega) with rfl | rfl | rfl
 ·exact hB
 ·exact hB
 ·exact hB
def ZP (s:ScrP)(said:List Txt)(x:Txt) : Bool:=decide (s.parts=[]) && !(decide (x∈said))
def W5 (base g:Nat)(s:ScrP)(said:List Txt)(A:Option Addr)(a:Nat)(B:Option Addr)(b:Nat)(C:Option Addr)(x:Txt)(w:World)(e:Ending)(w':World) : Prop:=e=.returned (.bool (ZP s said x))/\(ZP s said x=true->∃ C c,RdS base g s (said++[x]) A a B b C c w')/\Mod (fun k=>k=g\/bl C=some k) w w'
theorem XS : (Tryz.prog.info? 9).map (fun i=>(i.zero,i.size,i.bytes))=some (some (.string ⟨#[]⟩),1,16):=by kernel_rfl
theorem Up (base g:Nat)(s:ScrP)(said:List Txt)(A:Option Addr)(a:Nat)(B:Option Addr)(b:Nat)(C:Option Addr)(c:Nat)(x:Txt)(w:World)(H:RdS base g s said A a B b C c w)(hbw:base<=w.heap.size)(hs:said.length<=100000) :
  Calls Tryz.prog 71 #[.pointer (some ⟨g,0,none⟩),.string ⟨x.toArray⟩] w (W5 base g s said A a B b C x w):=by
 unfold W5;have HS:=Hd (fun(W:World) (X:Ext w W)=>Zeb C c said x W (H.rt.read.ext X) (by omega));obtain⟨F,hF⟩:∃ F,Hid (ZP s said x=F):=⟨_,rfl⟩;rw[hF.out];unfold ZP at hF
 by_cases hp:s.parts=[]
 ·have hp2:s.parts.length=0:=by rw[hp];rfl
  obtain⟨q,hq⟩:∃ q,decide (x∈said)=q:=⟨_,rfl⟩;rw[hq] at HS;have HF:Hid (F = !q):=Hd (by rw[<-hF.out,hq,decide_eq_true hp];rfl);clear hF hq;obtain⟨i0,hi,hz0,hz1,hz2⟩:=info_parts XS;replace hi:=Hd hi;replace hz0:=Hd hz0;replace hz1:=Hd hz1;replace hz2:=Hd hz2;have c4:w.cell? ⟨g,4,none⟩=some (.slice B 0 b):=by rw[<-hp2];exact H.rb.cell 4
  have c5:w.cell? ⟨g,5,none⟩=some (.slice C said.length c):=(H.rb.cell 5);have H2:=Hd H;replace hp2:=Hd hp2;clear H hp
  cases q with
  | true =>
   go_enter Tryz.func71,Tryz.ntmps71;go_wp2_with (go_at_call 138;refine(HS.out _ XI).mono ?_;rintro e w1 ⟨rfl,x1⟩);go_ret;exact⟨by rw[HF.out];rfl,fun h=>absurd (HF.out.symm.trans h) (by decide),Mod.of_ext (Ext.tr XI (x1.tr XI))⟩
  | false =>
   obtain⟨n,hn⟩:∃ n,Hid (said.length=n):=⟨_,rfl⟩;rw[hn.out] at HS c5 hs;have T2:Hid (OwV w base 9 1 C n c (txV said)):=Hd (by have h:=H2.out.rt;rw[hn.out] at h;exact h);go_enter Tryz.func71,Tryz.ntmps71;go_upto_region 3 with(go_at_call 138;refine(HS.out _ XI).mono ?_;rintro e w1 ⟨rfl,x1⟩);have X1:=Ext.tr (a:=w) XI x1;have c5:w1.cell? ⟨g,5,none⟩=some (.slice C n c):=Zb X1 H2.out.rb.lt c5;replace X1:=Hd X1;clear c4 x1 HS;go_wp2_with (at_builtin;go_loud (refine Zw _ (e:=9) Tryz.underlying57 hi.out hz0.out hz1.out hz2.out (by simp[Value.cells]) (by omega) rfl _ _ rfl base C n c (txV said) _ 1 1 [txS x] rfl (by first | rfl | (simp;done)) (T2.out.ext (X1.out.tr XI)) (RdV.blk (by(first | exact .new (by simp) | exact .drew (.new (by simp)) | exact .alloc (.new (by simp)) _ | exact .drew (.alloc (.new (by simp)) _) | exact .alloc (.alloc (.new (by simp)) _) _ | exact .drew (.alloc (.alloc (.new (by simp)) _) _) | (repeat (first | assumption | (refine Blk.new ?_;(focus (simp;done))) | apply Blk.drew | apply Blk.drewN | apply Blk.alloc))))).rdC (by rfl) (by simp[Value.oneCell',txS]) (by simp only[maxLen];omega) (by omega) (by have:=X1.out.size;simp;omega) ?_;rintro A6 c6 w6 o6 g6 _;have M6:ModT base [9] w w6:=(ModT.of_ext (X1.out.tr XI)).tr ((T2.out.ext (X1.out.tr XI)).grownT g6);have N6:Mod (fun k=>k=g\/bl C=some k) w w6:=(Mod.of_ext (X1.out.tr XI)).tr (Mod.grown g6 fun q hq=>.inr hq);have B6:=H2.out.rb.modT M6 (by decide);have c5:w6.cell? ⟨g,5,none⟩=some (.slice C n c):=(B6.cell 5).trans (by rw[hn.out];rfl);have f5:=B6.free 5));obtain⟨S6,-⟩:=RdS.said (x:=x) H2.out M6 (by rw[hn.out];exact o6);have Q6:=N6.tr (Mod.set (S:=fun k=>k=g\/bl C=some k) (p:=⟨g,5,none⟩) (Mod.rf w6) (.inl (.inl rfl)) (.slice A6 (n+1) c6));rw[hn.out] at S6;replace S6:=Hd S6;replace Q6:=Hd Q6;clear N6;clear M6 B6 o6 g6 T2;go_ret;exact⟨by rw[HF.out];rfl,fun _=>⟨A6,c6,S6.out.ext XI⟩,Q6.out.ext XI⟩
 ·have HF:Hid (F=false):=Hd (by rw[<-hF.out,decide_eq_false hp];rfl)
  have hp3:(0:Int)<(s.parts.length:Int):=by have:=List.length_pos_iff.2 hp;omega
  have hp4:0<s.parts.length:=List.length_pos_iff.2 hp;have c4:w.cell? ⟨g,4,none⟩=some (.slice B s.parts.length b):=(H.rb.cell 4);clear HS H hF hs hp;generalize s.parts.length=m at *;go_enter Tryz.func71,Tryz.ntmps71;go_wp2_with (go_quiet (fail));go_ret;exact⟨by rw[HF.out];rfl,fun h=>absurd (HF.out.symm.trans h) (by decide),Mod.of_ext XI⟩
theorem MR.first {base g:Nat}{C:Option Addr}{w w':World}(h:Mod (fun k=>k=g\/bl C=some k) w w')(hC:∀ k,bl C=some k->base<=k) : MR base g w w':=Mod.mono h fun i _ hs=>hs.elim .inl fun e=>.inr (hC i e)
def JF (R:Option (ScrP×List Txt))(base g:Nat)(w':World) : Prop:=∀ r,R=some r->RdX base g r.1 r.2 w'
def Wc (R:Option (ScrP×List Txt))(base g:Nat)(w:World)(e:Ending)(w':World) : Prop:=e=.returned (.bool R.isSome)/\JF R base g w'/\MR base g w w'
theorem Qh (x:Txt)(ws:List Txt)(gw:Nat) : ∃ T,bl T=some gw/\(∀ W,RdV W 9 (some ⟨gw,0,none⟩) (txV (x::ws))->RdV W 9 T (txV ws))/\∀ W,(Instr.sliceAt 57 (.slice (some ⟨gw,0,none⟩) (ws.length+1) (ws.length+1)) (some (.int .i64 1)) none none).run Tryz.prog W=.ok (.slice T ws.length ws.length) W:=by
 obtain⟨i0,hi,_,hz1,_⟩:=info_parts XS;refine⟨if ws.length+1=1 then some ⟨gw,0,none⟩ else(some (⟨gw,0,none⟩:Addr)).map (·.add (1*1)),by split<;>rfl,fun W h=>?_,fun W=>?_⟩
 ·by_cases h0:ws.length+1=1
  ·obtain rfl:ws=[]:=List.length_eq_zero_iff.1 (by omega)
   exact RdV.nil _ _ _
  ·rw[if_neg h0]
   exact h.drop 1
 ·have h:=Vw (P:=Tryz.prog) Tryz.underlying57 hi hz1 (some ⟨gw,0,none⟩) (ws.length+1) (ws.length+1) 1 1 rfl (by omega) (Nat.le_refl _) W
  rw[Nat.add_sub_cancel] at h;exact h
theorem Y0 (s:ScrP)(said:List Txt)(x:Txt)(ws:List Txt)(m:Int)(put:Int->ScrP) : Yl s said (x::ws) m put=if ZP s said x=true then(match Zn ws [m] with
  | some [n]=>if n=0 then none else some (put n,said++[x])
  | _=>none) else none:=by
 unfold Yl ZP
 by_cases h1:s.parts=[]
 ·by_cases h2:x∈said
  ·simp[h1,h2]
  ·simp[h1,h2]
   all_goals (rcases Zn ws [m] with _ | l)
   all_goals (try rfl)
   all_goals (rcases l with _ | ⟨n,_ | _⟩<;>rfl)
 ·simp[h1]
theorem Zbl (base g:Nat)(s:ScrP)(said:List Txt)(A:Option Addr)(a:Nat)(B:Option Addr)(b:Nat)(C:Option Addr)(c:Nat)(x:Txt)(ws:List Txt)(gw:Nat)(m:Int)(i:Nat)(hi:i<3)(w:World)(H:RdS base g s said A a B b C c w)(hbw:base<=w.heap.size)(hs:said.length<=100000)(hW:Blk w gw 9 (txV (x::ws)).toArray)(hx:∀ y∈x::ws,y.length<=70000)(hl:(x::ws).length<=70000) :
  Calls Tryz.prog 38 #[.pointer (some ⟨g,0,none⟩),.slice (some ⟨gw,0,none⟩) (ws.length+1) (ws.length+1),.int .i64 m,.pointer (some ⟨g,i,none⟩)] w (Wc (Yl s said (x::ws) m (Ys s i)) base g w):=by
 unfold Wc;have FI:=Hd (fun(W:World) (X:Ext w W)=>Up base g s said A a B b C c x W (H.ext X) (by have:=X.size;omega) hs);have NU:=Hd (fun(W:World) (X:Ext w W) (T:Option Addr) (cT:Nat) (hT:RdV W 9 T (txV ws)) (M:Option Addr) (cM:Nat) (hM:RdI W M [m])=>Qe T cT ws M cM [m] W hT hM (fun y hy=>hx y (by simp[hy])) (by simp at hl;omega));have c0:w.cell? ⟨gw,0,none⟩=some (.string ⟨x.toArray⟩):=(hW.cell 0);have HH:=Hd H;have hW2:=Hd hW;clear H hW hx hl;obtain⟨T,-,hT,hrun⟩:=Qh x ws gw;obtain⟨n,hn⟩:∃ n,ws.length=n:=⟨_,rfl⟩;have hnH:=Hd hn;rw[hn] at NU hrun ⊢;clear hn;replace hT:=Hd hT;obtain⟨R,hR⟩:∃ R,Hid (Yl s said (x::ws) m (Ys s i)=R):=⟨_,rfl⟩;rw[hR.out];have hR2:=Hd (hR.out.symm.trans (Y0 s said x ws m (Ys s i)));have hRN:=Hd (fun(l:List Int) (h:Zn ws [m]=some l)=>(Yh h).1);have hg:=HH.out.rb.lt;have hC:=Hd HH.out.rt.lt;obtain⟨N,hN⟩:∃ N,Zn ws [m]=N:=⟨_,rfl⟩;rw[hN] at NU hR2 hRN;obtain⟨F,hF⟩:∃ F,ZP s said x=F:=⟨_,rfl⟩;have FI2:=Hd (fun(W:World) (X:Ext w W)=>(show Calls Tryz.prog 71 #[.pointer (some ⟨g,0,none⟩),.string ⟨x.toArray⟩] W fun e w'=>e=.returned (.bool F)/\(F=true->∃ C c,RdS base g s (said++[x]) A a B b C c w')/\Mod (fun k=>k=g\/bl C=some k) W w' by have h:=FI.out W X;unfold W5 at h;rw[hF] at h;exact h));rw[hF] at hR2;clear hN hF hR FI HH;unfold YJ at NU;go_enter Tryz.func38,Tryz.ntmps38;go_wp2_with (fail);refine(NU.out _ XI T _ (hT.out _ (RdV.blk (hW2.out.ext XI))) _ _ (RdI.blk (Blk.new rfl) rfl)).mono ?_;rintro e w1 ⟨L,kL,rfl,oL,x1⟩;have X1:=Hd (Ext.tr (a:=w) XI x1);have c1:w1.cell? ⟨gw,0,none⟩=some (.string ⟨x.toArray⟩):=Zb X1.out hW2.out.lt c0;have zL:Hid (∀ q,bl L=some q->w.heap.size<=q):=Hd fun q hq=>by have:=(oL.lt q hq).1;simp at this;omega
 have NO:Hid (∀ q,bl L=some q->¬(q=g\/bl C=some q)):=Hd fun q hq h=>by
  have h1:=zL.out q hq;rcases h with h | h
  ·omega
  ·have:=(hC.out q h).2;omega
 clear c0 x1 NU hT zL hrun
 cases F with
 | false =>
  have e1:Hid (R=none):=Hd (by rw[hR2.out];rfl);clear hR2 hRN;go_wp2_with (fail);refine(FI2.out _ (X1.out.tr XI)).mono ?_;rintro e w2 ⟨rfl,-,m2⟩;clear FI2;go_wp2_with (fail);go_ret;rw[e1.out];exact⟨rfl,fun r h=>(by cases h),((MR.of_ext (X1.out.tr XI)).tr (MR.first m2 fun q hq=>(hC.out q hq).1)).ext XI⟩
 | true =>
  cases N with
  | none =>
   have e1:Hid (R=none):=Hd (by rw[hR2.out];rfl);clear hR2 hRN;go_wp2_with (fail);refine(FI2.out _ (X1.out.tr XI)).mono ?_;rintro e w2 ⟨rfl,-,m2⟩;clear FI2;go_wp2_with (fail);go_ret;rw[e1.out];exact⟨rfl,fun r h=>(by cases h),((MR.of_ext (X1.out.tr XI)).tr (MR.first m2 fun q hq=>(hC.out q hq).1)).ext XI⟩
  | some l =>
   obtain⟨n0,rfl⟩:∃ n0,l=[n0]:=by
    have h:=hRN.out l rfl
    match l,h with
    | [n0],_=>exact⟨n0,rfl⟩
   simp only[Option.getD_some] at oL NO;have oL2:=Hd oL;clear oL hRN;go_wp2_with (fail);refine(FI2.out _ (X1.out.tr XI)).mono ?_;rintro e w2 ⟨rfl,s2,m2⟩;obtain⟨C2,c2,s2⟩:=s2 trivial;have hRv:=Hd (show R=if n0=0 then none else some (Ys s i n0,said++[x]) from hR2.out);have o3:=oL2.out.mod m2 NO.out;obtain⟨bL,off,v,rfl,-,cL,eL,-⟩:=o3.read.at (k:=0) (by simp);obtain rfl:v=n0:=by have h:=eL.out;simpa using h.symm
   rw[Nat.add_zero] at cL;have M2:=Hd (((MR.of_ext (base:=base) (g:=g) X1.out).tr (MR.first m2 fun q hq=>(hC.out q hq).1)));have S2:=Hd s2;clear m2 oL2 NO FI2 hR2 o3 eL s2
   by_cases hv:v=0
   ·subst hv
    have e1:Hid (R=none):=Hd (by rw[hRv.out];rfl);go_wp2_with (fail);go_ret;rw[e1.out];exact⟨rfl,fun r h=>(by cases h),M2.out.ext XI⟩
   ·have q0:(v==0)=false:=beq_eq_false_iff_ne.2 hv
    have e1:Hid (R=some (Ys s i v,said++[x])):=Hd (by rw[hRv.out,if_neg hv]);obtain⟨o9,c9⟩:∃ o9,w2.cell? ⟨g,i,none⟩=some (.int .i64 o9):=by
     rcases(show i=0\/i=1\/i=2 by omega) with rfl | rfl | rfl
     ·exact⟨_,S2.out.rb.cell 0⟩
     ·exact⟨_,S2.out.rb.cell 1⟩
     ·exact⟨_,S2.out.rb.cell 2⟩
    have f9:=S2.out.rb.free i;obtain⟨S3,M3⟩:=S2.out.num i hi v;have S3:=Hd S3;have M4:=Hd (M2.out.tr M3);clear M3 hv;go_wp2_with (fail);go_ret;rw[e1.out];exact⟨rfl,fun r h=>(by injection h with h;subst h;exact⟨_,_,_,_,_,_,S3.out.ext XI⟩),M4.out.ext XI⟩
def XZ (s:ScrP)(said:List Txt)(x:Txt)(ws:List Txt) : Option (ScrP×List Txt) :=
 if ZP s said x=true/\ws.length<=100 then(Zn ws (List.replicate ws.length ZX)).map fun d=>({ s with draws:=s.draws++d },said++[x]) else none
theorem Wd (s:ScrP)(said:List Txt)(x:Txt)(ws:List Txt)(hx:x=ZB) : Zy s said (x::ws)=XZ s said x ws:=by
 subst hx;unfold Zy XZ ZP;have e1:(ZB=Zs)=False:=by decide +kernel
 have e2:(ZB=ZK)=False:=by decide +kernel
 have e3:(ZB=ZE)=False:=by decide +kernel
 simp only[List.headD_cons,e1,e2,e3,if_false,if_true,List.tail_cons]
 by_cases h1:s.parts=[]
 ·by_cases h2:ZB∈said
  ·simp[h1,h2]
  ·by_cases h3:ws.length<=100
   ·have h4:¬100<ws.length:=by omega
    simp only[h1,h2,h3,h4,ne_eq,not_true,false_or,if_false,decide_true,decide_false,Bool.not_false,Bool.and_self,and_self,if_true]
    cases Zn ws (List.replicate ws.length ZX)<;>rfl
   ·have h4:100<ws.length:=by omega
    simp[h1,h2,h3,h4]
 ·simp[h1]
theorem RdS.len {base g:Nat}{s:ScrP}{said:List Txt}{A B C:Option Addr}{a b c:Nat}{w:World}(H:RdS base g s said A a B b C c w) : s.draws.length<=a/\a<=maxLen:=H.rd.le
theorem Xy {w w':World}{base c:Nat}{A:Option Addr}{xs:List Int}(h:OwI w base A c xs)(hg:w.grownBy w' (bl A)) : ModT base [3] w w':=OwV.grownT (show OwV w base 3 1 A xs.length c (xs.map (Value.int .i64)) from h) hg
theorem ZcN (base g:Nat)(s:ScrP)(said:List Txt)(A:Option Addr)(a:Nat)(B:Option Addr)(b:Nat)(C:Option Addr)(c:Nat)(x:Txt)(ws:List Txt)(gw:Nat)(w:World)(H:RdS base g s said A a B b C c w)(hbw:base<=w.heap.size)(hs:said.length<=100000)(hd:s.draws.length<=1000000000)(hW:Blk w gw 9 (txV (x::ws)).toArray)(hgC:bl C≠some gw)(hx:∀ y∈x::ws,y.length<=70000)(hl:(x::ws).length<=70001) :
  Calls Tryz.prog 39 #[.pointer (some ⟨g,0,none⟩),.slice (some ⟨gw,0,none⟩) (ws.length+1) (ws.length+1)] w (Wc (XZ s said x ws) base g w):=by
 unfold Wc;have c0:w.cell? ⟨gw,0,none⟩=some (.string ⟨x.toArray⟩):=(hW.cell 0);have hgg:gw≠g:=hW.ne H.rb (by decide);have FI:=Up base g s said A a B b C c x w H hbw hs;unfold W5 at FI;have NW:=Hd (fun(W:World) (y:Txt) (h:y∈ws)=>(show Calls Tryz.prog 72 #[.string ⟨y.toArray⟩,.int .i64 999999999999999999] W _ from Jb y 999999999999999999 W (hx y (by simp[h]))));obtain⟨T,hTb,hT,hrun⟩:=Qh x ws gw;have hTW:=hT w (RdV.blk hW);have STEP:=Hd (Wl ws (List.replicate ws.length ZX));have END:=Hd (WZ ws (List.replicate ws.length ZX));have REP:Hid (∀ k,k<ws.length->(List.replicate ws.length ZX)[k]?=some 999999999999999999):=Hd fun k hk=>by rw[List.getElem?_replicate,if_pos hk];rfl
 have ll:(List.replicate ws.length ZX).length=ws.length:=List.length_replicate;have lx:(txV ws).length=ws.length:=Xt ws;obtain⟨n,hn⟩:∃ n,Hid (ws.length=n):=⟨_,rfl⟩;have hn7:n<=70000:=by have:=hn.out;simp at hl;omega
 obtain⟨MS,hMS⟩:∃ MS,Hid (List.replicate ws.length ZX=MS):=⟨_,rfl⟩;obtain⟨R,hR⟩:∃ R,Hid (XZ s said x ws=R):=⟨_,rfl⟩;have hR2:Hid (R=if ZP s said x=true/\ws.length<=100 then(Zn ws MS).map fun d=>({ s with draws:=s.draws++d },said++[x]) else none):=Hd (by rw[<-hR.out,<-hMS.out];rfl);rw[hR.out];rw[hMS.out] at STEP END REP ll;rw[hn.out] at REP ll lx hrun hR2 ⊢;replace ll:=Hd ll;replace lx:=Hd lx;clear hR hMS hx hl hT;have hC:=Hd H.rt.lt;obtain⟨F,hF⟩:∃ F,ZP s said x=F:=⟨_,rfl⟩;rw[hF] at FI hR2;clear hF H hW hs;replace FI:=Hd FI;replace hTW:=Hd hTW
 cases F with
 | false =>
  have e1:Hid (R=none):=Hd (by rw[hR2.out];rfl);clear NW STEP END REP hR2 hrun;go_enter Tryz.func39,Tryz.ntmps39;go_wp2_with (go_at_call 71;refine FI.out.mono ?_;rintro e w1 ⟨rfl,-,m1⟩);go_ret;rw[e1.out];exact⟨rfl,fun r h=>(by cases h),(MR.first m1 fun q hq=>(hC.out q hq).1).ext XI⟩
 | true =>
  by_cases h100:n<=100
  ·have q1:¬(100:Int)<(n:Int):=by omega
   have HR3:Hid (R=(Zn ws MS).map fun d=>({ s with draws:=s.draws++d },said++[x])):=Hd (by rw[hR2.out,if_pos ⟨rfl,h100⟩]);clear hR2;go_enter Tryz.func39,Tryz.ntmps39;go_upto_region 3 with(go_at_call 71;refine FI.out.mono ?_;rintro e w1 ⟨rfl,s1,m1⟩);obtain⟨C1,c1,s1⟩:=s1 trivial;have M1:Hid (MR base g w w1):=Hd (MR.first m1 fun q hq=>(hC.out q hq).1);have T1:Hid (RdV w1 9 T (txV ws)):=Hd (hTW.out.keep fun q hq=>by
    rw[hTb] at hq
    injection hq with hq
    subst hq;exact m1.block _ (by have:=World.block_lt_of_cell? w _ c0;exact this) (by rintro (h | h);exact hgg h;exact hgC h))
   replace s1:=Hd s1;have hgs:w.heap.size<=w1.heap.size:=m1.size;clear m1 FI hTW c0;have START:Hid (Zn ws MS=(Zn (ws.drop 0) (MS.drop 0)).map ([] ++ ·)):=Hd (by rw[List.drop_zero,List.drop_zero];cases Zn ws MS<;>simp);go_wp2_with (fail);go_loopw [24] (fun kv wr=>∃ (k m:Nat) (A2:Option Addr) (a2:Nat) (acc:List Int),kv=.int .i64 k/\k<=n/\Hid (acc.length=k)/\Hid (Zn ws MS=(Zn (ws.drop k) (MS.drop k)).map (acc ++ ·))/\Hid (RdS base g { s with draws:=s.draws++acc } (said++[x]) A2 a2 B b C1 c1 wr)/\Hid ((s.draws++acc).length=m)/\m<=1000000000+k/\Hid (RdV wr 9 T (txV ws))/\Hid (MR base g w wr)/\w1.heap.size<=wr.heap.size) (fun kv _=>n-(intOf kv).toNat)
   case atStart=>exact⟨0,s.draws.length,A,a,[],rfl,by omega,Hd rfl,START,by rw[List.append_nil];exact Hd (s1.out.ext XI),by rw[List.append_nil];exact Hd rfl,by omega,Hd (T1.out.ext XI),Hd (M1.out.ext XI),Nat.le_refl _⟩
   case round =>
    clear s1 T1 M1 START;obtain⟨k,m,A2,a2,acc,rfl,hk,hak,HN,SR,hm,hmk,TR,MRr,hsz⟩:=hrel
    by_cases hlt:k<n
    ·have hlt2:(k:Int)<(n:Int):=by omega
     obtain⟨y,hy⟩:∃ y,ws[k]?=some y:=⟨_,List.getElem?_eq_getElem (by rw[hn.out];exact hlt)⟩;have NX:=NW.out;have HS:=Hd (STEP.out acc k y _ hy (REP.out k hlt) HN.out);obtain⟨ba,oa,v,rfl,-,ca,ea⟩:=TR.out.at (j:=k) (by rw[lx.out];exact hlt);obtain rfl:v=txS y:=by have h:=ea.out;unfold txV at h;rw[List.getElem?_map,hy] at h;simpa using h.symm
     unfold txS at ca
     cases hw:Va y 999999999999999999 with
     | none =>
      have e1:Hid (R=none):=Hd (by have h:=HS.out;rw[hw] at h;rw[HR3.out,h];rfl);have NX2:=Hd (fun(W:World)=>(show Calls Tryz.prog 72 #[.string ⟨y.toArray⟩,.int .i64 999999999999999999] W fun e w'=>e=.returned (.tuple #[.int .i64 0,.bool false])/\Ext W w' by have h:=NX W y (List.mem_of_getElem? hy);rw[hw] at h;exact h));clear hw HS NX NW STEP END HN hy ea REP hrun SR hmk TR hTb;go_wp2_with (go_at_call 72;refine(NX2.out _).mono ?_;rintro r w2 ⟨rfl,x2⟩);go_ret;rw[e1.out];exact⟨rfl,fun r h=>(by cases h),MRr.out.ext (Ext.tr (a:=wr) XI x2)⟩
     | some q =>
      have HS2:=Hd (show Zn ws MS=(Zn (ws.drop (k+1)) (MS.drop (k+1))).map (acc++[q] ++ ·) by have h:=HS.out;rw[hw] at h;exact h);have NX2:=Hd (fun(W:World)=>(show Calls Tryz.prog 72 #[.string ⟨y.toArray⟩,.int .i64 999999999999999999] W fun e w'=>e=.returned (.tuple #[.int .i64 q,.bool true])/\Ext W w' by have h:=NX W y (List.mem_of_getElem? hy);rw[hw] at h;exact h));clear hw HS NX NW STEP END HN hy ea REP hrun hTb;go_upto_region 9 with(go_at_call 72;refine(NX2.out _).mono ?_;rintro r w2 ⟨rfl,x2⟩);have Y2:=Ext.tr (a:=wr) XI x2;have S2:=Hd (SR.out.ext Y2);have T2:=Hd (TR.out.ext Y2);have M2:=Hd (MRr.out.ext Y2);have hsz2:w1.heap.size<=w2.heap.size:=by have:=Y2.size;omega
      have b3:w2.cell? ⟨g,3,none⟩=some (.slice A2 m a2):=by rw[<-hm.out];exact S2.out.rb.cell 3
      clear x2 Y2 SR TR MRr ca;have hsum:s.draws.length+(acc.length+1)=m+1:=by have:=hm.out;rw[List.length_append] at this;omega
      go_wp2_with (at_builtin;go_loud (refine Yn _ rfl _ _ rfl base A2 m a2 (s.draws++acc) [q] (some ⟨w2.heap.size,0,none⟩) 1 rfl rfl hm.out.symm ?_ ?_ ?_ ?_ ?_;(exact S2.out.rd.ext ((Ext.rf _).alloc _));(exact .blk (.new (by simp)) rfl);(rw[hm.out];first | omega | (simp;done) | (simp;omega));(first | omega | (simp;omega));rintro A6 c6 w6 o6 g6 _;have D6:=RdS.draw (n:=q) (S2.out.ext ((Ext.rf w2).alloc (.cells #[.int .i64 q] 3))) (Xy (S2.out.rd.ext ((Ext.rf w2).alloc (.cells #[.int .i64 q] 3))) g6) o6;have b3:w6.cell? ⟨g,3,none⟩=some (.slice A2 m a2):=(((S2.out.rb.ext ((Ext.rf w2).alloc (.cells #[.int .i64 q] 3))).modT (Xy (S2.out.rd.ext ((Ext.rf w2).alloc (.cells #[.int .i64 q] 3))) g6) (by decide)).cell 3).trans (by rw[<-hm.out];rfl);have f3:=(S2.out.rb.ext ((Ext.rf w2).alloc (.cells #[.int .i64 q] 3))).modT (Xy (S2.out.rd.ext ((Ext.rf w2).alloc (.cells #[.int .i64 q] 3))) g6) (by decide) |>.free 3;replace D6:=Hd D6));have hD:=D6.out;simp only at hD;rw[hm.out] at hD;obtain⟨D1,D2,D3⟩:=hD;rw[List.append_assoc] at D1;have S6:=Hd D1;have X22:Ext w2 (w2.alloc (.cells #[.int .i64 q] 3)):=(Ext.rf w2).alloc _;have T6:=Hd (T2.out.ext X22 |>.modT D3 (by decide));have M6:=Hd ((M2.out.ext X22).tr D2);have hz6:w2.heap.size<=(w6.setCell ⟨g,3,none⟩ (.slice A6 (m+1) c6)).heap.size:=Nat.le_trans X22.size D3.size;clear D1 D2 D3 D6 X22 S2 T2 M2 o6 g6 b3 f3;go_roundw
      case rel=>exact⟨k+1,m+1,A6,c6,acc++[q],by go_num,by omega,Hd (by have:=hak.out;simp[this]),HS2,Hd (S6.out.ext XI),Hd (by rw[<-List.append_assoc,List.length_append,hm.out];rfl),by omega,Hd (T6.out.ext XI),Hd (M6.out.ext XI),by have:=hz6;omega⟩
      case measure=>simp[intOf];omega
    ·have hlt2:¬(k:Int)<(n:Int):=by omega
     obtain rfl:k=n:=by omega
     have e1:Hid (R=some ({ s with draws:=s.draws++acc },said++[x])):=Hd (by rw[HR3.out,END.out acc k (by rw[hn.out];exact Nat.le_refl _) (by rw[ll.out];exact Nat.le_refl _) HN.out];rfl);clear NW STEP END HN REP hrun TR hTb HR3;go_wp2_with (fail);go_ret;rw[e1.out];exact⟨rfl,fun r h=>(by injection h with h;subst h;exact⟨_,_,_,_,_,_,SR.out.ext XI⟩),MRr.out.ext XI⟩
  ·have q1:(100:Int)<(n:Int):=by omega
   have e1:Hid (R=none):=Hd (by rw[hR2.out,if_neg (fun h=>h100 h.2)]);clear NW STEP END REP hR2 hrun h100;go_enter Tryz.func39,Tryz.ntmps39;go_wp2_with (go_at_call 71;refine FI.out.mono ?_;rintro e w1 ⟨rfl,-,m1⟩);go_ret;rw[e1.out];exact⟨rfl,fun r h=>(by cases h),(MR.first m1 fun q hq=>(hC.out q hq).1).ext XI⟩
def Jc (p:PartP) : Array Value:=#[.int .i64 p.kind,.int .i64 p.count,.int .i64 p.who,.int .i64 p.every,.int .u64 (IntKind.u64.wrap p.seed)]
theorem Jd : (Tryz.prog.info? 46).map (fun i=>(i.zero,i.size,i.bytes))=some (some (.agg #[.int .i64 0,.int .i64 0,.int .i64 0,.int .i64 0,.int .u64 0]),5,40):=by kernel_rfl
def Yb (s:ScrP)(said:List Txt)(ws:List Txt) : Option (ScrP×List Txt):=match Xi ws s.wk with
 | some p=>if 50<=s.parts.length then none else some ({ s with parts:=s.parts++[p] },said)
 | none=>none
theorem QU {s:ScrP}{said ws:List Txt}(h:Xi ws s.wk=none) : Yb s said ws=none:=by unfold Yb;rw[h]
theorem QV {s:ScrP}{said ws:List Txt}{p:PartP}(h:Xi ws s.wk=some p) : Yb s said ws=if 50<=s.parts.length then none else some ({ s with parts:=s.parts++[p] },said):=by unfold Yb;rw[h]
theorem Zec {n:Int}(h0:0<=n)(h1:n<1000000000000000000) : IntKind.u64.wrap n=n:=IntWalk.u64_in n (by omega)
def Qi (W:World)(g:Nat)(a0 a1 a2 a3 a4:Value) : World:=(((((W.setCell ⟨g,0,none⟩ a0).setCell ⟨g,1,none⟩ a1).setCell ⟨g,2,none⟩ a2).setCell ⟨g,3,none⟩ a3).setCell ⟨g,4,none⟩ a4)
theorem WF {W:World}{g:Nat}{t:TypeId}{o0 o1 o2 o3 o4:Value}(h:Blk W g t #[o0,o1,o2,o3,o4])(a0 a1 a2 a3 a4:Value) : Blk (Qi W g a0 a1 a2 a3 a4) g t #[a0,a1,a2,a3,a4] :=
 ((((h.set 0 a0).set 1 a1).set 2 a2).set 3 a3).set 4 a4
theorem Ext.put5 {w W:World}{g:Nat}{a0 a1 a2 a3 a4:Value}(h:Ext w W)(hg:w.heap.size<=g) : Ext w (Qi W g a0 a1 a2 a3 a4) :=
 ((((h.setNew (p:=⟨g,0,none⟩) hg a0).setNew (p:=⟨g,1,none⟩) hg a1).setNew (p:=⟨g,2,none⟩) hg a2).setNew (p:=⟨g,3,none⟩) hg a3).setNew (p:=⟨g,4,none⟩) hg a4
theorem Zk {W:World}{g:Nat}{t:TypeId}{o0 o1 o2 o3 o4:Value}(h:Blk W g t #[o0,o1,o2,o3,o4]) : W.cell? ⟨g,0,none⟩=some o0/\W.cell? ⟨g,1,none⟩=some o1/\W.cell? ⟨g,2,none⟩=some o2/\W.cell? ⟨g,3,none⟩=some o3/\W.cell? ⟨g,4,none⟩=some o4/\W.frozen? ⟨g,0,none⟩=false/\W.frozen? ⟨g,1,none⟩=false/\W.frozen? ⟨g,2,none⟩=false/\W.frozen? ⟨g,3,none⟩=false/\W.frozen? ⟨g,4,none⟩=false :=
 ⟨h.cell 0,h.cell 1,h.cell 2,h.cell 3,h.cell 4,h.free 0,h.free 1,h.free 2,h.free 3,h.free 4⟩
theorem Zo {w W:World}{g:Nat}{t:TypeId}{o0 o1 o2 o3 o4:Value}(h:Blk W g t #[o0,o1,o2,o3,o4])(x:Ext w W)(hg:w.heap.size<=g)(a0 a1 a2 a3 a4:Value) : ∃ V,Hid ((((((W.setCell ⟨g,0,none⟩ a0).setCell ⟨g,1,none⟩ a1).setCell ⟨g,2,none⟩ a2).setCell ⟨g,3,none⟩ a3).setCell ⟨g,4,none⟩ a4)=V)/\Hid (Blk V g t #[a0,a1,a2,a3,a4])/\Hid (Ext w V) :=
 ⟨Qi W g a0 a1 a2 a3 a4,Hd rfl,Hd (WF h a0 a1 a2 a3 a4),Hd (x.put5 hg)⟩
theorem ZZ {w:World}{base c:Nat}{A:Option Addr}{xs:List Int}(h:OwI w base A c xs)(h0:0<xs.length) : ∃ b,A=some ⟨b,0,none⟩/\base<=b/\b<w.heap.size/\Hid (∀ k x,xs[k]?=some x->w.cell? ⟨b,k,none⟩=some (.int .i64 x)):=by
 obtain⟨g,x,rfl,h1,h2,-⟩:=h.at h0;refine⟨g,rfl,h1,h2,Hd fun k y hk=>?_⟩;obtain⟨hl,_⟩:=List.getElem?_eq_some_iff.1 hk;obtain⟨z,h3,_,_,h4,_⟩:=h.cell hl;have:=h4.out;rw[hk] at this
 injection this with this
 subst this;exact h3
theorem Zbm (base g:Nat)(s:ScrP)(said:List Txt)(A:Option Addr)(a:Nat)(B:Option Addr)(b:Nat)(C:Option Addr)(c:Nat)(x:Txt)(ws:List Txt)(gw:Nat)(w:World)(H:RdS base g s said A a B b C c w)(hbw:base<=w.heap.size)(hp:s.parts.length<=100000)(hwk:1<=s.wk/\s.wk<=1000000)(hW:Blk w gw 9 (txV (x::ws)).toArray)(hx:∀ y∈x::ws,y.length<=70000)(hl:(x::ws).length<=70001) :
  Calls Tryz.prog 40 #[.pointer (some ⟨g,0,none⟩),.slice (some ⟨gw,0,none⟩) (ws.length+1) (ws.length+1)] w (Wc (Yb s said (x::ws)) base g w):=by
 unfold Wc;have c0:w.cell? ⟨gw,0,none⟩=some (.string ⟨x.toArray⟩):=(hW.cell 0);have NU:=Hd (fun(ms:List Int) (W:World) (X:Ext w W) (T:Option Addr) (cT:Nat) (hT:RdV W 9 T (txV ws)) (M:Option Addr) (cM:Nat) (hM:RdI W M ms)=>Qe T cT ws M cM ms W hT hM (fun y hy=>hx y (by simp[hy])) (by simp at hl;omega));obtain⟨T,-,hT,hrun⟩:=Qh x ws gw;obtain⟨R,hR⟩:∃ R,Hid (Yb s said (x::ws)=R):=⟨_,rfl⟩;rw[hR.out];have RNO:Hid (Xi (x::ws) s.wk=none->R=none):=Hd fun h=>hR.out.symm.trans (QU h)
 have RYES:Hid (∀ p,Xi (x::ws) s.wk=some p->R=if 50<=s.parts.length then none else some ({ s with parts:=s.parts++[p] },said)):=Hd fun p h=>hR.out.symm.trans (QV h)
 have PP:Hid (Xi (x::ws) s.wk=if x=Vj then(match Zn ws [1000000] with | some [a]=>some ⟨1,a,0,0,0⟩ | _=>none) else if x=Zbj then(match Zn ws [1000000] with | some [a]=>some ⟨4,a,0,0,0⟩ | _=>none) else if x=WB then(match Zn ws [s.wk-1,1000000,1000000] with | some [a,b,c]=>if b=0 then none else some ⟨2,c,a,b,0⟩ | _=>none) else if x=WD then(match Zn ws [1000000,ZX] with | some [a,b]=>some ⟨3,a,0,0,b⟩ | _=>none) else none):=Hd (by unfold Xi;simp only[List.headD_cons,List.tail_cons];rfl);obtain⟨PR,hPR⟩:∃ PR,Xi (x::ws) s.wk=PR:=⟨_,rfl⟩;rw[hPR] at RNO RYES PP;clear hPR hR;have n1:=Hd (fun(ms l:List Int) (h:Zn ws ms=some l)=>Yh h);obtain⟨N,hN⟩:∃ N,Hid (Zn ws=N):=⟨_,rfl⟩;rw[hN.out] at NU PP n1;clear hN;unfold YJ at NU;obtain⟨n,hn⟩:∃ n,ws.length=n:=⟨_,rfl⟩;rw[hn] at NU hrun ⊢;have hnH:=Hd hn;clear hn;have hHb:=Hd H.rb;have cw0:w.cell? ⟨g,0,none⟩=some (.int .i64 s.wk):=(H.rb.cell 0);have HH:=Hd H;have hW2:=Hd hW;replace hT:=Hd hT;obtain⟨wk,hwkE⟩:∃ wk,Hid (s.wk=wk):=⟨_,rfl⟩;rw[hwkE.out] at hwk PP cw0;obtain⟨hk1,hk2⟩:=hwk;have wk1:IntKind.i64.wrap (wk-1)=wk-1:=IntWalk.i64_in _ (by omega);clear H hW hx hl;go_enter Tryz.func40,Tryz.ntmps40;go_upto_region 2 with(fail);have BP:Hid (Blk (w.alloc (.cells #[.int .i64 0,.int .i64 0,.int .i64 0,.int .i64 0,.int .u64 0] 46)) w.heap.size 46 #[.int .i64 0,.int .i64 0,.int .i64 0,.int .i64 0,.int .u64 0]):=Hd (.new rfl);have X0:Hid (Ext w (w.alloc (.cells #[.int .i64 0,.int .i64 0,.int .i64 0,.int .i64 0,.int .u64 0] 46))):=Hd ((Ext.rf w).alloc _);generalize w.alloc (.cells #[.int .i64 0,.int .i64 0,.int .i64 0,.int .i64 0,.int .u64 0] 46)=w0 at *;obtain⟨gp,hgp⟩:∃ gp,gp=w.heap.size:=⟨_,rfl⟩;rw[<-hgp] at BP ⊢;have c00:w0.cell? ⟨gw,0,none⟩=some (.string ⟨x.toArray⟩):=Zb X0.out hW2.out.lt c0;have cw00:w0.cell? ⟨g,0,none⟩=some (.int .i64 wk):=Zb X0.out HH.out.rb.lt cw0;clear c0 cw0;replace hgp:=Hd hgp;have hgpw:Hid (w.heap.size<=gp):=Hd (by rw[hgp.out];exact Nat.le_refl _);have zgp:=BP.out.lt;have NOP:Hid (∀ W,Ext w W->PR=none->(Ending.returned (.bool false)=.returned (.bool R.isSome)/\JF R base g W/\MR base g w W)):=Hd fun W X h=>by
  have e:=RNO.out h;exact⟨by rw[e];rfl,fun r hr=>(by rw[e] at hr;cases hr),MR.of_ext X⟩
 go_upto_block 0 with(fail);go_cut [] from 6 (fun wx=>∃ p,Hid (PR=some p)/\Hid (Blk wx gp 46 (Jc p))/\Hid (Ext w wx))
 case first =>
  by_cases h0:x=Vj
  ·have q0:@BEq.beq (List UInt8) _ x [114,111,117,110,100]=true:=beq_iff_eq.2 h0
   have q1:@BEq.beq (List UInt8) _ x [97,108,108]=false:=by rw[h0];decide
   have P2:=PP.out;rw[if_pos h0] at P2;replace P2:=Hd P2;have n2:=Hd (n1.out [1000000]);have NU2:=Hd (NU.out [1000000]);obtain⟨M,hM⟩:∃ M,N [1000000]=M:=⟨_,rfl⟩;rw[hM] at P2 n2 NU2;clear hM n1 NU PP RNO RYES h0;go_wp2_with (fail);refine(NU2.out _ (X0.out.tr XI) T _ (hT.out _ (RdV.blk (hW2.out.ext (X0.out.tr XI)))) _ _ (RdI.blk (Blk.new rfl) rfl)).mono ?_;rintro e w1 ⟨L,kL,rfl,oL,x1⟩;have X1:=Hd (X0.out.tr (Ext.tr (a:=w0) XI x1));have B1:=Hd (BP.out.ext (Ext.tr (a:=w0) XI x1));clear x1 NU2
   cases M with
   | none =>
    go_wp2_with (fail);go_ret;exact NOP.out _ (X1.out.tr XI) P2.out
   | some l =>
    obtain⟨a0,rfl⟩:∃ a0,l=[a0]:=by
     have h:=(n2.out l rfl).1
     match l,h with
     | [a0],_=>exact⟨a0,rfl⟩
    simp only[Option.getD_some] at oL;obtain⟨bL,rfl,zL,zL2,LC⟩:=ZZ oL (by simp);simp only[List.length_cons,List.length_nil,Nat.zero_add,Nat.reduceAdd,Option.isSome_some];have l0:=LC.out 0 a0 rfl;have l0x:w1.cell? ⟨bL,0+0,none⟩=some (.int .i64 a0):=l0;obtain⟨b0,b1,b2,b3,b4,f0,f1,f2,f3,f4⟩:=Zk B1.out;have BF:=Hd (WF B1.out (.int .i64 1) (.int .i64 a0) (.int .i64 0) (.int .i64 0) (.int .u64 0));have YF:=Hd (X1.out.put5 (a0:=.int .i64 1) (a1:=.int .i64 a0) (a2:=.int .i64 0) (a3:=.int .i64 0) (a4:=.int .u64 0) hgpw.out);unfold Qi at BF YF;clear oL zL zL2 LC B1;go_upto_region 10 with(fail);generalize (((((w1.setCell ⟨gp,0,none⟩ (.int .i64 1)).setCell ⟨gp,1,none⟩ (.int .i64 a0)).setCell ⟨gp,2,none⟩ (.int .i64 0)).setCell ⟨gp,3,none⟩ (.int .i64 0)).setCell ⟨gp,4,none⟩ (.int .u64 0))=w5 at *;have x0:w5.cell? ⟨gw,0,none⟩=some (.string ⟨x.toArray⟩):=Zb YF.out hW2.out.lt (hW2.out.cell 0);clear b0 b1 b2 b3 b4 f0 f1 f2 f3 f4 l0 l0x;go_wp2_with (fail);go_meet;exact⟨_,P2.out,Hd (BF.out.ext XI),Hd (YF.out.tr XI)⟩
  ·skip
   by_cases h1:x=Zbj
   ·have q0:@BEq.beq (List UInt8) _ x [114,111,117,110,100]=false:=beq_eq_false_iff_ne.2 h0
    have q1:@BEq.beq (List UInt8) _ x [97,108,108]=true:=beq_iff_eq.2 h1;have P2:=PP.out;rw[if_neg h0,if_pos h1] at P2;replace P2:=Hd P2;have n2:=Hd (n1.out [1000000]);have NU2:=Hd (NU.out [1000000]);obtain⟨M,hM⟩:∃ M,N [1000000]=M:=⟨_,rfl⟩;rw[hM] at P2 n2 NU2;clear hM n1 NU PP RNO RYES h0 h1;go_wp2_with (fail);refine(NU2.out _ (X0.out.tr XI) T _ (hT.out _ (RdV.blk (hW2.out.ext (X0.out.tr XI)))) _ _ (RdI.blk (Blk.new rfl) rfl)).mono ?_;rintro e w1 ⟨L,kL,rfl,oL,x1⟩;have X1:=Hd (X0.out.tr (Ext.tr (a:=w0) XI x1));have B1:=Hd (BP.out.ext (Ext.tr (a:=w0) XI x1));clear x1 NU2
    cases M with
    | none =>
     go_wp2_with (fail);go_ret;exact NOP.out _ (X1.out.tr XI) P2.out
    | some l =>
     obtain⟨a0,rfl⟩:∃ a0,l=[a0]:=by
      have h:=(n2.out l rfl).1
      match l,h with
      | [a0],_=>exact⟨a0,rfl⟩
     simp only[Option.getD_some] at oL;obtain⟨bL,rfl,zL,zL2,LC⟩:=ZZ oL (by simp);simp only[List.length_cons,List.length_nil,Nat.zero_add,Nat.reduceAdd,Option.isSome_some];have l0:=LC.out 0 a0 rfl;have l0x:w1.cell? ⟨bL,0+0,none⟩=some (.int .i64 a0):=l0;obtain⟨b0,b1,b2,b3,b4,f0,f1,f2,f3,f4⟩:=Zk B1.out;have BF:=Hd (WF B1.out (.int .i64 1) (.int .i64 a0) (.int .i64 0) (.int .i64 0) (.int .u64 0));have YF:=Hd (X1.out.put5 (a0:=.int .i64 1) (a1:=.int .i64 a0) (a2:=.int .i64 0) (a3:=.int .i64 0) (a4:=.int .u64 0) hgpw.out);unfold Qi at BF YF;clear oL zL zL2 LC B1;go_upto_region 10 with(fail);generalize (((((w1.setCell ⟨gp,0,none⟩ (.int .i64 1)).setCell ⟨gp,1,none⟩ (.int .i64 a0)).setCell ⟨gp,2,none⟩ (.int .i64 0)).setCell ⟨gp,3,none⟩ (.int .i64 0)).setCell ⟨gp,4,none⟩ (.int .u64 0))=w5 at *;have x0:w5.cell? ⟨gw,0,none⟩=some (.string ⟨x.toArray⟩):=Zb YF.out hW2.out.lt (hW2.out.cell 0);clear b0 b1 b2 b3 b4 f0 f1 f2 f3 f4 l0 l0x;have f0:=BF.out.free 0;have b0:=(BF.out.cell 0);simp only[List.getElem?_toArray,List.getElem?_cons_zero,List.getElem?_cons_succ] at b0;have BG:=Hd (BF.out.set 0 (.int .i64 4));have YG:=Hd (YF.out.setNew (p:=⟨gp,0,none⟩) hgpw.out (.int .i64 4));go_wp2_with (fail);go_meet;exact⟨_,P2.out,Hd (BG.out.ext XI),Hd (YG.out.tr XI)⟩
   ·skip
    by_cases h2:x=WB
    ·have q0:@BEq.beq (List UInt8) _ x [114,111,117,110,100]=false:=beq_eq_false_iff_ne.2 h0
     have q1:@BEq.beq (List UInt8) _ x [97,108,108]=false:=beq_eq_false_iff_ne.2 h1;have q2:@BEq.beq (List UInt8) _ x [102,97,118,111,114]=true:=beq_iff_eq.2 h2;have P2:=PP.out;rw[if_neg h0,if_neg h1,if_pos h2] at P2;replace P2:=Hd P2;have n2:=Hd (n1.out [wk-1,1000000,1000000]);have NU2:=Hd (NU.out [wk-1,1000000,1000000]);obtain⟨M,hM⟩:∃ M,N [wk-1,1000000,1000000]=M:=⟨_,rfl⟩;rw[hM] at P2 n2 NU2;clear hM n1 NU PP RNO RYES h0 h1 h2;go_upto_region 13 with(fail);refine wp_region_any (by kernel_rfl) ?_
     change wpAny _ _ _ _ _ _ _ (World.drew _)
     refine Za 0 (.move (.tmp 1)) 57 (some 39) rfl (by kernel_rfl) Hq (by intro _;go_simp;try rfl) ?_;simp only[lay];refine Zu (i:=1) (op:=Op.slice 57 (Operand.tmp 39) (some (Operand.const (Value.int IntKind.i64 1))) none none) (t:=57) (d:=some 40) (v:=.slice T n n) rfl (by decide +kernel) (by decide +kernel) (by decide +kernel) Hq ?_ ?_
     ·(intro _;unfold Zj;go_simp;skip)
     try simp only[lay]
     refine Za 2 (.move (.tmp 0)) 56 (some 41) rfl (by kernel_rfl) Hq (by intro _;go_simp;try rfl) ?_;simp only[lay];refine Za 3 (.nilCheck (.tmp 41)) 0 (some 42) rfl (by kernel_rfl) Hq (by intro _;go_simp;try rfl) ?_;simp only[lay];refine Za 4 (.fieldAddr 59 (.tmp 42) 0) 0 (some 43) rfl (by kernel_rfl) Hq (by intro _;go_simp;try rfl) ?_;simp only[lay];refine Za 5 (.fieldAddr 34 (.tmp 43) 0) 0 (some 44) rfl (by kernel_rfl) Hq (by intro _;go_simp;try rfl) ?_;simp only[lay];refine Za 6 (.fieldAddr 31 (.tmp 44) 0) 0 (some 45) rfl (by kernel_rfl) Hq (by intro _;go_simp;try rfl) ?_;simp only[lay];have zg0:g<w0.heap.size:=by have:=HH.out.rb.lt;have:=X0.out.size;omega
     refine Zh (n:=6) [(7,some 46),(8,some 47),(9,some 48)] (Ext w0) (VF (fun | 7=>some (.int .i64 wk) | 8=>some (.int .i64 (wk-1)) | _=>none) (fun i v W=>(i=9->∃ z,v=.slice (some ⟨z,0,none⟩) 3 3/\Blk W z 3 #[.int .i64 (wk-1),.int .i64 1000000,.int .i64 1000000]))) Ext #[true,true,true,true,true,true,true,true,true,true,false,false,false,false,false,false] (by decide +kernel) (VF.stab ?_) ?_ ?_ (by first | exact(Ext.rf _).drew | exact Ext.rf _)
     ·intro j v W W' _ gz hx
      have g0:=gz;exact fun h=>(g0 h).imp fun z hz=>⟨hz.1,hz.2.ext hx⟩
     ·intro pS hpm uS wS hRW hD K hK
      simp only[List.mem_cons,List.not_mem_nil,or_false] at hpm;rcases hpm with rfl | rfl | rfl
      ·( have rX:=Zb hRW zg0 cw00;exact Ze (T:=3) (x:=Operand.tmp 45) (t:=3) (d:=some 46) rfl (.pointer (some ⟨g,0,none⟩)) (by kernel_rfl) (.int .i64 wk) (by go_simp) (hK _ _ (VF.mk rfl) hRW (Ext.rf _)))
      ·(have e7:uS 7=.int .i64 wk:=(hD 7 (Zg (by kernel_rfl))).k rfl;exact Zl (op:=Op.binOp BinOp.sub 3 (Operand.tmp 46) (Operand.const (Value.int IntKind.i64 1)) 3) (t:=3) (d:=some 47) rfl (.int .i64 (wk-1)) (by simp only[Zc,Act.put,List.setIfInBounds_toArray,List.set_cons_zero,List.set_cons_succ];unfold Zj;(try go_simp);(try simp only[e7]);(try go_simp);(try rfl);(try (exact IntWalk.i64_in _ (by omega)))) (hK _ _ (VF.mk rfl) hRW (Ext.rf _)))
      ·(have e8:uS 8=.int .i64 (wk-1):=(hD 8 (Zg (by kernel_rfl))).k rfl;exact Zl (op:=Op.buildSlice 22 3 #[(0,Operand.tmp 47),(1,Operand.const (Value.int IntKind.i64 1000000)),(2,Operand.const (Value.int IntKind.i64 1000000))]) (t:=22) (d:=some 48) rfl _ (by simp only[Zc,Act.put,List.setIfInBounds_toArray,List.set_cons_zero,List.set_cons_succ];unfold Zj;(try go_simp);(try simp only[e8]);(try go_simp);(try rfl)) (hK _ _ (VF.mg rfl (fun _=>⟨_,rfl,.new rfl⟩)) (hRW.alloc _) ((Ext.rf _).alloc _)))
     intro u w9 hR9 hV;have h7:=(hV (7,some 46) (by simp)).k rfl;have h8:=(hV (8,some 47) (by simp)).k rfl;obtain⟨qz,h9,qb⟩:=((hV (9,some 48) (by simp)).g rfl) rfl;simp only[Zc,h7,h8,h9];clear hV h7 h8 h9
     try simp only[lay]
     refine Zd 10 (by decide +kernel) (Zi (f:=70) (xs:=#[Operand.tmp 40,Operand.tmp 48]) (ts:=#[57,22]) (t:=70) (d:=some 49) rfl #[.slice T n n,.slice (some ⟨qz,0,none⟩) 3 3] (by go_simp) (by kernel_rfl) _ (NU2.out _ (X0.out.tr hR9) T _ (hT.out _ (RdV.blk (hW2.out.ext (X0.out.tr hR9)))) _ _ (RdI.blk qb rfl)) ?_);rintro e w1 ⟨L,kL,rfl,oL,x1⟩;refine⟨_,rfl,?_⟩
     try simp only[lay]
     refine Za 11 (.move (.tmp 49)) 70 (some 38) rfl (by kernel_rfl) Hq (by intro _;go_simp;try rfl) ?_;simp only[lay];refine Za 12 (.extract (.tmp 38) 0) 22 (some 50) rfl (by kernel_rfl) Hq (by intro _;go_simp;try rfl) ?_;simp only[lay];refine Za 13 (.extract (.tmp 38) 1) 4 (some 51) rfl (by kernel_rfl) Hq (by intro _;go_simp;try rfl) ?_;simp only[lay];refine Za 14 (.assign (.tmp 50)) 22 (some 8) rfl (by kernel_rfl) Hq (by intro _;go_simp;try rfl) ?_;simp only[lay];refine Za 15 (.assign (.tmp 51)) 4 (some 9) rfl (by kernel_rfl) Hq (by intro _;go_simp;try rfl) ?_;simp only[lay];refine wpAny_done (by kernel_rfl) ?_ _;have X1:=Hd (X0.out.tr (hR9.tr x1));have B1:=Hd (BP.out.ext (hR9.tr x1));clear x1 NU2 hR9 qb;go_simp
     cases M with
     | none =>
      go_wp2_with (fail);go_ret;exact NOP.out _ (X1.out.tr XI) P2.out
     | some l =>
      obtain⟨a0,a1,a2,rfl⟩:∃ a0 a1 a2,l=[a0,a1,a2]:=by
       have h:=(n2.out l rfl).1
       match l,h with
       | [a0,a1,a2],_=>exact⟨a0,a1,a2,rfl⟩
      simp only[Option.getD_some] at oL;obtain⟨bL,rfl,zL,zL2,LC⟩:=ZZ oL (by simp);simp only[List.length_cons,List.length_nil,Nat.zero_add,Nat.reduceAdd,Option.isSome_some];have l0:=LC.out 0 a0 rfl;have l1:=LC.out 1 a1 rfl;have l2:=LC.out 2 a2 rfl;have l0x:w1.cell? ⟨bL,0+0,none⟩=some (.int .i64 a0):=l0;obtain⟨b0,b1,b2,b3,b4,f0,f1,f2,f3,f4⟩:=Zk B1.out
      by_cases hz:a1=0
      ·subst hz
       have P3:=P2.out;simp only[if_true] at P3;clear P2;replace P3:=Hd P3;go_wp2_with (fail);go_ret;exact NOP.out _ (X1.out.tr XI) P3.out
      ·have qz0:(a1==0)=false:=beq_eq_false_iff_ne.2 hz
       have P3:=P2.out;simp only[if_neg hz] at P3;clear P2 hz;replace P3:=Hd P3;have BF:=Hd (WF B1.out (.int .i64 2) (.int .i64 a2) (.int .i64 a0) (.int .i64 a1) (.int .u64 0));have YF:=Hd (X1.out.put5 (a0:=.int .i64 2) (a1:=.int .i64 a2) (a2:=.int .i64 a0) (a3:=.int .i64 a1) (a4:=.int .u64 0) hgpw.out);unfold Qi at BF YF;go_upto_region 16 with(fail);refine wp_region_any (by kernel_rfl) ?_
       change wpAny _ _ _ _ _ _ _ (World.drew _)
       refine Za 0 (.move (.tmp 8)) 22 (some 60) rfl (by kernel_rfl) Hq (by intro _;go_simp;try rfl) ?_;simp only[lay];refine Za 1 (.indexAddr 22 (.tmp 60) (.const (.int .i64 0))) 0 (some 61) rfl (by kernel_rfl) Hq (by intro _;go_simp;try rfl) ?_;simp only[lay];refine Za 3 (.move (.tmp 8)) 22 (some 63) rfl (by kernel_rfl) Hq (by intro _;go_simp;try rfl) ?_;simp only[lay];refine Za 4 (.indexAddr 22 (.tmp 63) (.const (.int .i64 1))) 0 (some 64) rfl (by kernel_rfl) Hq (by intro _;go_simp;try rfl) ?_;simp only[lay];refine Za 6 (.move (.tmp 8)) 22 (some 66) rfl (by kernel_rfl) Hq (by intro _;go_simp;try rfl) ?_;simp only[lay];refine Za 7 (.indexAddr 22 (.tmp 66) (.const (.int .i64 2))) 0 (some 67) rfl (by kernel_rfl) Hq (by intro _;go_simp;try rfl) ?_;simp only[lay];refine Zm (n:=2) [(2,some 62),(5,some 65),(8,some 68)] (fun | 2=>.int .i64 a0 | 5=>.int .i64 a1 | 8=>.int .i64 a2 | _=>undef) #[true,true,true,true,true,true,true,true,true,false,false] (by decide +kernel) ?_ ?_
       ·intro pS hpm uS hD K hK
        simp only[List.mem_cons,List.not_mem_nil,or_false] at hpm;rcases hpm with rfl | rfl | rfl
        ·exact Ze (T:=3) (x:=Operand.tmp 61) (t:=3) (d:=some 62) rfl (.pointer (some ⟨bL,0,none⟩)) (by kernel_rfl) (.int .i64 a0) (by go_simp) hK
        ·exact Ze (T:=3) (x:=Operand.tmp 64) (t:=3) (d:=some 65) rfl (.pointer (some ⟨bL,1,none⟩)) (by kernel_rfl) (.int .i64 a1) (by go_simp) hK
        ·exact Ze (T:=3) (x:=Operand.tmp 67) (t:=3) (d:=some 68) rfl (.pointer (some ⟨bL,2,none⟩)) (by kernel_rfl) (.int .i64 a2) (by go_simp) hK
       simp only[Zc,Act.put,List.setIfInBounds_toArray,List.set_cons_zero,List.set_cons_succ];refine Zu (i:=9) (op:=Op.build 46 #[(0,Operand.const (Value.int IntKind.i64 2)),(2,Operand.tmp 62),(3,Operand.tmp 65),(1,Operand.tmp 68)]) (t:=46) (d:=some 69) (v:=.agg #[.int .i64 2,.int .i64 a2,.int .i64 a0,.int .i64 a1,.int .u64 0]) rfl (by decide +kernel) (by decide +kernel) (by decide +kernel) Hq ?_ ?_
       ·(intro _;unfold Zj;go_simp;skip)
       try simp only[lay]
       refine Zd 10 (by decide +kernel) (ZR rfl (.pointer (some ⟨gp,0,none⟩)) (.agg #[.int .i64 2,.int .i64 a2,.int .i64 a0,.int .i64 a1,.int .u64 0]) (by kernel_rfl) (by kernel_rfl) (by go_simp;rfl) ?_);refine wpAny_done (by kernel_rfl) ?_ _;go_simp;go_wp2_with (fail);go_meet;exact⟨_,P3.out,Hd (BF.out.ext XI),Hd (YF.out.tr XI)⟩
    ·skip
     by_cases h3:x=WD
     ·have q0:@BEq.beq (List UInt8) _ x [114,111,117,110,100]=false:=beq_eq_false_iff_ne.2 h0
      have q1:@BEq.beq (List UInt8) _ x [97,108,108]=false:=beq_eq_false_iff_ne.2 h1;have q2:@BEq.beq (List UInt8) _ x [102,97,118,111,114]=false:=beq_eq_false_iff_ne.2 h2;have q3:@BEq.beq (List UInt8) _ x [109,105,120,101,100]=true:=beq_iff_eq.2 h3;have P2:=PP.out;rw[if_neg h0,if_neg h1,if_neg h2,if_pos h3] at P2;replace P2:=Hd P2;have n2:=Hd (n1.out [1000000,ZX]);have NU2:=Hd (NU.out [1000000,ZX]);obtain⟨M,hM⟩:∃ M,N [1000000,ZX]=M:=⟨_,rfl⟩;rw[hM] at P2 n2 NU2;unfold ZX at NU2;clear hM n1 NU PP RNO RYES h0 h1 h2 h3;go_wp2_with (fail);refine(NU2.out _ (X0.out.tr XI) T _ (hT.out _ (RdV.blk (hW2.out.ext (X0.out.tr XI)))) _ _ (RdI.blk (Blk.new rfl) rfl)).mono ?_;rintro e w1 ⟨L,kL,rfl,oL,x1⟩;have X1:=Hd (X0.out.tr (Ext.tr (a:=w0) XI x1));have B1:=Hd (BP.out.ext (Ext.tr (a:=w0) XI x1));clear x1 NU2
      cases M with
      | none =>
       go_wp2_with (fail);go_ret;exact NOP.out _ (X1.out.tr XI) P2.out
      | some l =>
       obtain⟨a0,a1,rfl⟩:∃ a0 a1,l=[a0,a1]:=by
        have h:=(n2.out l rfl).1
        match l,h with
        | [a0,a1],_=>exact⟨a0,a1,rfl⟩
       obtain⟨-,-,NN⟩:=n2.out _ rfl;have hs1:=NN 1 a1 _ rfl rfl;have hu:IntKind.u64.wrap a1=a1:=Zec hs1.1 hs1.2.2;have huH:=Hd hu;clear NN hs1;simp only[Option.getD_some] at oL;obtain⟨bL,rfl,zL,zL2,LC⟩:=ZZ oL (by simp);simp only[List.length_cons,List.length_nil,Nat.zero_add,Nat.reduceAdd,Option.isSome_some];have l0:=LC.out 0 a0 rfl;have l1:=LC.out 1 a1 rfl;have l0x:w1.cell? ⟨bL,0+0,none⟩=some (.int .i64 a0):=l0;obtain⟨b0,b1,b2,b3,b4,f0,f1,f2,f3,f4⟩:=Zk B1.out;have BF:=Hd (WF B1.out (.int .i64 3) (.int .i64 a0) (.int .i64 0) (.int .i64 0) (.int .u64 a1));have YF:=Hd (X1.out.put5 (a0:=.int .i64 3) (a1:=.int .i64 a0) (a2:=.int .i64 0) (a3:=.int .i64 0) (a4:=.int .u64 a1) hgpw.out);unfold Qi at BF YF;go_upto_region 21 with(fail);refine wp_region_any (by kernel_rfl) ?_
       change wpAny _ _ _ _ _ _ _ (World.drew _)
       refine Za 0 (.move (.tmp 10)) 22 (some 81) rfl (by kernel_rfl) Hq (by intro _;go_simp;try rfl) ?_;simp only[lay];refine Za 1 (.indexAddr 22 (.tmp 81) (.const (.int .i64 0))) 0 (some 82) rfl (by kernel_rfl) Hq (by intro _;go_simp;try rfl) ?_;simp only[lay];refine Za 3 (.move (.tmp 10)) 22 (some 84) rfl (by kernel_rfl) Hq (by intro _;go_simp;try rfl) ?_;simp only[lay];refine Za 4 (.indexAddr 22 (.tmp 84) (.const (.int .i64 1))) 0 (some 85) rfl (by kernel_rfl) Hq (by intro _;go_simp;try rfl) ?_;simp only[lay];refine Zm (n:=2) [(2,some 83),(5,some 86),(6,some 87)] (fun | 2=>.int .i64 a0 | 5=>.int .i64 a1 | 6=>.int .u64 a1 | _=>undef) #[true,true,true,true,true,true,true,false,false] (by decide +kernel) ?_ ?_
       ·intro pS hpm uS hD K hK
        simp only[List.mem_cons,List.not_mem_nil,or_false] at hpm;rcases hpm with rfl | rfl | rfl
        ·exact Ze (T:=3) (x:=Operand.tmp 82) (t:=3) (d:=some 83) rfl (.pointer (some ⟨bL,0,none⟩)) (by kernel_rfl) (.int .i64 a0) (by go_simp) hK
        ·exact Ze (T:=3) (x:=Operand.tmp 85) (t:=3) (d:=some 86) rfl (.pointer (some ⟨bL,1,none⟩)) (by kernel_rfl) (.int .i64 a1) (by go_simp) hK
        ·(have e5:uS 5=.int .i64 a1:=hD 5 (Zg (by kernel_rfl));exact Zl (op:=Op.convert 3 44 (Operand.tmp 86)) (t:=44) (d:=some 87) rfl (.int .u64 a1) (by simp only[Zc,Act.put,List.setIfInBounds_toArray,List.set_cons_zero,List.set_cons_succ];unfold Zj;go_simp;try simp only[e5];try go_simp) hK)
       simp only[Zc,Act.put,List.setIfInBounds_toArray,List.set_cons_zero,List.set_cons_succ];refine Zu (i:=7) (op:=Op.build 46 #[(0,Operand.const (Value.int IntKind.i64 3)),(1,Operand.tmp 83),(4,Operand.tmp 87)]) (t:=46) (d:=some 88) (v:=.agg #[.int .i64 3,.int .i64 a0,.int .i64 0,.int .i64 0,.int .u64 a1]) rfl (by decide +kernel) (by decide +kernel) (by decide +kernel) Hq ?_ ?_
       ·(intro _;unfold Zj;go_simp;skip)
       try simp only[lay]
       refine Zd 8 (by decide +kernel) (ZR rfl (.pointer (some ⟨gp,0,none⟩)) (.agg #[.int .i64 3,.int .i64 a0,.int .i64 0,.int .i64 0,.int .u64 a1]) (by kernel_rfl) (by kernel_rfl) (by go_simp;rfl) ?_);refine wpAny_done (by kernel_rfl) ?_ _;go_simp;go_wp2_with (fail);go_meet;exact⟨_,P2.out,Hd (by unfold Jc;rw[huH.out];exact BF.out.ext XI),Hd (YF.out.tr XI)⟩
     ·skip
      have q0:@BEq.beq (List UInt8) _ x [114,111,117,110,100]=false:=beq_eq_false_iff_ne.2 h0;have q1:@BEq.beq (List UInt8) _ x [97,108,108]=false:=beq_eq_false_iff_ne.2 h1;have q2:@BEq.beq (List UInt8) _ x [102,97,118,111,114]=false:=beq_eq_false_iff_ne.2 h2;have q3:@BEq.beq (List UInt8) _ x [109,105,120,101,100]=false:=beq_eq_false_iff_ne.2 h3;have P2:=PP.out;rw[if_neg h0,if_neg h1,if_neg h2,if_neg h3] at P2;replace P2:=Hd P2;clear n1 NU PP RNO RYES h0 h1 h2 h3;go_wp2_with (fail);go_ret;exact NOP.out _ (X0.out.tr XI) P2.out
 case rest =>
  obtain⟨p,hp1,BF,XF⟩:=hcut;have RY:=Hd (RYES.out p hp1.out);obtain⟨i0,hi,hz0,hz1,hz2⟩:=info_parts Jd;replace hi:=Hd hi;replace hz0:=Hd hz0;replace hz1:=Hd hz1;replace hz2:=Hd hz2;clear c00 cw00 NU n1 PP RNO RYES BP X0 NOP hT hrun hgp hgpw zgp;obtain⟨m,hm⟩:∃ m,Hid (s.parts.length=m):=⟨_,rfl⟩;rw[hm.out] at hp RY;have c4:wc.cell? ⟨g,4,none⟩=some (.slice B m b):=by rw[<-hm.out];exact(HH.out.rb.ext XF.out).cell 4
  have zg:g<wc.heap.size:=(HH.out.rb.ext XF.out).lt;have zp:gp<wc.heap.size:=BF.out.lt;obtain⟨k0,k1,k2,k3,k4⟩:=p;unfold Jc at BF;simp only at BF;generalize hk4:IntKind.u64.wrap k4=u4 at BF;have hu4:=Hd hk4;clear hk4;have g0:=(BF.out.cell 0);have g1:=(BF.out.cell 1);have g2:=(BF.out.cell 2);have g3:=(BF.out.cell 3);have g4:=(BF.out.cell 4);simp only[List.getElem?_toArray,List.getElem?_cons_zero,List.getElem?_cons_succ] at g0 g1 g2 g3 g4;have rP:Hid (∀ W,Ext wc W->W.cell? ⟨gp,0,none⟩=some (.int .i64 k0)/\W.cell? ⟨gp,1,none⟩=some (.int .i64 k1)/\W.cell? ⟨gp,2,none⟩=some (.int .i64 k2)/\W.cell? ⟨gp,3,none⟩=some (.int .i64 k3)/\W.cell? ⟨gp,4,none⟩=some (.int .u64 u4)):=Hd fun W X=>⟨Zb X zp g0,Zb X zp g1,Zb X zp g2,Zb X zp g3,Zb X zp g4⟩
  clear g0 g1 g2 g3 g4;go_upto_region 22 with(fail);refine wp_region_any (by kernel_rfl) ?_
  change wpAny _ _ _ _ _ _ _ (World.drew _)
  refine Za 0 (.move (.tmp 0)) 56 (some 89) rfl (by kernel_rfl) Hq (by intro _;go_simp;try rfl) ?_;simp only[lay];refine Za 1 (.move (.tmp 0)) 56 (some 90) rfl (by kernel_rfl) Hq (by intro _;go_simp;try rfl) ?_;simp only[lay];refine Za 2 (.nilCheck (.tmp 90)) 0 (some 91) rfl (by kernel_rfl) Hq (by intro _;go_simp;try rfl) ?_;simp only[lay];refine Za 3 (.fieldAddr 59 (.tmp 91) 0) 0 (some 92) rfl (by kernel_rfl) Hq (by intro _;go_simp;try rfl) ?_;simp only[lay];refine Za 4 (.fieldAddr 34 (.tmp 92) 2) 0 (some 93) rfl (by kernel_rfl) Hq (by intro _;go_simp;try rfl) ?_;simp only[lay];refine Zh (n:=5) [(5,some 94),(6,some 95),(7,some 96)] (Ext wc) (VF (fun | 5=>some (.slice B m b) | 6=>some (.agg #[.int .i64 k0,.int .i64 k1,.int .i64 k2,.int .i64 k3,.int .u64 u4]) | _=>none) (fun i v W=>(i=7->∃ z,v=.slice (some ⟨z,0,none⟩) 1 1/\Blk W z 46 #[.int .i64 k0,.int .i64 k1,.int .i64 k2,.int .i64 k3,.int .u64 u4]))) Ext #[true,true,true,true,true,true,true,true,false,false,false,false,false] (by decide +kernel) (VF.stab ?_) ?_ ?_ (by first | exact(Ext.rf _).drew | exact Ext.rf _)
  ·intro j v W W' _ gz hx
   have g0:=gz;exact fun h=>(g0 h).imp fun z hz=>⟨hz.1,hz.2.ext hx⟩
  ·intro pS hpm uS wS hRW hD K hK
   simp only[List.mem_cons,List.not_mem_nil,or_false] at hpm;rcases hpm with rfl | rfl | rfl
   ·( have rX:=Zb hRW zg c4;exact Ze (T:=32) (x:=Operand.tmp 93) (t:=32) (d:=some 94) rfl (.pointer (some ⟨g,4,none⟩)) (by kernel_rfl) (.slice B m b) (by go_simp) (hK _ _ (VF.mk rfl) hRW (Ext.rf _)))
   ·( have rX:=rP.out _ hRW;exact Ze (T:=46) (x:=Operand.tmp 5) (t:=46) (d:=some 95) rfl (.pointer (some ⟨gp,0,none⟩)) (by kernel_rfl) (.agg #[.int .i64 k0,.int .i64 k1,.int .i64 k2,.int .i64 k3,.int .u64 u4]) (by go_simp) (hK _ _ (VF.mk rfl) hRW (Ext.rf _)))
   ·(have e6:uS 6=.agg #[.int .i64 k0,.int .i64 k1,.int .i64 k2,.int .i64 k3,.int .u64 u4]:=(hD 6 (Zg (by kernel_rfl))).k rfl;exact Zl (op:=Op.buildSlice 32 1 #[(0,Operand.tmp 95)]) (t:=32) (d:=some 96) rfl _ (by simp only[Zc,Act.put,List.setIfInBounds_toArray,List.set_cons_zero,List.set_cons_succ];unfold Zj;(try go_simp);(try simp only[e6]);(try go_simp);(try rfl)) (hK _ _ (VF.mg rfl (fun _=>⟨_,rfl,.new rfl⟩)) (hRW.alloc _) ((Ext.rf _).alloc _)))
  intro u w9 hR9 hV;have h5:=(hV (5,some 94) (by simp)).k rfl;have h6:=(hV (6,some 95) (by simp)).k rfl;obtain⟨qz,h7,qb⟩:=((hV (7,some 96) (by simp)).g rfl) rfl;simp only[Zc,h5,h6,h7];clear hV h5 h6 h7
  try simp only[lay]
  have H9:=Hd (HH.out.ext (XF.out.tr hR9));have o3:=H9.out.rp;rw[hm.out] at o3;have hbw9:base<=w9.heap.size:=by have:=XF.out.size;have:=hR9.size;omega
  obtain⟨A4,c4',w4,hrun,o4,G4,-⟩:=Wa w9 (e:=46) Tryz.underlying32 hi.out hz0.out hz1.out hz2.out (by simp[Value.cells]) (by omega) base 32 B m b (ZU s.parts) (some ⟨qz,0,none⟩) 1 1 [.int .i64 k0,.int .i64 k1,.int .i64 k2,.int .i64 k3,.int .u64 u4] o3 ((RdV.blk qb).rdC) (by simp) (by simp[Value.oneCell']) (by simp only[maxLen];omega) (by omega) hbw9;have M4:=o3.grownT G4;have B4:=H9.out.rb.modT M4 (by decide);have d4:w4.cell? ⟨g,4,none⟩=some (.slice B m b):=(B4.cell 4).trans (by rw[hm.out];rfl);have f4:=B4.free 4;obtain⟨S4,Q4⟩:=RdS.part (p:=⟨k0,k1,k2,k3,k4⟩) H9.out M4 (by rw[hm.out];unfold Vc;simp only;rw[hu4.out];exact o4);rw[hm.out] at S4 Q4;have SS:=Hd S4;have QQ:=Hd ((MR.of_ext (base:=base) (g:=g) (XF.out.tr hR9)).tr Q4);clear S4 Q4 B4 M4 o3 G4 hR9 qb rP;refine Zd 8 (by decide +kernel) (Vh rfl (.slice B m b) (.slice (some ⟨qz,0,none⟩) 1 1) (by kernel_rfl) (by kernel_rfl) _ hrun ?_)
  try simp only[lay]
  refine Za 9 (.nilCheck (.tmp 89)) 0 (some 98) rfl (by kernel_rfl) Hq (by intro _;go_simp;try rfl) ?_;simp only[lay];refine Za 10 (.fieldAddr 59 (.tmp 98) 0) 0 (some 99) rfl (by kernel_rfl) Hq (by intro _;go_simp;try rfl) ?_;simp only[lay];refine Za 11 (.fieldAddr 34 (.tmp 99) 2) 0 (some 100) rfl (by kernel_rfl) Hq (by intro _;go_simp;try rfl) ?_;simp only[lay];refine Zd 12 (by decide +kernel) (ZR rfl (.pointer (some ⟨g,4,none⟩)) (.slice A4 (m+1) c4') (by kernel_rfl) (by kernel_rfl) (by go_simp;rfl) ?_);refine wpAny_done (by kernel_rfl) ?_ _;clear hrun d4 f4 c4 o4;go_simp;generalize w4.setCell ⟨g,4,none⟩ (.slice A4 (m+1) c4')=w5 at *;have e4:w5.cell? ⟨g,4,none⟩=some (.slice A4 (m+1) c4'):=(SS.out.rb.cell 4).trans (by show some (Value.slice A4 (s.parts++[_]).length c4')=_;rw[List.length_append,hm.out];rfl)
  by_cases h50:50<=m
  ·have e1:Hid (R=none):=Hd (by rw[RY.out,if_pos h50])
   have q1:¬((m:Int)+1<=50):=by omega
   have q2:¬(m+1<=50):=by omega
   have q3:¬(((m+1:Nat):Int)<=50):=by omega
   go_wp2_with (fail);go_ret;rw[e1.out];exact⟨by simp,fun r h=>(by cases h),QQ.out.ext XI⟩
  ·have e1:Hid (R=some ({ s with parts:=s.parts++[⟨k0,k1,k2,k3,k4⟩] },said)):=Hd (by rw[RY.out,if_neg h50])
   have q1:((m:Int)+1<=50):=by omega
   have q2:(m+1<=50):=by omega
   have q3:(((m+1:Nat):Int)<=50):=by omega
   go_wp2_with (fail);go_ret;rw[e1.out];exact⟨by simp,fun r h=>(by injection h with h;subst h;exact⟨_,_,_,_,_,_,SS.out.ext XI⟩),QQ.out.ext XI⟩
def VW (p:PartP) : Array Value:=#[.int .i64 p.kind,.int .i64 p.count,.int .i64 p.who,.int .i64 p.every,.int .i64 p.seed]
def Zgd : PartP:=⟨0,0,0,0,0⟩
def W6 (R:Option PartP)(w:World)(e:Ending)(w':World) : Prop:=e=.returned (.tuple #[.agg (VW (R.getD Zgd)),.bool R.isSome])/\Ext w w'
theorem ZcO (x:Txt)(ws:List Txt)(gw:Nat)(wk:Int)(w:World)(hwk:1<=wk/\wk<=1000000)(hW:RdV w 9 (some ⟨gw,0,none⟩) (txV (x::ws)))(c:Nat)(hcc:ws.length+1<=c)(hx:∀ y∈x::ws,y.length<=70000)(hl:(x::ws).length<=70001) :
  Calls Tryz.prog 26 #[.slice (some ⟨gw,0,none⟩) (ws.length+1) c,.int .i64 wk] w (W6 (Xi (x::ws) wk) w):=by
 unfold W6;have zgw:gw<w.heap.size:=hW.lt (by simp[txV]) gw rfl;have c0:w.cell? ⟨gw,0,none⟩=some (.string ⟨x.toArray⟩):=by
  obtain⟨b,o,v,h1,-,h2,h3⟩:=hW.at (j:=0) (by simp[txV])
  injection h1 with h1
  injection h1 with h1 h4
  subst h1;subst h4;have:v=txS x:=by have h:=h3.out;simpa [txV] using h.symm
  subst this;exact h2
 have NU:=Hd (fun(ms:List Int) (W:World) (X:Ext w W) (T:Option Addr) (cT:Nat) (hT:RdV W 9 T (txV ws)) (M:Option Addr) (cM:Nat) (hM:RdI W M ms)=>XP T cT ws M cM ms W hT hM (fun y hy=>hx y (by simp[hy])) (by simp at hl;omega));obtain⟨T,hT,hrun⟩:∃ T,(∀ W,Ext w W->RdV W 9 T (txV ws))/\∀ W,(Instr.sliceAt 57 (.slice (some ⟨gw,0,none⟩) (ws.length+1) c) (some (.int .i64 1)) none none).run Tryz.prog W=.ok (.slice T ws.length (c-1)) W:=by
  obtain⟨i0,hi,_,hz1,_⟩:=info_parts XS;refine⟨if c=1 then some ⟨gw,0,none⟩ else(some (⟨gw,0,none⟩:Addr)).map (·.add (1*1)),fun W X=>?_,fun W=>?_⟩
  ·by_cases h0:c=1
   ·obtain rfl:ws=[]:=List.length_eq_zero_iff.1 (by omega)
    exact RdV.nil _ _ _
   ·rw[if_neg h0]
    exact(hW.ext X).drop 1
  ·have h:=Vw (P:=Tryz.prog) Tryz.underlying57 hi hz1 (some ⟨gw,0,none⟩) (ws.length+1) c 1 1 rfl (by omega) (by omega) W
   rw[Nat.add_sub_cancel] at h;exact h
 obtain⟨PR,hPR⟩:∃ PR,Xi (x::ws) wk=PR:=⟨_,rfl⟩;have PP:Hid (PR=if x=Vj then(match Zn ws [1000000] with | some [a]=>some ⟨1,a,0,0,0⟩ | _=>none) else if x=Zbj then(match Zn ws [1000000] with | some [a]=>some ⟨4,a,0,0,0⟩ | _=>none) else if x=WB then(match Zn ws [wk-1,1000000,1000000] with | some [a,b,c]=>if b=0 then none else some ⟨2,c,a,b,0⟩ | _=>none) else if x=WD then(match Zn ws [1000000,ZX] with | some [a,b]=>some ⟨3,a,0,0,b⟩ | _=>none) else none):=Hd (by rw[<-hPR];unfold Xi;simp only[List.headD_cons,List.tail_cons];rfl);rw[hPR];clear hPR;have n1:=Hd (fun(ms l:List Int) (h:Zn ws ms=some l)=>Yh h);obtain⟨N,hN⟩:∃ N,Hid (Zn ws=N):=⟨_,rfl⟩;rw[hN.out] at NU PP n1;clear hN;unfold YJ at NU;obtain⟨n,hn⟩:∃ n,ws.length=n:=⟨_,rfl⟩;rw[hn] at NU hrun hcc ⊢;clear hn;replace hT:=Hd hT;obtain⟨hk1,hk2⟩:=hwk;have wk1:IntKind.i64.wrap (wk-1)=wk-1:=IntWalk.i64_in _ (by omega);clear hW hx hl;go_enter Tryz.func26,Tryz.ntmps26;go_upto_region 1 with(fail);have BP:Hid (Blk (w.alloc (.cells #[.int .i64 0,.int .i64 0,.int .i64 0,.int .i64 0,.int .i64 0] 50)) w.heap.size 50 #[.int .i64 0,.int .i64 0,.int .i64 0,.int .i64 0,.int .i64 0]):=Hd (.new rfl);have X0:Hid (Ext w (w.alloc (.cells #[.int .i64 0,.int .i64 0,.int .i64 0,.int .i64 0,.int .i64 0] 50))):=Hd ((Ext.rf w).alloc _);generalize w.alloc (.cells #[.int .i64 0,.int .i64 0,.int .i64 0,.int .i64 0,.int .i64 0] 50)=w0 at *;obtain⟨gr,hgr⟩:∃ gr,gr=w.heap.size:=⟨_,rfl⟩;rw[<-hgr] at BP ⊢;have c00:w0.cell? ⟨gw,0,none⟩=some (.string ⟨x.toArray⟩):=Zb X0.out zgw c0;have c0H:=Hd c0;clear c0;have hgrw:Hid (w.heap.size<=gr):=Hd (by rw[hgr];exact Nat.le_refl _);replace hgr:=Hd hgr
 by_cases h0:x=Vj
 ·have q0:@BEq.beq (List UInt8) _ x [114,111,117,110,100]=true:=beq_iff_eq.2 h0
  have P2:=PP.out;rw[if_pos h0] at P2;replace P2:=Hd P2;have n2:=Hd (n1.out [1000000]);have NU2:=Hd (NU.out [1000000]);obtain⟨M,hM⟩:∃ M,N [1000000]=M:=⟨_,rfl⟩;rw[hM] at P2 n2 NU2;clear hM n1 NU PP h0;go_wp2_with (fail);refine(NU2.out _ (X0.out.tr XI) T _ (hT.out _ (X0.out.tr XI)) _ _ (RdI.blk (Blk.new rfl) rfl)).mono ?_;rintro e w1 ⟨L,kL,rfl,oL,x1⟩;have X1:=Hd (X0.out.tr (Ext.tr (a:=w0) XI x1));have B1:=Hd (BP.out.ext (Ext.tr (a:=w0) XI x1));have cg1:w1.cell? ⟨gw,0,none⟩=some (.string ⟨x.toArray⟩):=Zb X1.out zgw c0H.out;clear x1 NU2 c00
  cases M with
  | none =>
   have P3:Hid (PR=none):=Hd P2.out;clear P2 n2;obtain⟨b0,b1,b2,b3,b4,f0,f1,f2,f3,f4⟩:=Zk B1.out;obtain⟨w5,hWF,BF,YF⟩:=Zo B1.out X1.out hgrw.out (.int .i64 0) (.int .i64 0) (.int .i64 0) (.int .i64 0) (.int .i64 0);go_wp2_with (fail);rw[hWF.out];clear hWF;clear b0 b1 b2 b3 b4 f0 f1 f2 f3 f4 ;obtain⟨r0,r1,r2,r3,r4,-⟩:=Zk BF.out;refine bodyPost_ret (v:=.tuple #[.agg #[.int .i64 0,.int .i64 0,.int .i64 0,.int .i64 0,.int .i64 0],.bool false]) (by simp[results,Tryz.results26,go_sem, *]) rfl ?_;rw[P3.out];exact⟨rfl,YF.out⟩
  | some l =>
   obtain⟨a0,rfl⟩:∃ a0,l=[a0]:=by
    have h:=(n2.out l rfl).1
    match l,h with
    | [a0],_=>exact⟨a0,rfl⟩
   simp only[Option.getD_some] at oL;obtain⟨bL,rfl,zL,zL2,LC⟩:=ZZ oL (by simp);simp only[List.length_cons,List.length_nil,Nat.zero_add,Nat.reduceAdd,Option.isSome_some];have l0:=LC.out 0 a0 rfl;clear oL zL LC n2;have P3:=Hd P2.out;clear P2;obtain⟨b0,b1,b2,b3,b4,f0,f1,f2,f3,f4⟩:=Zk B1.out;obtain⟨w5,hWF,BF,YF⟩:=Zo B1.out X1.out hgrw.out (.int .i64 1) (.int .i64 a0) (.int .i64 0) (.int .i64 0) (.int .i64 0);go_wp2_with (fail);rw[hWF.out];clear hWF;clear b0 b1 b2 b3 b4 f0 f1 f2 f3 f4 l0;obtain⟨r0,r1,r2,r3,r4,-⟩:=Zk BF.out;refine bodyPost_ret (v:=.tuple #[.agg #[.int .i64 1,.int .i64 a0,.int .i64 0,.int .i64 0,.int .i64 0],.bool true]) (by simp[results,Tryz.results26,go_sem, *]) rfl ?_;rw[P3.out];exact⟨rfl,YF.out⟩
 ·skip
  by_cases h1:x=Zbj
  ·have q0:@BEq.beq (List UInt8) _ x [114,111,117,110,100]=false:=beq_eq_false_iff_ne.2 h0
   have q1:@BEq.beq (List UInt8) _ x [97,108,108]=true:=beq_iff_eq.2 h1;have P2:=PP.out;rw[if_neg h0,if_pos h1] at P2;replace P2:=Hd P2;have n2:=Hd (n1.out [1000000]);have NU2:=Hd (NU.out [1000000]);obtain⟨M,hM⟩:∃ M,N [1000000]=M:=⟨_,rfl⟩;rw[hM] at P2 n2 NU2;clear hM n1 NU PP h0 h1;go_wp2_with (fail);refine(NU2.out _ (X0.out.tr XI) T _ (hT.out _ (X0.out.tr XI)) _ _ (RdI.blk (Blk.new rfl) rfl)).mono ?_;rintro e w1 ⟨L,kL,rfl,oL,x1⟩;have X1:=Hd (X0.out.tr (Ext.tr (a:=w0) XI x1));have B1:=Hd (BP.out.ext (Ext.tr (a:=w0) XI x1));have cg1:w1.cell? ⟨gw,0,none⟩=some (.string ⟨x.toArray⟩):=Zb X1.out zgw c0H.out;clear x1 NU2 c00
   cases M with
   | none =>
    have P3:Hid (PR=none):=Hd P2.out;clear P2 n2;obtain⟨b0,b1,b2,b3,b4,f0,f1,f2,f3,f4⟩:=Zk B1.out;obtain⟨w5,hWF,BF,YF⟩:=Zo B1.out X1.out hgrw.out (.int .i64 0) (.int .i64 0) (.int .i64 0) (.int .i64 0) (.int .i64 0);go_wp2_with (fail);rw[hWF.out];clear hWF;clear b0 b1 b2 b3 b4 f0 f1 f2 f3 f4 ;obtain⟨r0,r1,r2,r3,r4,-⟩:=Zk BF.out;refine bodyPost_ret (v:=.tuple #[.agg #[.int .i64 0,.int .i64 0,.int .i64 0,.int .i64 0,.int .i64 0],.bool false]) (by simp[results,Tryz.results26,go_sem, *]) rfl ?_;rw[P3.out];exact⟨rfl,YF.out⟩
   | some l =>
    obtain⟨a0,rfl⟩:∃ a0,l=[a0]:=by
     have h:=(n2.out l rfl).1
     match l,h with
     | [a0],_=>exact⟨a0,rfl⟩
    simp only[Option.getD_some] at oL;obtain⟨bL,rfl,zL,zL2,LC⟩:=ZZ oL (by simp);simp only[List.length_cons,List.length_nil,Nat.zero_add,Nat.reduceAdd,Option.isSome_some];have l0:=LC.out 0 a0 rfl;clear oL zL LC n2;have P3:=Hd P2.out;clear P2;obtain⟨b0,b1,b2,b3,b4,f0,f1,f2,f3,f4⟩:=Zk B1.out;obtain⟨w5,hWF,BF,YF⟩:=Zo B1.out X1.out hgrw.out (.int .i64 4) (.int .i64 a0) (.int .i64 0) (.int .i64 0) (.int .i64 0);go_wp2_with (fail);rw[hWF.out];clear hWF;clear b0 b1 b2 b3 b4 f0 f1 f2 f3 f4 l0;obtain⟨r0,r1,r2,r3,r4,-⟩:=Zk BF.out;refine bodyPost_ret (v:=.tuple #[.agg #[.int .i64 4,.int .i64 a0,.int .i64 0,.int .i64 0,.int .i64 0],.bool true]) (by simp[results,Tryz.results26,go_sem, *]) rfl ?_;rw[P3.out];exact⟨rfl,YF.out⟩
  ·skip
   by_cases h2:x=WB
   ·have q0:@BEq.beq (List UInt8) _ x [114,111,117,110,100]=false:=beq_eq_false_iff_ne.2 h0
    have q1:@BEq.beq (List UInt8) _ x [97,108,108]=false:=beq_eq_false_iff_ne.2 h1;have q2:@BEq.beq (List UInt8) _ x [102,97,118,111,114]=true:=beq_iff_eq.2 h2;have P2:=PP.out;rw[if_neg h0,if_neg h1,if_pos h2] at P2;replace P2:=Hd P2;have n2:=Hd (n1.out [wk-1,1000000,1000000]);have NU2:=Hd (NU.out [wk-1,1000000,1000000]);obtain⟨M,hM⟩:∃ M,N [wk-1,1000000,1000000]=M:=⟨_,rfl⟩;rw[hM] at P2 n2 NU2;clear hM n1 NU PP h0 h1 h2;go_wp2_with (fail);refine(NU2.out _ (X0.out.tr XI) T _ (hT.out _ (X0.out.tr XI)) _ _ (RdI.blk (Blk.new rfl) rfl)).mono ?_;rintro e w1 ⟨L,kL,rfl,oL,x1⟩;have X1:=Hd (X0.out.tr (Ext.tr (a:=w0) XI x1));have B1:=Hd (BP.out.ext (Ext.tr (a:=w0) XI x1));have cg1:w1.cell? ⟨gw,0,none⟩=some (.string ⟨x.toArray⟩):=Zb X1.out zgw c0H.out;clear x1 NU2 c00
    cases M with
    | none =>
     have P3:Hid (PR=none):=Hd P2.out;clear P2 n2;obtain⟨b0,b1,b2,b3,b4,f0,f1,f2,f3,f4⟩:=Zk B1.out;obtain⟨w5,hWF,BF,YF⟩:=Zo B1.out X1.out hgrw.out (.int .i64 0) (.int .i64 0) (.int .i64 0) (.int .i64 0) (.int .i64 0);go_wp2_with (fail);rw[hWF.out];clear hWF;clear b0 b1 b2 b3 b4 f0 f1 f2 f3 f4 ;obtain⟨r0,r1,r2,r3,r4,-⟩:=Zk BF.out;refine bodyPost_ret (v:=.tuple #[.agg #[.int .i64 0,.int .i64 0,.int .i64 0,.int .i64 0,.int .i64 0],.bool false]) (by simp[results,Tryz.results26,go_sem, *]) rfl ?_;rw[P3.out];exact⟨rfl,YF.out⟩
    | some l =>
     obtain⟨a0,a1,a2,rfl⟩:∃ a0 a1 a2,l=[a0,a1,a2]:=by
      have h:=(n2.out l rfl).1
      match l,h with
      | [a0,a1,a2],_=>exact⟨a0,a1,a2,rfl⟩
     simp only[Option.getD_some] at oL;obtain⟨bL,rfl,zL,zL2,LC⟩:=ZZ oL (by simp);simp only[List.length_cons,List.length_nil,Nat.zero_add,Nat.reduceAdd,Option.isSome_some];have l0:=LC.out 0 a0 rfl;have l1:=LC.out 1 a1 rfl;have l2:=LC.out 2 a2 rfl;clear oL zL LC n2
     by_cases hz:a1=0
     ·subst hz
      have P3:=P2.out;simp only[if_true] at P3;clear P2;replace P3:=Hd P3;obtain⟨b0,b1,b2,b3,b4,f0,f1,f2,f3,f4⟩:=Zk B1.out;obtain⟨w5,hWF,BF,YF⟩:=Zo B1.out X1.out hgrw.out (.int .i64 0) (.int .i64 0) (.int .i64 0) (.int .i64 0) (.int .i64 0);go_wp2_with (fail);rw[hWF.out];clear hWF;clear b0 b1 b2 b3 b4 f0 f1 f2 f3 f4 l0 l1 l2;obtain⟨r0,r1,r2,r3,r4,-⟩:=Zk BF.out;refine bodyPost_ret (v:=.tuple #[.agg #[.int .i64 0,.int .i64 0,.int .i64 0,.int .i64 0,.int .i64 0],.bool false]) (by simp[results,Tryz.results26,go_sem, *]) rfl ?_;rw[P3.out];exact⟨rfl,YF.out⟩
     ·have qz0:(a1==0)=false:=beq_eq_false_iff_ne.2 hz
      have P3:=P2.out;simp only[if_neg hz] at P3;clear P2 hz;replace P3:=Hd P3;obtain⟨b0,b1,b2,b3,b4,f0,f1,f2,f3,f4⟩:=Zk B1.out;obtain⟨w5,hWF,BF,YF⟩:=Zo B1.out X1.out hgrw.out (.int .i64 2) (.int .i64 a2) (.int .i64 a0) (.int .i64 a1) (.int .i64 0);go_upto_region 14 with(fail);refine wp_region_any (by kernel_rfl) ?_
      change wpAny _ _ _ _ _ _ _ (World.drew _)
      refine Za 0 (.move (.tmp 8)) 22 (some 60) rfl (by kernel_rfl) Hq (by intro _;go_simp;try rfl) ?_;simp only[lay];refine Za 1 (.indexAddr 22 (.tmp 60) (.const (.int .i64 0))) 0 (some 61) rfl (by kernel_rfl) Hq (by intro _;go_simp;try rfl) ?_;simp only[lay];refine Za 3 (.move (.tmp 8)) 22 (some 63) rfl (by kernel_rfl) Hq (by intro _;go_simp;try rfl) ?_;simp only[lay];refine Za 4 (.indexAddr 22 (.tmp 63) (.const (.int .i64 1))) 0 (some 64) rfl (by kernel_rfl) Hq (by intro _;go_simp;try rfl) ?_;simp only[lay];refine Za 6 (.move (.tmp 8)) 22 (some 66) rfl (by kernel_rfl) Hq (by intro _;go_simp;try rfl) ?_;simp only[lay];refine Za 7 (.indexAddr 22 (.tmp 66) (.const (.int .i64 2))) 0 (some 67) rfl (by kernel_rfl) Hq (by intro _;go_simp;try rfl) ?_;simp only[lay];refine Zm (n:=3) [(2,some 62),(5,some 65),(8,some 68)] (fun | 2=>.int .i64 a0 | 5=>.int .i64 a1 | 8=>.int .i64 a2 | _=>undef) #[true,true,true,true,true,true,true,true,true,false,false,false] (by decide +kernel) ?_ ?_
      ·intro pS hpm uS hD K hK
       simp only[List.mem_cons,List.not_mem_nil,or_false] at hpm;rcases hpm with rfl | rfl | rfl
       ·exact Ze (T:=3) (x:=Operand.tmp 61) (t:=3) (d:=some 62) rfl (.pointer (some ⟨bL,0,none⟩)) (by kernel_rfl) (.int .i64 a0) (by go_simp) hK
       ·exact Ze (T:=3) (x:=Operand.tmp 64) (t:=3) (d:=some 65) rfl (.pointer (some ⟨bL,1,none⟩)) (by kernel_rfl) (.int .i64 a1) (by go_simp) hK
       ·exact Ze (T:=3) (x:=Operand.tmp 67) (t:=3) (d:=some 68) rfl (.pointer (some ⟨bL,2,none⟩)) (by kernel_rfl) (.int .i64 a2) (by go_simp) hK
      simp only[Zc,Act.put,List.setIfInBounds_toArray,List.set_cons_zero,List.set_cons_succ];refine Zu (i:=9) (op:=Op.build 50 #[(0,Operand.const (Value.int IntKind.i64 2)),(2,Operand.tmp 62),(3,Operand.tmp 65),(1,Operand.tmp 68)]) (t:=50) (d:=some 69) (v:=.agg #[.int .i64 2,.int .i64 a2,.int .i64 a0,.int .i64 a1,.int .i64 0]) rfl (by decide +kernel) (by decide +kernel) (by decide +kernel) Hq ?_ ?_
      ·(intro _;unfold Zj;go_simp;skip)
      try simp only[lay]
      refine Zd 10 (by decide +kernel) (ZR rfl (.pointer (some ⟨gr,0,none⟩)) (.agg #[.int .i64 2,.int .i64 a2,.int .i64 a0,.int .i64 a1,.int .i64 0]) (by kernel_rfl) (by kernel_rfl) (by go_simp;rfl) ?_)
      try simp only[lay]
      refine Za 11 (.assign (.const (.bool true))) 4 (some 5) rfl (by kernel_rfl) Hq (by intro _;go_simp;try rfl) ?_;simp only[lay];refine wpAny_done (by kernel_rfl) ?_ _;go_simp;rw[hWF.out];clear hWF;clear b0 b1 b2 b3 b4 f0 f1 f2 f3 f4 l0 l1 l2;obtain⟨r0,r1,r2,r3,r4,-⟩:=Zk BF.out.drew;go_wp2_with (fail);refine bodyPost_ret (v:=.tuple #[.agg #[.int .i64 2,.int .i64 a2,.int .i64 a0,.int .i64 a1,.int .i64 0],.bool true]) (by simp[results,Tryz.results26,go_sem, *]) rfl ?_;rw[P3.out];exact⟨rfl,YF.out.drew⟩
   ·skip
    by_cases h3:x=WD
    ·have q0:@BEq.beq (List UInt8) _ x [114,111,117,110,100]=false:=beq_eq_false_iff_ne.2 h0
     have q1:@BEq.beq (List UInt8) _ x [97,108,108]=false:=beq_eq_false_iff_ne.2 h1;have q2:@BEq.beq (List UInt8) _ x [102,97,118,111,114]=false:=beq_eq_false_iff_ne.2 h2;have q3:@BEq.beq (List UInt8) _ x [109,105,120,101,100]=true:=beq_iff_eq.2 h3;have P2:=PP.out;rw[if_neg h0,if_neg h1,if_neg h2,if_pos h3] at P2;replace P2:=Hd P2;have n2:=Hd (n1.out [1000000,ZX]);have NU2:=Hd (NU.out [1000000,ZX]);obtain⟨M,hM⟩:∃ M,N [1000000,ZX]=M:=⟨_,rfl⟩;rw[hM] at P2 n2 NU2;unfold ZX at NU2;clear hM n1 NU PP h0 h1 h2 h3;go_wp2_with (fail);refine(NU2.out _ (X0.out.tr XI) T _ (hT.out _ (X0.out.tr XI)) _ _ (RdI.blk (Blk.new rfl) rfl)).mono ?_;rintro e w1 ⟨L,kL,rfl,oL,x1⟩;have X1:=Hd (X0.out.tr (Ext.tr (a:=w0) XI x1));have B1:=Hd (BP.out.ext (Ext.tr (a:=w0) XI x1));have cg1:w1.cell? ⟨gw,0,none⟩=some (.string ⟨x.toArray⟩):=Zb X1.out zgw c0H.out;clear x1 NU2 c00
     cases M with
     | none =>
      have P3:Hid (PR=none):=Hd P2.out;clear P2 n2;obtain⟨b0,b1,b2,b3,b4,f0,f1,f2,f3,f4⟩:=Zk B1.out;obtain⟨w5,hWF,BF,YF⟩:=Zo B1.out X1.out hgrw.out (.int .i64 0) (.int .i64 0) (.int .i64 0) (.int .i64 0) (.int .i64 0);go_wp2_with (fail);rw[hWF.out];clear hWF;clear b0 b1 b2 b3 b4 f0 f1 f2 f3 f4 ;obtain⟨r0,r1,r2,r3,r4,-⟩:=Zk BF.out;refine bodyPost_ret (v:=.tuple #[.agg #[.int .i64 0,.int .i64 0,.int .i64 0,.int .i64 0,.int .i64 0],.bool false]) (by simp[results,Tryz.results26,go_sem, *]) rfl ?_;rw[P3.out];exact⟨rfl,YF.out⟩
     | some l =>
      obtain⟨a0,a1,rfl⟩:∃ a0 a1,l=[a0,a1]:=by
       have h:=(n2.out l rfl).1
       match l,h with
       | [a0,a1],_=>exact⟨a0,a1,rfl⟩
      simp only[Option.getD_some] at oL;obtain⟨bL,rfl,zL,zL2,LC⟩:=ZZ oL (by simp);simp only[List.length_cons,List.length_nil,Nat.zero_add,Nat.reduceAdd,Option.isSome_some];have l0:=LC.out 0 a0 rfl;have l1:=LC.out 1 a1 rfl;clear oL zL LC n2;have P3:=Hd P2.out;clear P2;obtain⟨b0,b1,b2,b3,b4,f0,f1,f2,f3,f4⟩:=Zk B1.out;obtain⟨w5,hWF,BF,YF⟩:=Zo B1.out X1.out hgrw.out (.int .i64 3) (.int .i64 a0) (.int .i64 0) (.int .i64 0) (.int .i64 a1);go_upto_region 19 with(fail);refine wp_region_any (by kernel_rfl) ?_
      change wpAny _ _ _ _ _ _ _ (World.drew _)
      refine Za 0 (.move (.tmp 10)) 22 (some 82) rfl (by kernel_rfl) Hq (by intro _;go_simp;try rfl) ?_;simp only[lay];refine Za 1 (.indexAddr 22 (.tmp 82) (.const (.int .i64 0))) 0 (some 83) rfl (by kernel_rfl) Hq (by intro _;go_simp;try rfl) ?_;simp only[lay];refine Za 3 (.move (.tmp 10)) 22 (some 85) rfl (by kernel_rfl) Hq (by intro _;go_simp;try rfl) ?_;simp only[lay];refine Za 4 (.indexAddr 22 (.tmp 85) (.const (.int .i64 1))) 0 (some 86) rfl (by kernel_rfl) Hq (by intro _;go_simp;try rfl) ?_;simp only[lay];refine Zm (n:=3) [(2,some 84),(5,some 87)] (fun | 2=>.int .i64 a0 | 5=>.int .i64 a1 | _=>undef) #[true,true,true,true,true,true,false,false,false] (by decide +kernel) ?_ ?_
      ·intro pS hpm uS hD K hK
       simp only[List.mem_cons,List.not_mem_nil,or_false] at hpm;rcases hpm with rfl | rfl
       ·exact Ze (T:=3) (x:=Operand.tmp 83) (t:=3) (d:=some 84) rfl (.pointer (some ⟨bL,0,none⟩)) (by kernel_rfl) (.int .i64 a0) (by go_simp) hK
       ·exact Ze (T:=3) (x:=Operand.tmp 86) (t:=3) (d:=some 87) rfl (.pointer (some ⟨bL,1,none⟩)) (by kernel_rfl) (.int .i64 a1) (by go_simp) hK
      simp only[Zc,Act.put,List.setIfInBounds_toArray,List.set_cons_zero,List.set_cons_succ];refine Zu (i:=6) (op:=Op.build 50 #[(0,Operand.const (Value.int IntKind.i64 3)),(1,Operand.tmp 84),(4,Operand.tmp 87)]) (t:=50) (d:=some 88) (v:=.agg #[.int .i64 3,.int .i64 a0,.int .i64 0,.int .i64 0,.int .i64 a1]) rfl (by decide +kernel) (by decide +kernel) (by decide +kernel) Hq ?_ ?_
      ·(intro _;unfold Zj;go_simp;skip)
      try simp only[lay]
      refine Zd 7 (by decide +kernel) (ZR rfl (.pointer (some ⟨gr,0,none⟩)) (.agg #[.int .i64 3,.int .i64 a0,.int .i64 0,.int .i64 0,.int .i64 a1]) (by kernel_rfl) (by kernel_rfl) (by go_simp;rfl) ?_)
      try simp only[lay]
      refine Za 8 (.assign (.const (.bool true))) 4 (some 5) rfl (by kernel_rfl) Hq (by intro _;go_simp;try rfl) ?_;simp only[lay];refine wpAny_done (by kernel_rfl) ?_ _;go_simp;rw[hWF.out];clear hWF;clear b0 b1 b2 b3 b4 f0 f1 f2 f3 f4 l0 l1;obtain⟨r0,r1,r2,r3,r4,-⟩:=Zk BF.out.drew;go_wp2_with (fail);refine bodyPost_ret (v:=.tuple #[.agg #[.int .i64 3,.int .i64 a0,.int .i64 0,.int .i64 0,.int .i64 a1],.bool true]) (by simp[results,Tryz.results26,go_sem, *]) rfl ?_;rw[P3.out];exact⟨rfl,YF.out.drew⟩
    ·skip
     have q0:@BEq.beq (List UInt8) _ x [114,111,117,110,100]=false:=beq_eq_false_iff_ne.2 h0;have q1:@BEq.beq (List UInt8) _ x [97,108,108]=false:=beq_eq_false_iff_ne.2 h1;have q2:@BEq.beq (List UInt8) _ x [102,97,118,111,114]=false:=beq_eq_false_iff_ne.2 h2;have q3:@BEq.beq (List UInt8) _ x [109,105,120,101,100]=false:=beq_eq_false_iff_ne.2 h3;have P2:=PP.out;rw[if_neg h0,if_neg h1,if_neg h2,if_neg h3] at P2;have P3:=Hd P2;clear n1 NU PP h0 h1 h2 h3 P2;obtain⟨b0,b1,b2,b3,b4,f0,f1,f2,f3,f4⟩:=Zk BP.out;obtain⟨w5,hWF,BF,YF⟩:=Zo BP.out X0.out hgrw.out (.int .i64 0) (.int .i64 0) (.int .i64 0) (.int .i64 0) (.int .i64 0);go_wp2_with (fail);rw[hWF.out];clear hWF;clear b0 b1 b2 b3 b4 f0 f1 f2 f3 f4 ;obtain⟨r0,r1,r2,r3,r4,-⟩:=Zk BF.out;refine bodyPost_ret (v:=.tuple #[.agg #[.int .i64 0,.int .i64 0,.int .i64 0,.int .i64 0,.int .i64 0],.bool false]) (by simp[results,Tryz.results26,go_sem, *]) rfl ?_;rw[P3.out];exact⟨rfl,YF.out⟩
end
end Go.Proofs.YtocfmioihaefoaaGreatDoor
