/- parts, packed by a program -/
import Derived.Test.YtnbcmiaaleambaaGreatDoorShowTreesP7
set_option maxRecDepth 100000
set_option maxHeartbeats 16000000
set_option linter.all false
namespace Go.Proofs.YtnbcmiaaleambaaGreatDoor
open Go.ChangeAt Go.ChangeShapes Go.Deep Go.RowKit Go.WideShapes
section
def Zan (base:RB)(g c:Nat)(P L1 R1 L2 R2 Q:List Nat)(w W:World) : Prop:=OwNRc W base g c (P++(L1++(R1++(L2++(R2++Q)))))/\Mod (fun k=>k=g) w W
def Zao (base:RB)(g c:Nat)(lt:Nat->Nat->Bool)(P L1 R1 L2 R2 Q:List Nat)(w W:World) : Prop:=∃ M1,Is lt (L1++R1) M1/\OwNRc W base g c (P++(M1++(L2++(R2++Q))))/\Mod (fun k=>k=g) w W
def Jd (T:World->Prop)(e:Ending)(w':World) : Prop:=e=.returned (.tuple #[])/\T w'
def SymIHRc (base:RB)(g c f:Nat)(lb:Array Value)(cf:Nat->Nat->Int)(nn N d:Nat)(w:World) : Prop :=
 ∀ (a m b:Nat) (P L R Q:List Nat) (W:World),b-a<d->Mod (fun k=>k=g) w W->OwNRc W base g c (P++(L++(R++Q)))->(P++(L++(R++Q))).length=N->P.length=a->a+L.length=m->m+R.length=b->0<L.length->0<R.length ->
  Srt (Zx cf) L->Srt (Zx cf) R->Apart (· < ·) L R->(∀ x∈L++R,x<nn)->Calls Tryz.prog 90 #[.slice (some ⟨g,0,none⟩) N c,.int .i64 a,.int .i64 m,.int .i64 b,.func (.func f) #[] lb] W (Zz base g c (Zx cf) P (L++R) Q W)
def V6 (a m b mid lo hi:Nat) : Prop:=(m<=mid/\lo=a/\hi=m)\/(mid<m/\lo+b=mid+m/\hi=mid)
theorem Je {lt:Nat->Nat->Bool}{A B:List Nat}(ha:Srt lt A)(hb:Srt lt B)(h:A.length=0\/B.length=0) : Srt lt (A++B):=by
 rcases h with h | h
 ·rw[List.eq_nil_of_length_eq_zero h];exact hb
 ·rw[List.eq_nil_of_length_eq_zero h,List.append_nil];exact ha
theorem ZbE {A B T:List Nat}(h:A.length=0\/B.length=0) : A++(B++T)=B++(A++T):=by
 rcases h with h | h
 ·rw[List.eq_nil_of_length_eq_zero h];rfl
 ·rw[List.eq_nil_of_length_eq_zero h];rfl
section
variable {base:RB} {g c f N nn a m b s mid en d:Nat} {lb:Array Value} {cf:Nat->Nat->Int} {P L1 L2 R1 R2 Q:List Nat} {w:World}
theorem SymIHRc.first (IH:SymIHRc base g c f lb cf nn N d w)(hd:mid-a<d)(hN:(P++(L1++(L2++(R1++(R2++Q))))).length=N)(ha:P.length=a)(h1:a+L1.length=s)(h2:s+R1.length=mid)(sl:Srt (Zx cf) L1)(sr:Srt (Zx cf) R1)(hlt:Apart (· < ·) L1 R1)(hn:∀ x∈L1++R1,x<nn) :
  (∀ W,Zan base g c P L1 R1 L2 R2 Q w W->0<L1.length->0<R1.length->Calls Tryz.prog 90 #[.slice (some ⟨g,0,none⟩) N c,.int .i64 a,.int .i64 s,.int .i64 mid,.func (.func f) #[] lb] W (Jd (Zao base g c (Zx cf) P L1 R1 L2 R2 Q w))) /\
  (∀ W,Zan base g c P L1 R1 L2 R2 Q w W->(L1.length=0\/R1.length=0)->Zao base g c (Zx cf) P L1 R1 L2 R2 Q w W):=by
 refine⟨fun W hT h3 h4=>?_,fun W hT h3=>⟨_,Is.rf (Je sl sr h3),by simpa only [List.append_assoc] using hT.1,hT.2⟩⟩;refine(IH a s mid P L1 R1 (L2++(R2++Q)) W hd hT.2 hT.1 (by simp only[List.length_append] at hN ⊢;omega) ha h1 h2 h3 h4 sl sr hlt hn).mono ?_;rintro e w' ⟨M,h5,rfl,h6,h7⟩;exact⟨rfl,M,h5,h6,hT.2.tr h7⟩
theorem SymIHRc.second (IH:SymIHRc base g c f lb cf nn N d w)(hd:b-mid<d)(hN:(P++(L1++(L2++(R1++(R2++Q))))).length=N)(ha:P.length=a)(h1:a+L1.length+R1.length=mid)(h2:mid+L2.length=en)(h3:en+R2.length=b)(sl:Srt (Zx cf) L2)(sr:Srt (Zx cf) R2)(hlt:Apart (· < ·) L2 R2)(hn:∀ x∈L2++R2,x<nn)
  (hA:Apart (strictly (Zx cf)) (L1++R1) (L2++R2)) {L R:List Nat} (hL:L=L1++L2) (hR:R=R1++R2) :
  (∀ W,Zao base g c (Zx cf) P L1 R1 L2 R2 Q w W->0<L2.length->0<R2.length->Calls Tryz.prog 90 #[.slice (some ⟨g,0,none⟩) N c,.int .i64 mid,.int .i64 en,.int .i64 b,.func (.func f) #[] lb] W (Zz base g c (Zx cf) P (L++R) Q w)) /\
  (∀ W,Zao base g c (Zx cf) P L1 R1 L2 R2 Q w W->(L2.length=0\/R2.length=0)->Zz base g c (Zx cf) P (L++R) Q w (.returned (.tuple #[])) W):=by
 subst hL hR;have hp:=Zb4 L1 L2 R1 R2;refine⟨?_,?_⟩
 ·rintro W ⟨M1,i1,hO,hM⟩ h4 h5
  have hl1:=i1.len;rw[List.length_append] at hl1;refine(IH mid en b (P++M1) L2 R2 Q W hd hM (by rw[List.append_assoc];exact hO) (by simp only[List.length_append] at hN ⊢;omega) (by rw[List.length_append];omega) h2 h3 h4 h5 sl sr hlt hn).mono ?_;rintro e w' ⟨M,h6,rfl,h7,h8⟩;exact⟨M1++M,(i1.join h6 hA).perm hp,rfl,by simpa only [List.append_assoc] using h7,hM.tr h8⟩
 ·rintro W ⟨M1,i1,hO,hM⟩ h4
  exact⟨M1++(L2++R2),(i1.join (Is.rf (Je sl sr h4)) hA).perm hp,rfl,by simpa only [List.append_assoc] using hO,hM⟩
end
theorem J4 {base:RB}{g c N a m en s:Nat}(fv:Value){P L1 L2 R1 R2 Q:List Nat}{w wo:World}(hO:OwNRc wo base g c (P++(L1++(L2++(R1++(R2++Q))))))(hM:Mod (fun k=>k=g) w wo)(hN:(P++(L1++(L2++(R1++(R2++Q))))).length=N)(ha:P.length=a)(h1:a+L1.length=s)(h2:s+L2.length=m)(h3:m+R1.length=en)(hl:N<=1000000000) :
  (0<L2.length->0<R1.length->Calls Tryz.prog 110 #[.slice (some ⟨g,0,none⟩) N c,.int .i64 s,.int .i64 m,.int .i64 en,fv] wo (Jd (Zan base g c P L1 R1 L2 R2 Q w))) /\
  ((L2.length=0\/R1.length=0)->Zan base g c P L1 R1 L2 R2 Q w wo):=by
 constructor
 ·intro h4 h5
  refine(ZcZ base g c fv s m en N (P++L1) L2 R1 (R2++Q) wo (by simpa only [List.append_assoc] using hO) (by simpa only [List.append_assoc] using hN) (by rw[List.length_append];omega) h2 h3 h4 h5 hl).mono ?_;rintro e w' ⟨rfl,h6,h7⟩;exact⟨rfl,by simpa only [List.append_assoc] using h6,hM.tr h7⟩
 ·intro h4
  refine⟨?_,hM⟩;rw[ZbE (T:=R2++Q) h4] at hO;exact hO
theorem Zcm (base:RB)(g c:Nat)(f:Nat)(lb:Array Value)(cf:Nat->Nat->Int)(nn a m b N mid lo hi:Nat)(P L R Q:List Nat)(w:World)(hw:Weak (Zx cf))(eg:∀ args w,(callFunc f args).run Tryz.prog w=.ok (.enter f args) w)(hcmp:CmpOkRc base f lb cf nn g w)(IH:SymIHRc base g c f lb cf nn N (b-a) w)
  (h:OwNRc w base g c (P++(L++(R++Q)))) (hN:(P++(L++(R++Q))).length=N) (ha:P.length=a) (hL:a+L.length=m) (hR:m+R.length=b) (h1:2<=L.length) (h2:2<=R.length) (sl:Srt (Zx cf) L) (sr:Srt (Zx cf) R) (hlt:Apart (· < ·) L R) (hn:∀ x∈L++R,x<nn) (hl:N<=1000000000)
  (hmid:mid=(a+b) / 2) (hcase:(m<=mid/\lo=a/\hi=m)\/(mid<m/\lo+b=mid+m/\hi=mid)) :
  Calls Tryz.prog 90 #[.slice (some ⟨g,0,none⟩) N c,.int .i64 a,.int .i64 m,.int .i64 b,.func (.func f) #[] lb] w (Zz base g c (Zx cf) P (L++R) Q w):=by
 have hbN:b<=N:=by simp only[List.length_append] at hN;omega
 have d0:((m:Int)-(a:Int)==1)=false:=by rw[beq_eq_false_iff_ne];omega
 have d1:((b:Int)-(m:Int)==1)=false:=by rw[beq_eq_false_iff_ne];omega
 have k1:a+2<=m:=by omega
 have k2:m+2<=b:=by omega
 have k3:a<mid/\mid<b/\2*mid<=a+b/\a+b<=2*mid+1:=by omega
 have k4:a<=lo/\lo<=hi/\hi<=m/\hi<=mid:=by omega
 have HLR:Hid (a+L.length=m/\m+R.length=b):=⟨hL,hR⟩;have HC:V6 a m b mid lo hi:=hcase;have HS0:Hid (SymR (Zx cf) L R a mid lo hi lo hi):=SymR.start _ _ _ _ _ k4.2.1;have mvm:((a:Int)+(b:Int)) / 2=(mid:Int):=by rw[hmid];omega
 obtain⟨p1,hp1⟩:∃ p1,Hid (p1+1=mid+m):=⟨mid+m-1,by show mid+m-1+1=mid+m;omega⟩;have hp1':=hp1.out;have env:(mid:Int)+(m:Int)=(p1:Int)+1:=by omega
 have hwp1:IntKind.i64.wrap (p1:Int)=(p1:Int):=IntWalk.i64_in _ (by omega);clear hL hR h1 h2 hmid;replace hN:=Hd hN;replace hcmp:=Hd hcmp;replace hw:=Hd hw;replace ha:=Hd ha;replace hn:=Hd hn;replace h:=Hd h;replace sl:=Hd sl;replace sr:=Hd sr;replace hlt:=Hd hlt;replace IH:=Hd IH;rcases hcase with⟨q1,q2,q3⟩ | ⟨q1,q2,q3⟩
 ·have t0:¬(mid:Int)<(m:Int):=by omega
  have q2':=q2.symm;have q3':=q3.symm;clear q2 q3;subst q2' q3';clear q1 hp1';go_enter Tryz.func90,Tryz.ntmps90;go_wp2_with (fail);clear t0;go_loopw [20,21] (fun iv jv wr=>∃ (s r:Nat),iv=.int .i64 s/\jv=.int .i64 r/\Hid (SymR (Zx cf) L R a mid a m s r)/\Hid (Ext w wr)) (fun iv jv _=>(intOf jv).toNat-(intOf iv).toNat)
  case atStart=>exact⟨_,_,rfl,rfl,HS0,Ext.rf _⟩
  case round =>
   obtain⟨wo,rfl⟩:=Wq wr;obtain⟨s,r,rfl,rfl,HB,Y⟩:=hrel;clear HS0 mvm env;obtain⟨g1,g2,g3,_,_⟩:=HB.out
   by_cases hsr:s<r
   ·obtain⟨cc,hcc⟩:∃ cc,Hid (cc=(s+r) / 2):=⟨_,rfl⟩
    have c1:s<=cc:=by rw[hcc.out];omega
    have c2:cc<r:=by rw[hcc.out];omega
    have mvc:((s:Int)+(r:Int)) / 2=(cc:Int):=by rw[hcc.out];omega
    obtain⟨hL,hR⟩:=HLR.out;obtain⟨pc,hpc⟩:∃ pc,Hid (pc=m+(mid-1-cc)):=⟨_,rfl⟩;have hpc':=hpc.out;have hp1':=hp1.out;have hcs:=HC;unfold V6 at hcs;have epc:(p1:Int)-(cc:Int)=(pc:Int):=by omega
    have pcb:pc<N:=by omega
    have ccN:cc<N:=by omega
    have ex:L[cc-a]?=some (L[cc-a]'(by omega)):=List.getElem?_eq_getElem _;have ey:R[mid-1-cc]?=some (R[mid-1-cc]'(by omega)):=List.getElem?_eq_getElem _;generalize L[cc-a]'(by omega)=x at ex;generalize R[mid-1-cc]'(by omega)=y at ey;have hxn:=hn.out x (List.mem_append_left _ (List.mem_of_getElem? ex));have hyn:=hn.out y (List.mem_append_right _ (List.mem_of_getElem? ey));have cx:CellR wo base g (cc) x:=(h.out.ext Y.out).at (P:=P) (j:=cc-a) (by rw[List.getElem?_append_left (by omega)];exact ex) (by have:=ha.out;omega);have cy:CellR wo base g (pc) y:=(h.out.ext Y.out).at (P:=P) (j:=L.length+(mid-1-cc)) (by rw[List.getElem?_append_right (by omega),Nat.add_sub_cancel_left,List.getElem?_append_left (by omega)];exact ey) (by have:=ha.out;omega);have st1:=Hd (HB.out.left c1 c2 ex ey);have st2:=Hd (HB.out.right c1 c2 ex ey);have hg:g<wo.heap.size:=(h.out.ext Y.out).lt.2;have cc0:(0:Int)<=(cc:Int):=by omega
    have ccN2:(cc:Int)<(N:Int):=by omega
    have pc0:(0:Int)<=(pc:Int):=by omega
    have pcN2:(pc:Int)<(N:Int):=by omega
    have wpc:IntKind.i64.wrap ((p1:Int)-(cc:Int))=(pc:Int):=by rw[epc];exact IntWalk.i64_in _ (by omega)
    have wpc2:IntKind.i64.wrap (pc:Int)=(pc:Int):=IntWalk.i64_in _ (by omega);obtain⟨cx,cx'⟩:=cx;obtain⟨cy,cy'⟩:=cy;have hM:=Hd (Mod.of_ext (S:=fun k=>k=g) Y.out);have hc:∀ W,Ext wo W->Calls Tryz.prog f (#[base.v y,base.v x]++lb) W fun e W'=>e=.returned (.int .i64 (cf y x))/\Ext W W':=fun W hW=>hcmp.out _ y x hyn hxn (hM.out.ext hW)
    clear ex ey hpc' hp1' hL hR hcs
    by_cases hlv:cf y x<0
    ·replace st2:=Hd (st2.out (decide_eq_true hlv))
     have hlb:decide (cf y x<0)=true:=decide_eq_true hlv;clear st1;go_wp2_with (fail);go_region_held3 (fun W=>W.cell? ⟨g,cc*2,none⟩=some (.int .i64 (base.kd x))/\W.cell? ⟨g,cc*2+1,none⟩=some (.slice (base.ad x) (base.ln x) (base.cp x))/\W.cell? ⟨g,pc*2,none⟩=some (.int .i64 (base.kd y))/\W.cell? ⟨g,pc*2+1,none⟩=some (.slice (base.ad y) (base.ln y) (base.cp y))) (go_keep)
      (first | (go_at_fn f;refine(hc _ XI).mono ?_;rintro e w2 ⟨rfl,x2⟩;have y2:=Ext.tr (a:=wo) XI x2;have s1:=Zd y2 hg cx;have s2:=Zd y2 hg cx';have s3:=Zd y2 hg cy;have s4:=Zd y2 hg cy'))
     go_wp2_with (fail);go_roundw
     case rel=>exact⟨s,cc,rfl,rfl,st2.out,Y.out.tr (by assumption)⟩
     case measure=>simp[intOf]<;>omega
    ·replace st1:=Hd (st1.out (decide_eq_false hlv))
     have hlb:decide (cf y x<0)=false:=decide_eq_false hlv;clear st2;go_wp2_with (fail);go_region_held3 (fun W=>W.cell? ⟨g,cc*2,none⟩=some (.int .i64 (base.kd x))/\W.cell? ⟨g,cc*2+1,none⟩=some (.slice (base.ad x) (base.ln x) (base.cp x))/\W.cell? ⟨g,pc*2,none⟩=some (.int .i64 (base.kd y))/\W.cell? ⟨g,pc*2+1,none⟩=some (.slice (base.ad y) (base.ln y) (base.cp y))) (go_keep)
      (first | (go_at_fn f;refine(hc _ XI).mono ?_;rintro e w2 ⟨rfl,x2⟩;have y2:=Ext.tr (a:=wo) XI x2;have s1:=Zd y2 hg cx;have s2:=Zd y2 hg cx';have s3:=Zd y2 hg cy;have s4:=Zd y2 hg cy'))
     go_wp2_with (fail);go_roundw
     case rel=>exact⟨cc+1,r,by go_num,rfl,st1.out,Y.out.tr (by assumption)⟩
     case measure=>simp[intOf]<;>omega
   ·obtain rfl:s=r:=by omega
    obtain⟨hL,hR⟩:=HLR.out;have hN':=hN.out;have hA:=Zak hw.out sl.out sr.out hlt.out hL hR HB.out HC k3.2.2.1 k4.1;obtain⟨en,hen⟩:∃ en,Hid (en=m+(mid-s)):=⟨_,rfl⟩;have hen':=hen.out;have hp1':=hp1.out;have een:(p1:Int)+1-(s:Int)=(en:Int):=by omega
    have eL:L=L.take (s-a)++L.drop (s-a):=(List.take_append_drop _ _).symm;have hcs:=HC;unfold V6 at hcs;have hmr:mid-s<=R.length:=by omega
    have eR:R=R.take (mid-s)++R.drop (mid-s):=(List.take_append_drop _ _).symm;have l1:(L.take (s-a)).length=s-a:=by rw[List.length_take];omega
    have l2:(L.drop (s-a)).length=m-s:=by rw[List.length_drop];omega
    have l3:(R.take (mid-s)).length=mid-s:=by rw[List.length_take];omega
    have l4:(R.drop (mid-s)).length=b-en:=by rw[List.length_drop];omega
    generalize L.take (s-a)=L1 at *;generalize L.drop (s-a)=L2 at *;generalize R.take (mid-s)=R1 at *;generalize R.drop (mid-s)=R2 at *;have hO:=h.out.ext Y.out;have sl':=sl.out;have sr':=sr.out;have hlt':=hlt.out;have hn':=hn.out;rw[eL] at sl' hlt' hO hN' hn';rw[eR] at sr' hlt' hO hN' hn';simp only[List.append_assoc] at hO hN';have sl1:=Zs.1 sl';have sr1:=Zs.1 sr';have ap1:=Apart.app_left.1 hlt';have ROT:=J4 (m:=m) (en:=en) (s:=s) (.func (.func f) #[] lb) hO (Mod.of_ext Y.out) hN' ha.out (by omega) (by omega) (by omega) hl;have FI:=IH.out.first (s:=s) (mid:=mid) (by omega) hN' ha.out (by omega) (by omega) sl1.1 sr1.1 (Apart.app_right.1 ap1.1).1 (fun x hx=>hn' x (by rcases List.mem_append.1 hx with h9 | h9<;>simp[h9]));have SE:=IH.out.second (b:=b) (mid:=mid) (en:=en) (by omega) hN' ha.out (by omega) (by omega) (by omega) sl1.2.1 sr1.2.1 (Apart.app_right.1 ap1.2).2 (fun x hx=>hn' x (by rcases List.mem_append.1 hx with h9 | h9<;>simp[h9])) hA eL eR;replace ROT:=Hd ROT;replace FI:=Hd FI;replace SE:=Hd SE;have f1:s<=m:=by omega
    have f2:s<=mid:=by omega
    have f3:a<=s:=by omega
    have f4:en<=b:=by omega
    have e1:L1.length=s-a:=l1;clear hO hN' sl' sr' hlt' hn' sl1 sr1 ap1 hA eL eR hL hR hp1' hcs hmr HB e1;have hen2:en+s=m+mid:=by omega
    clear hen' hsr;replace l1:=Hd l1;replace l2:=Hd l2;replace l3:=Hd l3;replace l4:=Hd l4
    by_cases cA:s<m<;>by_cases cB:s<mid<;>by_cases cC:a<s<;>by_cases cD:en<b
    ·
     first
     | (exfalso;clear ROT FI SE;omega)
     | (have y1:(s:Int)<(m:Int):=by omega
        have y2:(m:Int)<(en:Int):=by omega
        have y3:(a:Int)<(s:Int):=by omega
        have y4:(s:Int)<(mid:Int):=by omega
        have y5:(mid:Int)<(en:Int):=by omega
        have y6:(en:Int)<(b:Int):=by omega
        clear cA cB cC cD hen2 hen;replace ROT:=Hd (ROT.out.1 (by rw[l2.out];omega) (by rw[l3.out];omega));replace FI:=Hd (fun(W:World) hT=>FI.out.1 W hT (by rw[l1.out];omega) (by rw[l3.out];omega));replace SE:=Hd (fun(W:World) hT=>SE.out.1 W hT (by rw[l2.out];omega) (by rw[l4.out];omega));go_wp2_with (fail);refine ROT.out.mono ?_;rintro e w1 ⟨rfl,T1⟩;replace T1:=Hd T1;go_wp2_with (fail);refine(FI.out w1 T1.out).mono ?_;rintro e w2 ⟨rfl,T2⟩;replace T2:=Hd T2;go_wp2_with (fail);refine(SE.out w2 T2.out).mono ?_;rintro e w3 HS3;obtain⟨M3,i3,rfl,o3,m3⟩:=HS3;have T3:Hid (Zz base g c (Zx cf) P (L++R) Q w (.returned (.tuple #[])) w3):=⟨M3,i3,rfl,o3,m3⟩;clear i3 o3 m3;go_wp2_with (fail);go_end0;exact T3.out)
    ·
     first
     | (exfalso;clear ROT FI SE;omega)
     | (have y1:(s:Int)<(m:Int):=by omega
        have y2:(m:Int)<(en:Int):=by omega
        have y3:(a:Int)<(s:Int):=by omega
        have y4:(s:Int)<(mid:Int):=by omega
        have y5:(mid:Int)<(en:Int):=by omega
        have y6:¬(en:Int)<(b:Int):=by omega
        clear cA cB cC cD hen2 hen;replace ROT:=Hd (ROT.out.1 (by rw[l2.out];omega) (by rw[l3.out];omega));replace FI:=Hd (fun(W:World) hT=>FI.out.1 W hT (by rw[l1.out];omega) (by rw[l3.out];omega));replace SE:=Hd (fun(W:World) hT=>SE.out.2 W hT (by rw[l2.out,l4.out];omega));go_wp2_with (fail);refine ROT.out.mono ?_;rintro e w1 ⟨rfl,T1⟩;replace T1:=Hd T1;go_wp2_with (fail);refine(FI.out w1 T1.out).mono ?_;rintro e w2 ⟨rfl,T2⟩;replace T2:=Hd T2;go_wp2_with (fail);have T3:=Hd (SE.out w2 T2.out);go_end0;exact T3.out)
    ·
     first
     | (exfalso;clear ROT FI SE;omega)
     | (have y1:(s:Int)<(m:Int):=by omega
        have y2:(m:Int)<(en:Int):=by omega
        have y3:¬(a:Int)<(s:Int):=by omega
        have y4:(s:Int)<(mid:Int):=by omega
        have y5:(mid:Int)<(en:Int):=by omega
        have y6:(en:Int)<(b:Int):=by omega
        clear cA cB cC cD hen2 hen;replace ROT:=Hd (ROT.out.1 (by rw[l2.out];omega) (by rw[l3.out];omega));replace FI:=Hd (fun(W:World) hT=>FI.out.2 W hT (by rw[l1.out,l3.out];omega));replace SE:=Hd (fun(W:World) hT=>SE.out.1 W hT (by rw[l2.out];omega) (by rw[l4.out];omega));go_wp2_with (fail);refine ROT.out.mono ?_;rintro e w1 ⟨rfl,T1⟩;replace T1:=Hd T1;go_wp2_with (fail);have T2:=Hd (FI.out w1 T1.out);refine(SE.out w1 T2.out).mono ?_;rintro e w3 HS3;obtain⟨M3,i3,rfl,o3,m3⟩:=HS3;have T3:Hid (Zz base g c (Zx cf) P (L++R) Q w (.returned (.tuple #[])) w3):=⟨M3,i3,rfl,o3,m3⟩;clear i3 o3 m3;go_wp2_with (fail);go_end0;exact T3.out)
    ·
     first
     | (exfalso;clear ROT FI SE;omega)
     | (have y1:(s:Int)<(m:Int):=by omega
        have y2:(m:Int)<(en:Int):=by omega
        have y3:¬(a:Int)<(s:Int):=by omega
        have y4:(s:Int)<(mid:Int):=by omega
        have y5:(mid:Int)<(en:Int):=by omega
        have y6:¬(en:Int)<(b:Int):=by omega
        clear cA cB cC cD hen2 hen;replace ROT:=Hd (ROT.out.1 (by rw[l2.out];omega) (by rw[l3.out];omega));replace FI:=Hd (fun(W:World) hT=>FI.out.2 W hT (by rw[l1.out,l3.out];omega));replace SE:=Hd (fun(W:World) hT=>SE.out.2 W hT (by rw[l2.out,l4.out];omega));go_wp2_with (fail);refine ROT.out.mono ?_;rintro e w1 ⟨rfl,T1⟩;replace T1:=Hd T1;go_wp2_with (fail);have T2:=Hd (FI.out w1 T1.out);have T3:=Hd (SE.out w1 T2.out);go_end0;exact T3.out)
    ·
     first
     | (exfalso;clear ROT FI SE;omega)
     | (have y1:(s:Int)<(m:Int):=by omega
        have y2:¬(m:Int)<(en:Int):=by omega
        have y3:(a:Int)<(s:Int):=by omega
        have y4:¬(s:Int)<(mid:Int):=by omega
        have y5:(mid:Int)<(en:Int):=by omega
        have y6:(en:Int)<(b:Int):=by omega
        clear cA cB cC cD hen2 hen;have T1:=Hd (ROT.out.2 (by rw[l2.out,l3.out];omega));replace FI:=Hd (fun(W:World) hT=>FI.out.2 W hT (by rw[l1.out,l3.out];omega));replace SE:=Hd (fun(W:World) hT=>SE.out.1 W hT (by rw[l2.out];omega) (by rw[l4.out];omega));go_wp2_with (fail);have T2:=Hd (FI.out wo T1.out);refine(SE.out wo T2.out).mono ?_;rintro e w3 HS3;obtain⟨M3,i3,rfl,o3,m3⟩:=HS3;have T3:Hid (Zz base g c (Zx cf) P (L++R) Q w (.returned (.tuple #[])) w3):=⟨M3,i3,rfl,o3,m3⟩;clear i3 o3 m3;go_wp2_with (fail);go_end0;exact T3.out)
    ·
     first
     | (exfalso;clear ROT FI SE;omega)
     | (have y1:(s:Int)<(m:Int):=by omega
        have y2:¬(m:Int)<(en:Int):=by omega
        have y3:(a:Int)<(s:Int):=by omega
        have y4:¬(s:Int)<(mid:Int):=by omega
        have y5:(mid:Int)<(en:Int):=by omega
        have y6:¬(en:Int)<(b:Int):=by omega
        clear cA cB cC cD hen2 hen;have T1:=Hd (ROT.out.2 (by rw[l2.out,l3.out];omega));replace FI:=Hd (fun(W:World) hT=>FI.out.2 W hT (by rw[l1.out,l3.out];omega));replace SE:=Hd (fun(W:World) hT=>SE.out.2 W hT (by rw[l2.out,l4.out];omega));go_wp2_with (fail);have T2:=Hd (FI.out wo T1.out);have T3:=Hd (SE.out wo T2.out);go_end0;exact T3.out)
    ·
     first
     | (exfalso;clear ROT FI SE;omega)
     | (have y1:(s:Int)<(m:Int):=by omega
        have y2:¬(m:Int)<(en:Int):=by omega
        have y3:¬(a:Int)<(s:Int):=by omega
        have y4:¬(s:Int)<(mid:Int):=by omega
        have y5:(mid:Int)<(en:Int):=by omega
        have y6:(en:Int)<(b:Int):=by omega
        clear cA cB cC cD hen2 hen;have T1:=Hd (ROT.out.2 (by rw[l2.out,l3.out];omega));replace FI:=Hd (fun(W:World) hT=>FI.out.2 W hT (by rw[l1.out,l3.out];omega));replace SE:=Hd (fun(W:World) hT=>SE.out.1 W hT (by rw[l2.out];omega) (by rw[l4.out];omega));go_wp2_with (fail);have T2:=Hd (FI.out wo T1.out);refine(SE.out wo T2.out).mono ?_;rintro e w3 HS3;obtain⟨M3,i3,rfl,o3,m3⟩:=HS3;have T3:Hid (Zz base g c (Zx cf) P (L++R) Q w (.returned (.tuple #[])) w3):=⟨M3,i3,rfl,o3,m3⟩;clear i3 o3 m3;go_wp2_with (fail);go_end0;exact T3.out)
    ·
     first
     | (exfalso;clear ROT FI SE;omega)
     | (have y1:(s:Int)<(m:Int):=by omega
        have y2:¬(m:Int)<(en:Int):=by omega
        have y3:¬(a:Int)<(s:Int):=by omega
        have y4:¬(s:Int)<(mid:Int):=by omega
        have y5:(mid:Int)<(en:Int):=by omega
        have y6:¬(en:Int)<(b:Int):=by omega
        clear cA cB cC cD hen2 hen;have T1:=Hd (ROT.out.2 (by rw[l2.out,l3.out];omega));replace FI:=Hd (fun(W:World) hT=>FI.out.2 W hT (by rw[l1.out,l3.out];omega));replace SE:=Hd (fun(W:World) hT=>SE.out.2 W hT (by rw[l2.out,l4.out];omega));go_wp2_with (fail);have T2:=Hd (FI.out wo T1.out);have T3:=Hd (SE.out wo T2.out);go_end0;exact T3.out)
    ·
     first
     | (exfalso;clear ROT FI SE;omega)
     | (have y1:¬(s:Int)<(m:Int):=by omega
        have y2:(m:Int)<(en:Int):=by omega
        have y3:(a:Int)<(s:Int):=by omega
        have y4:(s:Int)<(mid:Int):=by omega
        have y5:¬(mid:Int)<(en:Int):=by omega
        have y6:(en:Int)<(b:Int):=by omega
        clear cA cB cC cD hen2 hen;have T1:=Hd (ROT.out.2 (by rw[l2.out,l3.out];omega));replace FI:=Hd (fun(W:World) hT=>FI.out.1 W hT (by rw[l1.out];omega) (by rw[l3.out];omega));replace SE:=Hd (fun(W:World) hT=>SE.out.2 W hT (by rw[l2.out,l4.out];omega));go_wp2_with (fail);refine(FI.out wo T1.out).mono ?_;rintro e w2 ⟨rfl,T2⟩;replace T2:=Hd T2;go_wp2_with (fail);have T3:=Hd (SE.out w2 T2.out);go_end0;exact T3.out)
    ·
     first
     | (exfalso;clear ROT FI SE;omega)
     | (have y1:¬(s:Int)<(m:Int):=by omega
        have y2:(m:Int)<(en:Int):=by omega
        have y3:(a:Int)<(s:Int):=by omega
        have y4:(s:Int)<(mid:Int):=by omega
        have y5:¬(mid:Int)<(en:Int):=by omega
        have y6:¬(en:Int)<(b:Int):=by omega
        clear cA cB cC cD hen2 hen;have T1:=Hd (ROT.out.2 (by rw[l2.out,l3.out];omega));replace FI:=Hd (fun(W:World) hT=>FI.out.1 W hT (by rw[l1.out];omega) (by rw[l3.out];omega));replace SE:=Hd (fun(W:World) hT=>SE.out.2 W hT (by rw[l2.out,l4.out];omega));go_wp2_with (fail);refine(FI.out wo T1.out).mono ?_;rintro e w2 ⟨rfl,T2⟩;replace T2:=Hd T2;go_wp2_with (fail);have T3:=Hd (SE.out w2 T2.out);go_end0;exact T3.out)
    ·
     first
     | (exfalso;clear ROT FI SE;omega)
     | (have y1:¬(s:Int)<(m:Int):=by omega
        have y2:(m:Int)<(en:Int):=by omega
        have y3:¬(a:Int)<(s:Int):=by omega
        have y4:(s:Int)<(mid:Int):=by omega
        have y5:¬(mid:Int)<(en:Int):=by omega
        have y6:(en:Int)<(b:Int):=by omega
        clear cA cB cC cD hen2 hen;have T1:=Hd (ROT.out.2 (by rw[l2.out,l3.out];omega));replace FI:=Hd (fun(W:World) hT=>FI.out.2 W hT (by rw[l1.out,l3.out];omega));replace SE:=Hd (fun(W:World) hT=>SE.out.2 W hT (by rw[l2.out,l4.out];omega));go_wp2_with (fail);have T2:=Hd (FI.out wo T1.out);have T3:=Hd (SE.out wo T2.out);go_end0;exact T3.out)
    ·
     first
     | (exfalso;clear ROT FI SE;omega)
     | (have y1:¬(s:Int)<(m:Int):=by omega
        have y2:(m:Int)<(en:Int):=by omega
        have y3:¬(a:Int)<(s:Int):=by omega
        have y4:(s:Int)<(mid:Int):=by omega
        have y5:¬(mid:Int)<(en:Int):=by omega
        have y6:¬(en:Int)<(b:Int):=by omega
        clear cA cB cC cD hen2 hen;have T1:=Hd (ROT.out.2 (by rw[l2.out,l3.out];omega));replace FI:=Hd (fun(W:World) hT=>FI.out.2 W hT (by rw[l1.out,l3.out];omega));replace SE:=Hd (fun(W:World) hT=>SE.out.2 W hT (by rw[l2.out,l4.out];omega));go_wp2_with (fail);have T2:=Hd (FI.out wo T1.out);have T3:=Hd (SE.out wo T2.out);go_end0;exact T3.out)
    ·
     first
     | (exfalso;clear ROT FI SE;omega)
     | (have y1:¬(s:Int)<(m:Int):=by omega
        have y2:¬(m:Int)<(en:Int):=by omega
        have y3:(a:Int)<(s:Int):=by omega
        have y4:¬(s:Int)<(mid:Int):=by omega
        have y5:¬(mid:Int)<(en:Int):=by omega
        have y6:(en:Int)<(b:Int):=by omega
        clear cA cB cC cD hen2 hen;have T1:=Hd (ROT.out.2 (by rw[l2.out,l3.out];omega));replace FI:=Hd (fun(W:World) hT=>FI.out.2 W hT (by rw[l1.out,l3.out];omega));replace SE:=Hd (fun(W:World) hT=>SE.out.2 W hT (by rw[l2.out,l4.out];omega));go_wp2_with (fail);have T2:=Hd (FI.out wo T1.out);have T3:=Hd (SE.out wo T2.out);go_end0;exact T3.out)
    ·
     first
     | (exfalso;clear ROT FI SE;omega)
     | (have y1:¬(s:Int)<(m:Int):=by omega
        have y2:¬(m:Int)<(en:Int):=by omega
        have y3:(a:Int)<(s:Int):=by omega
        have y4:¬(s:Int)<(mid:Int):=by omega
        have y5:¬(mid:Int)<(en:Int):=by omega
        have y6:¬(en:Int)<(b:Int):=by omega
        clear cA cB cC cD hen2 hen;have T1:=Hd (ROT.out.2 (by rw[l2.out,l3.out];omega));replace FI:=Hd (fun(W:World) hT=>FI.out.2 W hT (by rw[l1.out,l3.out];omega));replace SE:=Hd (fun(W:World) hT=>SE.out.2 W hT (by rw[l2.out,l4.out];omega));go_wp2_with (fail);have T2:=Hd (FI.out wo T1.out);have T3:=Hd (SE.out wo T2.out);go_end0;exact T3.out)
    ·
     first
     | (exfalso;clear ROT FI SE;omega)
     | (have y1:¬(s:Int)<(m:Int):=by omega
        have y2:¬(m:Int)<(en:Int):=by omega
        have y3:¬(a:Int)<(s:Int):=by omega
        have y4:¬(s:Int)<(mid:Int):=by omega
        have y5:¬(mid:Int)<(en:Int):=by omega
        have y6:(en:Int)<(b:Int):=by omega
        clear cA cB cC cD hen2 hen;have T1:=Hd (ROT.out.2 (by rw[l2.out,l3.out];omega));replace FI:=Hd (fun(W:World) hT=>FI.out.2 W hT (by rw[l1.out,l3.out];omega));replace SE:=Hd (fun(W:World) hT=>SE.out.2 W hT (by rw[l2.out,l4.out];omega));go_wp2_with (fail);have T2:=Hd (FI.out wo T1.out);have T3:=Hd (SE.out wo T2.out);go_end0;exact T3.out)
    ·
     first
     | (exfalso;clear ROT FI SE;omega)
     | (have y1:¬(s:Int)<(m:Int):=by omega
        have y2:¬(m:Int)<(en:Int):=by omega
        have y3:¬(a:Int)<(s:Int):=by omega
        have y4:¬(s:Int)<(mid:Int):=by omega
        have y5:¬(mid:Int)<(en:Int):=by omega
        have y6:¬(en:Int)<(b:Int):=by omega
        clear cA cB cC cD hen2 hen;have T1:=Hd (ROT.out.2 (by rw[l2.out,l3.out];omega));replace FI:=Hd (fun(W:World) hT=>FI.out.2 W hT (by rw[l1.out,l3.out];omega));replace SE:=Hd (fun(W:World) hT=>SE.out.2 W hT (by rw[l2.out,l4.out];omega));go_wp2_with (fail);have T2:=Hd (FI.out wo T1.out);have T3:=Hd (SE.out wo T2.out);go_end0;exact T3.out)
 ·have t0:(mid:Int)<(m:Int):=by omega
  have elo:(p1:Int)+1-(b:Int)=(lo:Int):=by omega
  have q3':=q3.symm;clear q3;subst q3';clear q1 q2 hp1';go_enter Tryz.func90,Tryz.ntmps90;go_wp2_with (fail);clear t0 elo;go_loopw [20,21] (fun iv jv wr=>∃ (s r:Nat),iv=.int .i64 s/\jv=.int .i64 r/\Hid (SymR (Zx cf) L R a mid lo mid s r)/\Hid (Ext w wr)) (fun iv jv _=>(intOf jv).toNat-(intOf iv).toNat)
  case atStart=>exact⟨_,_,rfl,rfl,HS0,Ext.rf _⟩
  case round =>
   obtain⟨wo,rfl⟩:=Wq wr;obtain⟨s,r,rfl,rfl,HB,Y⟩:=hrel;clear HS0 mvm env;obtain⟨g1,g2,g3,_,_⟩:=HB.out
   by_cases hsr:s<r
   ·obtain⟨cc,hcc⟩:∃ cc,Hid (cc=(s+r) / 2):=⟨_,rfl⟩
    have c1:s<=cc:=by rw[hcc.out];omega
    have c2:cc<r:=by rw[hcc.out];omega
    have mvc:((s:Int)+(r:Int)) / 2=(cc:Int):=by rw[hcc.out];omega
    obtain⟨hL,hR⟩:=HLR.out;obtain⟨pc,hpc⟩:∃ pc,Hid (pc=m+(mid-1-cc)):=⟨_,rfl⟩;have hpc':=hpc.out;have hp1':=hp1.out;have hcs:=HC;unfold V6 at hcs;have epc:(p1:Int)-(cc:Int)=(pc:Int):=by omega
    have pcb:pc<N:=by omega
    have ccN:cc<N:=by omega
    have ex:L[cc-a]?=some (L[cc-a]'(by omega)):=List.getElem?_eq_getElem _;have ey:R[mid-1-cc]?=some (R[mid-1-cc]'(by omega)):=List.getElem?_eq_getElem _;generalize L[cc-a]'(by omega)=x at ex;generalize R[mid-1-cc]'(by omega)=y at ey;have hxn:=hn.out x (List.mem_append_left _ (List.mem_of_getElem? ex));have hyn:=hn.out y (List.mem_append_right _ (List.mem_of_getElem? ey));have cx:CellR wo base g (cc) x:=(h.out.ext Y.out).at (P:=P) (j:=cc-a) (by rw[List.getElem?_append_left (by omega)];exact ex) (by have:=ha.out;omega);have cy:CellR wo base g (pc) y:=(h.out.ext Y.out).at (P:=P) (j:=L.length+(mid-1-cc)) (by rw[List.getElem?_append_right (by omega),Nat.add_sub_cancel_left,List.getElem?_append_left (by omega)];exact ey) (by have:=ha.out;omega);have st1:=Hd (HB.out.left c1 c2 ex ey);have st2:=Hd (HB.out.right c1 c2 ex ey);have hg:g<wo.heap.size:=(h.out.ext Y.out).lt.2;have cc0:(0:Int)<=(cc:Int):=by omega
    have ccN2:(cc:Int)<(N:Int):=by omega
    have pc0:(0:Int)<=(pc:Int):=by omega
    have pcN2:(pc:Int)<(N:Int):=by omega
    have wpc:IntKind.i64.wrap ((p1:Int)-(cc:Int))=(pc:Int):=by rw[epc];exact IntWalk.i64_in _ (by omega)
    have wpc2:IntKind.i64.wrap (pc:Int)=(pc:Int):=IntWalk.i64_in _ (by omega);obtain⟨cx,cx'⟩:=cx;obtain⟨cy,cy'⟩:=cy;have hM:=Hd (Mod.of_ext (S:=fun k=>k=g) Y.out);have hc:∀ W,Ext wo W->Calls Tryz.prog f (#[base.v y,base.v x]++lb) W fun e W'=>e=.returned (.int .i64 (cf y x))/\Ext W W':=fun W hW=>hcmp.out _ y x hyn hxn (hM.out.ext hW)
    clear ex ey hpc' hp1' hL hR hcs
    by_cases hlv:cf y x<0
    ·replace st2:=Hd (st2.out (decide_eq_true hlv))
     have hlb:decide (cf y x<0)=true:=decide_eq_true hlv;clear st1;go_wp2_with (fail);go_region_held3 (fun W=>W.cell? ⟨g,cc*2,none⟩=some (.int .i64 (base.kd x))/\W.cell? ⟨g,cc*2+1,none⟩=some (.slice (base.ad x) (base.ln x) (base.cp x))/\W.cell? ⟨g,pc*2,none⟩=some (.int .i64 (base.kd y))/\W.cell? ⟨g,pc*2+1,none⟩=some (.slice (base.ad y) (base.ln y) (base.cp y))) (go_keep)
      (first | (go_at_fn f;refine(hc _ XI).mono ?_;rintro e w2 ⟨rfl,x2⟩;have y2:=Ext.tr (a:=wo) XI x2;have s1:=Zd y2 hg cx;have s2:=Zd y2 hg cx';have s3:=Zd y2 hg cy;have s4:=Zd y2 hg cy'))
     go_wp2_with (fail);go_roundw
     case rel=>exact⟨s,cc,rfl,rfl,st2.out,Y.out.tr (by assumption)⟩
     case measure=>simp[intOf]<;>omega
    ·replace st1:=Hd (st1.out (decide_eq_false hlv))
     have hlb:decide (cf y x<0)=false:=decide_eq_false hlv;clear st2;go_wp2_with (fail);go_region_held3 (fun W=>W.cell? ⟨g,cc*2,none⟩=some (.int .i64 (base.kd x))/\W.cell? ⟨g,cc*2+1,none⟩=some (.slice (base.ad x) (base.ln x) (base.cp x))/\W.cell? ⟨g,pc*2,none⟩=some (.int .i64 (base.kd y))/\W.cell? ⟨g,pc*2+1,none⟩=some (.slice (base.ad y) (base.ln y) (base.cp y))) (go_keep)
      (first | (go_at_fn f;refine(hc _ XI).mono ?_;rintro e w2 ⟨rfl,x2⟩;have y2:=Ext.tr (a:=wo) XI x2;have s1:=Zd y2 hg cx;have s2:=Zd y2 hg cx';have s3:=Zd y2 hg cy;have s4:=Zd y2 hg cy'))
     go_wp2_with (fail);go_roundw
     case rel=>exact⟨cc+1,r,by go_num,rfl,st1.out,Y.out.tr (by assumption)⟩
     case measure=>simp[intOf]<;>omega
   ·obtain rfl:s=r:=by omega
    obtain⟨hL,hR⟩:=HLR.out;have hN':=hN.out;have hA:=Zak hw.out sl.out sr.out hlt.out hL hR HB.out HC k3.2.2.1 k4.1;obtain⟨en,hen⟩:∃ en,Hid (en=m+(mid-s)):=⟨_,rfl⟩;have hen':=hen.out;have hp1':=hp1.out;have een:(p1:Int)+1-(s:Int)=(en:Int):=by omega
    have eL:L=L.take (s-a)++L.drop (s-a):=(List.take_append_drop _ _).symm;have hcs:=HC;unfold V6 at hcs;have hmr:mid-s<=R.length:=by omega
    have eR:R=R.take (mid-s)++R.drop (mid-s):=(List.take_append_drop _ _).symm;have l1:(L.take (s-a)).length=s-a:=by rw[List.length_take];omega
    have l2:(L.drop (s-a)).length=m-s:=by rw[List.length_drop];omega
    have l3:(R.take (mid-s)).length=mid-s:=by rw[List.length_take];omega
    have l4:(R.drop (mid-s)).length=b-en:=by rw[List.length_drop];omega
    generalize L.take (s-a)=L1 at *;generalize L.drop (s-a)=L2 at *;generalize R.take (mid-s)=R1 at *;generalize R.drop (mid-s)=R2 at *;have hO:=h.out.ext Y.out;have sl':=sl.out;have sr':=sr.out;have hlt':=hlt.out;have hn':=hn.out;rw[eL] at sl' hlt' hO hN' hn';rw[eR] at sr' hlt' hO hN' hn';simp only[List.append_assoc] at hO hN';have sl1:=Zs.1 sl';have sr1:=Zs.1 sr';have ap1:=Apart.app_left.1 hlt';have ROT:=J4 (m:=m) (en:=en) (s:=s) (.func (.func f) #[] lb) hO (Mod.of_ext Y.out) hN' ha.out (by omega) (by omega) (by omega) hl;have FI:=IH.out.first (s:=s) (mid:=mid) (by omega) hN' ha.out (by omega) (by omega) sl1.1 sr1.1 (Apart.app_right.1 ap1.1).1 (fun x hx=>hn' x (by rcases List.mem_append.1 hx with h9 | h9<;>simp[h9]));have SE:=IH.out.second (b:=b) (mid:=mid) (en:=en) (by omega) hN' ha.out (by omega) (by omega) (by omega) sl1.2.1 sr1.2.1 (Apart.app_right.1 ap1.2).2 (fun x hx=>hn' x (by rcases List.mem_append.1 hx with h9 | h9<;>simp[h9])) hA eL eR;replace ROT:=Hd ROT;replace FI:=Hd FI;replace SE:=Hd SE;have f1:s<=m:=by omega
    have f2:s<=mid:=by omega
    have f3:a<=s:=by omega
    have f4:en<=b:=by omega
    have e1:L1.length=s-a:=l1;clear hO hN' sl' sr' hlt' hn' sl1 sr1 ap1 hA eL eR hL hR hp1' hcs hmr HB e1;have hen2:en+s=m+mid:=by omega
    clear hen' hsr;replace l1:=Hd l1;replace l2:=Hd l2;replace l3:=Hd l3;replace l4:=Hd l4
    by_cases cA:s<m<;>by_cases cB:s<mid<;>by_cases cC:a<s<;>by_cases cD:en<b
    ·
     first
     | (exfalso;clear ROT FI SE;omega)
     | (have y1:(s:Int)<(m:Int):=by omega
        have y2:(m:Int)<(en:Int):=by omega
        have y3:(a:Int)<(s:Int):=by omega
        have y4:(s:Int)<(mid:Int):=by omega
        have y5:(mid:Int)<(en:Int):=by omega
        have y6:(en:Int)<(b:Int):=by omega
        clear cA cB cC cD hen2 hen;replace ROT:=Hd (ROT.out.1 (by rw[l2.out];omega) (by rw[l3.out];omega));replace FI:=Hd (fun(W:World) hT=>FI.out.1 W hT (by rw[l1.out];omega) (by rw[l3.out];omega));replace SE:=Hd (fun(W:World) hT=>SE.out.1 W hT (by rw[l2.out];omega) (by rw[l4.out];omega));go_wp2_with (fail);refine ROT.out.mono ?_;rintro e w1 ⟨rfl,T1⟩;replace T1:=Hd T1;go_wp2_with (fail);refine(FI.out w1 T1.out).mono ?_;rintro e w2 ⟨rfl,T2⟩;replace T2:=Hd T2;go_wp2_with (fail);refine(SE.out w2 T2.out).mono ?_;rintro e w3 HS3;obtain⟨M3,i3,rfl,o3,m3⟩:=HS3;have T3:Hid (Zz base g c (Zx cf) P (L++R) Q w (.returned (.tuple #[])) w3):=⟨M3,i3,rfl,o3,m3⟩;clear i3 o3 m3;go_wp2_with (fail);go_end0;exact T3.out)
    ·
     first
     | (exfalso;clear ROT FI SE;omega)
     | (have y1:(s:Int)<(m:Int):=by omega
        have y2:(m:Int)<(en:Int):=by omega
        have y3:(a:Int)<(s:Int):=by omega
        have y4:(s:Int)<(mid:Int):=by omega
        have y5:(mid:Int)<(en:Int):=by omega
        have y6:¬(en:Int)<(b:Int):=by omega
        clear cA cB cC cD hen2 hen;replace ROT:=Hd (ROT.out.1 (by rw[l2.out];omega) (by rw[l3.out];omega));replace FI:=Hd (fun(W:World) hT=>FI.out.1 W hT (by rw[l1.out];omega) (by rw[l3.out];omega));replace SE:=Hd (fun(W:World) hT=>SE.out.2 W hT (by rw[l2.out,l4.out];omega));go_wp2_with (fail);refine ROT.out.mono ?_;rintro e w1 ⟨rfl,T1⟩;replace T1:=Hd T1;go_wp2_with (fail);refine(FI.out w1 T1.out).mono ?_;rintro e w2 ⟨rfl,T2⟩;replace T2:=Hd T2;go_wp2_with (fail);have T3:=Hd (SE.out w2 T2.out);go_end0;exact T3.out)
    ·
     first
     | (exfalso;clear ROT FI SE;omega)
     | (have y1:(s:Int)<(m:Int):=by omega
        have y2:(m:Int)<(en:Int):=by omega
        have y3:¬(a:Int)<(s:Int):=by omega
        have y4:(s:Int)<(mid:Int):=by omega
        have y5:(mid:Int)<(en:Int):=by omega
        have y6:(en:Int)<(b:Int):=by omega
        clear cA cB cC cD hen2 hen;replace ROT:=Hd (ROT.out.1 (by rw[l2.out];omega) (by rw[l3.out];omega));replace FI:=Hd (fun(W:World) hT=>FI.out.2 W hT (by rw[l1.out,l3.out];omega));replace SE:=Hd (fun(W:World) hT=>SE.out.1 W hT (by rw[l2.out];omega) (by rw[l4.out];omega));go_wp2_with (fail);refine ROT.out.mono ?_;rintro e w1 ⟨rfl,T1⟩;replace T1:=Hd T1;go_wp2_with (fail);have T2:=Hd (FI.out w1 T1.out);refine(SE.out w1 T2.out).mono ?_;rintro e w3 HS3;obtain⟨M3,i3,rfl,o3,m3⟩:=HS3;have T3:Hid (Zz base g c (Zx cf) P (L++R) Q w (.returned (.tuple #[])) w3):=⟨M3,i3,rfl,o3,m3⟩;clear i3 o3 m3;go_wp2_with (fail);go_end0;exact T3.out)
    ·
     first
     | (exfalso;clear ROT FI SE;omega)
     | (have y1:(s:Int)<(m:Int):=by omega
        have y2:(m:Int)<(en:Int):=by omega
        have y3:¬(a:Int)<(s:Int):=by omega
        have y4:(s:Int)<(mid:Int):=by omega
        have y5:(mid:Int)<(en:Int):=by omega
        have y6:¬(en:Int)<(b:Int):=by omega
        clear cA cB cC cD hen2 hen;replace ROT:=Hd (ROT.out.1 (by rw[l2.out];omega) (by rw[l3.out];omega));replace FI:=Hd (fun(W:World) hT=>FI.out.2 W hT (by rw[l1.out,l3.out];omega));replace SE:=Hd (fun(W:World) hT=>SE.out.2 W hT (by rw[l2.out,l4.out];omega));go_wp2_with (fail);refine ROT.out.mono ?_;rintro e w1 ⟨rfl,T1⟩;replace T1:=Hd T1;go_wp2_with (fail);have T2:=Hd (FI.out w1 T1.out);have T3:=Hd (SE.out w1 T2.out);go_end0;exact T3.out)
    ·
     first
     | (exfalso;clear ROT FI SE;omega)
     | (have y1:(s:Int)<(m:Int):=by omega
        have y2:¬(m:Int)<(en:Int):=by omega
        have y3:(a:Int)<(s:Int):=by omega
        have y4:¬(s:Int)<(mid:Int):=by omega
        have y5:(mid:Int)<(en:Int):=by omega
        have y6:(en:Int)<(b:Int):=by omega
        clear cA cB cC cD hen2 hen;have T1:=Hd (ROT.out.2 (by rw[l2.out,l3.out];omega));replace FI:=Hd (fun(W:World) hT=>FI.out.2 W hT (by rw[l1.out,l3.out];omega));replace SE:=Hd (fun(W:World) hT=>SE.out.1 W hT (by rw[l2.out];omega) (by rw[l4.out];omega));go_wp2_with (fail);have T2:=Hd (FI.out wo T1.out);refine(SE.out wo T2.out).mono ?_;rintro e w3 HS3;obtain⟨M3,i3,rfl,o3,m3⟩:=HS3;have T3:Hid (Zz base g c (Zx cf) P (L++R) Q w (.returned (.tuple #[])) w3):=⟨M3,i3,rfl,o3,m3⟩;clear i3 o3 m3;go_wp2_with (fail);go_end0;exact T3.out)
    ·
     first
     | (exfalso;clear ROT FI SE;omega)
     | (have y1:(s:Int)<(m:Int):=by omega
        have y2:¬(m:Int)<(en:Int):=by omega
        have y3:(a:Int)<(s:Int):=by omega
        have y4:¬(s:Int)<(mid:Int):=by omega
        have y5:(mid:Int)<(en:Int):=by omega
        have y6:¬(en:Int)<(b:Int):=by omega
        clear cA cB cC cD hen2 hen;have T1:=Hd (ROT.out.2 (by rw[l2.out,l3.out];omega));replace FI:=Hd (fun(W:World) hT=>FI.out.2 W hT (by rw[l1.out,l3.out];omega));replace SE:=Hd (fun(W:World) hT=>SE.out.2 W hT (by rw[l2.out,l4.out];omega));go_wp2_with (fail);have T2:=Hd (FI.out wo T1.out);have T3:=Hd (SE.out wo T2.out);go_end0;exact T3.out)
    ·
     first
     | (exfalso;clear ROT FI SE;omega)
     | (have y1:(s:Int)<(m:Int):=by omega
        have y2:¬(m:Int)<(en:Int):=by omega
        have y3:¬(a:Int)<(s:Int):=by omega
        have y4:¬(s:Int)<(mid:Int):=by omega
        have y5:(mid:Int)<(en:Int):=by omega
        have y6:(en:Int)<(b:Int):=by omega
        clear cA cB cC cD hen2 hen;have T1:=Hd (ROT.out.2 (by rw[l2.out,l3.out];omega));replace FI:=Hd (fun(W:World) hT=>FI.out.2 W hT (by rw[l1.out,l3.out];omega));replace SE:=Hd (fun(W:World) hT=>SE.out.1 W hT (by rw[l2.out];omega) (by rw[l4.out];omega));go_wp2_with (fail);have T2:=Hd (FI.out wo T1.out);refine(SE.out wo T2.out).mono ?_;rintro e w3 HS3;obtain⟨M3,i3,rfl,o3,m3⟩:=HS3;have T3:Hid (Zz base g c (Zx cf) P (L++R) Q w (.returned (.tuple #[])) w3):=⟨M3,i3,rfl,o3,m3⟩;clear i3 o3 m3;go_wp2_with (fail);go_end0;exact T3.out)
    ·
     first
     | (exfalso;clear ROT FI SE;omega)
     | (have y1:(s:Int)<(m:Int):=by omega
        have y2:¬(m:Int)<(en:Int):=by omega
        have y3:¬(a:Int)<(s:Int):=by omega
        have y4:¬(s:Int)<(mid:Int):=by omega
        have y5:(mid:Int)<(en:Int):=by omega
        have y6:¬(en:Int)<(b:Int):=by omega
        clear cA cB cC cD hen2 hen;have T1:=Hd (ROT.out.2 (by rw[l2.out,l3.out];omega));replace FI:=Hd (fun(W:World) hT=>FI.out.2 W hT (by rw[l1.out,l3.out];omega));replace SE:=Hd (fun(W:World) hT=>SE.out.2 W hT (by rw[l2.out,l4.out];omega));go_wp2_with (fail);have T2:=Hd (FI.out wo T1.out);have T3:=Hd (SE.out wo T2.out);go_end0;exact T3.out)
    ·
     first
     | (exfalso;clear ROT FI SE;omega)
     | (have y1:¬(s:Int)<(m:Int):=by omega
        have y2:(m:Int)<(en:Int):=by omega
        have y3:(a:Int)<(s:Int):=by omega
        have y4:(s:Int)<(mid:Int):=by omega
        have y5:¬(mid:Int)<(en:Int):=by omega
        have y6:(en:Int)<(b:Int):=by omega
        clear cA cB cC cD hen2 hen;have T1:=Hd (ROT.out.2 (by rw[l2.out,l3.out];omega));replace FI:=Hd (fun(W:World) hT=>FI.out.1 W hT (by rw[l1.out];omega) (by rw[l3.out];omega));replace SE:=Hd (fun(W:World) hT=>SE.out.2 W hT (by rw[l2.out,l4.out];omega));go_wp2_with (fail);refine(FI.out wo T1.out).mono ?_;rintro e w2 ⟨rfl,T2⟩;replace T2:=Hd T2;go_wp2_with (fail);have T3:=Hd (SE.out w2 T2.out);go_end0;exact T3.out)
    ·
     first
     | (exfalso;clear ROT FI SE;omega)
     | (have y1:¬(s:Int)<(m:Int):=by omega
        have y2:(m:Int)<(en:Int):=by omega
        have y3:(a:Int)<(s:Int):=by omega
        have y4:(s:Int)<(mid:Int):=by omega
        have y5:¬(mid:Int)<(en:Int):=by omega
        have y6:¬(en:Int)<(b:Int):=by omega
        clear cA cB cC cD hen2 hen;have T1:=Hd (ROT.out.2 (by rw[l2.out,l3.out];omega));replace FI:=Hd (fun(W:World) hT=>FI.out.1 W hT (by rw[l1.out];omega) (by rw[l3.out];omega));replace SE:=Hd (fun(W:World) hT=>SE.out.2 W hT (by rw[l2.out,l4.out];omega));go_wp2_with (fail);refine(FI.out wo T1.out).mono ?_;rintro e w2 ⟨rfl,T2⟩;replace T2:=Hd T2;go_wp2_with (fail);have T3:=Hd (SE.out w2 T2.out);go_end0;exact T3.out)
    ·
     first
     | (exfalso;clear ROT FI SE;omega)
     | (have y1:¬(s:Int)<(m:Int):=by omega
        have y2:(m:Int)<(en:Int):=by omega
        have y3:¬(a:Int)<(s:Int):=by omega
        have y4:(s:Int)<(mid:Int):=by omega
        have y5:¬(mid:Int)<(en:Int):=by omega
        have y6:(en:Int)<(b:Int):=by omega
        clear cA cB cC cD hen2 hen;have T1:=Hd (ROT.out.2 (by rw[l2.out,l3.out];omega));replace FI:=Hd (fun(W:World) hT=>FI.out.2 W hT (by rw[l1.out,l3.out];omega));replace SE:=Hd (fun(W:World) hT=>SE.out.2 W hT (by rw[l2.out,l4.out];omega));go_wp2_with (fail);have T2:=Hd (FI.out wo T1.out);have T3:=Hd (SE.out wo T2.out);go_end0;exact T3.out)
    ·
     first
     | (exfalso;clear ROT FI SE;omega)
     | (have y1:¬(s:Int)<(m:Int):=by omega
        have y2:(m:Int)<(en:Int):=by omega
        have y3:¬(a:Int)<(s:Int):=by omega
        have y4:(s:Int)<(mid:Int):=by omega
        have y5:¬(mid:Int)<(en:Int):=by omega
        have y6:¬(en:Int)<(b:Int):=by omega
        clear cA cB cC cD hen2 hen;have T1:=Hd (ROT.out.2 (by rw[l2.out,l3.out];omega));replace FI:=Hd (fun(W:World) hT=>FI.out.2 W hT (by rw[l1.out,l3.out];omega));replace SE:=Hd (fun(W:World) hT=>SE.out.2 W hT (by rw[l2.out,l4.out];omega));go_wp2_with (fail);have T2:=Hd (FI.out wo T1.out);have T3:=Hd (SE.out wo T2.out);go_end0;exact T3.out)
    ·
     first
     | (exfalso;clear ROT FI SE;omega)
     | (have y1:¬(s:Int)<(m:Int):=by omega
        have y2:¬(m:Int)<(en:Int):=by omega
        have y3:(a:Int)<(s:Int):=by omega
        have y4:¬(s:Int)<(mid:Int):=by omega
        have y5:¬(mid:Int)<(en:Int):=by omega
        have y6:(en:Int)<(b:Int):=by omega
        clear cA cB cC cD hen2 hen;have T1:=Hd (ROT.out.2 (by rw[l2.out,l3.out];omega));replace FI:=Hd (fun(W:World) hT=>FI.out.2 W hT (by rw[l1.out,l3.out];omega));replace SE:=Hd (fun(W:World) hT=>SE.out.2 W hT (by rw[l2.out,l4.out];omega));go_wp2_with (fail);have T2:=Hd (FI.out wo T1.out);have T3:=Hd (SE.out wo T2.out);go_end0;exact T3.out)
    ·
     first
     | (exfalso;clear ROT FI SE;omega)
     | (have y1:¬(s:Int)<(m:Int):=by omega
        have y2:¬(m:Int)<(en:Int):=by omega
        have y3:(a:Int)<(s:Int):=by omega
        have y4:¬(s:Int)<(mid:Int):=by omega
        have y5:¬(mid:Int)<(en:Int):=by omega
        have y6:¬(en:Int)<(b:Int):=by omega
        clear cA cB cC cD hen2 hen;have T1:=Hd (ROT.out.2 (by rw[l2.out,l3.out];omega));replace FI:=Hd (fun(W:World) hT=>FI.out.2 W hT (by rw[l1.out,l3.out];omega));replace SE:=Hd (fun(W:World) hT=>SE.out.2 W hT (by rw[l2.out,l4.out];omega));go_wp2_with (fail);have T2:=Hd (FI.out wo T1.out);have T3:=Hd (SE.out wo T2.out);go_end0;exact T3.out)
    ·
     first
     | (exfalso;clear ROT FI SE;omega)
     | (have y1:¬(s:Int)<(m:Int):=by omega
        have y2:¬(m:Int)<(en:Int):=by omega
        have y3:¬(a:Int)<(s:Int):=by omega
        have y4:¬(s:Int)<(mid:Int):=by omega
        have y5:¬(mid:Int)<(en:Int):=by omega
        have y6:(en:Int)<(b:Int):=by omega
        clear cA cB cC cD hen2 hen;have T1:=Hd (ROT.out.2 (by rw[l2.out,l3.out];omega));replace FI:=Hd (fun(W:World) hT=>FI.out.2 W hT (by rw[l1.out,l3.out];omega));replace SE:=Hd (fun(W:World) hT=>SE.out.2 W hT (by rw[l2.out,l4.out];omega));go_wp2_with (fail);have T2:=Hd (FI.out wo T1.out);have T3:=Hd (SE.out wo T2.out);go_end0;exact T3.out)
    ·
     first
     | (exfalso;clear ROT FI SE;omega)
     | (have y1:¬(s:Int)<(m:Int):=by omega
        have y2:¬(m:Int)<(en:Int):=by omega
        have y3:¬(a:Int)<(s:Int):=by omega
        have y4:¬(s:Int)<(mid:Int):=by omega
        have y5:¬(mid:Int)<(en:Int):=by omega
        have y6:¬(en:Int)<(b:Int):=by omega
        clear cA cB cC cD hen2 hen;have T1:=Hd (ROT.out.2 (by rw[l2.out,l3.out];omega));replace FI:=Hd (fun(W:World) hT=>FI.out.2 W hT (by rw[l1.out,l3.out];omega));replace SE:=Hd (fun(W:World) hT=>SE.out.2 W hT (by rw[l2.out,l4.out];omega));go_wp2_with (fail);have T2:=Hd (FI.out wo T1.out);have T3:=Hd (SE.out wo T2.out);go_end0;exact T3.out)
end
section
theorem JE (base:RB)(g c:Nat)(f:Nat)(lb:Array Value)(cf:Nat->Nat->Int)(nn N:Nat)(hw:Weak (Zx cf))(eg:∀ args w,(callFunc f args).run Tryz.prog w=.ok (.enter f args) w)(hl:N<=1000000000) : ∀ (d a m b:Nat) (P L R Q:List Nat) (w:World),b-a<=d->CmpOkRc base f lb cf nn g w ->
  OwNRc w base g c (P++(L++(R++Q)))->(P++(L++(R++Q))).length=N->P.length=a->a+L.length=m->m+R.length=b->0<L.length->0<R.length->Srt (Zx cf) L->Srt (Zx cf) R->Apart (· < ·) L R->(∀ x∈L++R,x<nn) ->
  Calls Tryz.prog 90 #[.slice (some ⟨g,0,none⟩) N c,.int .i64 a,.int .i64 m,.int .i64 b,.func (.func f) #[] lb] w (Zz base g c (Zx cf) P (L++R) Q w)
 | 0,a,m,b,P,L,R,Q,w=>fun hd _ _ _ _ h1 h2 h3 h4 _ _ _ _=>by exfalso;omega
 | d+1,a,m,b,P,L,R,Q,w=>fun hd hcmp h hN ha hL hR h1 h2 sl sr hlt hn=>by
  by_cases c1:L.length=1
  ·obtain⟨x,rfl⟩:=List.length_eq_one_iff.1 c1
   exact Zfo base g c f lb cf nn a m b N x P R Q w hw eg hcmp h hN ha (by simpa using hL) hR sr hlt (hn x (by simp)) (fun y hy=>hn y (by simp[hy])) hl
  ·by_cases c2:R.length=1
   ·obtain⟨y,rfl⟩:=List.length_eq_one_iff.1 c2
    exact Zeh base g c f lb cf nn a m b N y P L Q w hw eg hcmp h hN ha hL (by simpa using hR) (by omega) sl hlt (hn y (by simp)) (fun x hx=>hn x (by simp[hx])) hl
   ·have IH:SymIHRc base g c f lb cf nn N (b-a) w:=fun a' m' b' P' L' R' Q' W hd' hM h' hN' ha' hL' hR' h1' h2' sl' sr' hlt' hn' =>
     JE base g c f lb cf nn N hw eg hl d a' m' b' P' L' R' Q' W (by omega) (hcmp.mod hM) h' hN' ha' hL' hR' h1' h2' sl' sr' hlt' hn'
    by_cases hm:m<=(a+b) / 2
    ·exact Zcm base g c f lb cf nn a m b N _ a m P L R Q w hw eg hcmp IH h hN ha hL hR (by omega) (by omega) sl sr hlt hn hl rfl (.inl ⟨hm,rfl,rfl⟩)
    ·exact Zcm base g c f lb cf nn a m b N _ ((a+b) / 2+m-b) ((a+b) / 2) P L R Q w hw eg hcmp IH h hN ha hL hR (by omega) (by omega) sl sr hlt hn hl rfl (.inr ⟨by omega,by omega,rfl⟩)
section
variable (base:RB) (g c f:Nat) (lb:Array Value) (cf:Nat->Nat->Int) (nn n:Nat) (l0:List Nat) (w:World)
def Ph1Rc (a:Nat)(W:World) : Prop:=∃ ms:List (List Nat),Bls (Zx cf) 20 ms/\(∀ x∈ms,x.length=20)/\ms.flatten.Perm (l0.take a)/\a<=l0.length/\OwNRc W base g c (ms.flatten++l0.drop a)/\Mod (fun k=>k=g) w W
def Ph2Rc (bs:Nat)(W:World) : Prop:=∃ ms:List (List Nat),Bls (Zx cf) bs ms/\ms.flatten.Perm l0/\OwNRc W base g c ms.flatten/\Mod (fun k=>k=g) w W
def Ph3Rc (bs a:Nat)(W:World) : Prop:=∃ done todo:List (List Nat),Bls (Zx cf) (2*bs) done/\(∀ x∈done,x.length=2*bs)/\Bls (Zx cf) bs todo/\done.flatten.length=a/\Apart (· < ·) done.flatten todo.flatten/\(done.flatten++todo.flatten).Perm l0/\OwNRc W base g c (done.flatten++todo.flatten)/\Mod (fun k=>k=g) w W
end
section
variable {base:RB} {g c f:Nat} {lb:Array Value} {cf:Nat->Nat->Int} {nn n:Nat} {l0:List Nat} {w:World}
theorem Ph1Rc.ins {a b:Nat}{W:World}(h:Ph1Rc base g c cf l0 w a W)(hw:Weak (Zx cf))(eg:∀ args w,(callFunc f args).run Tryz.prog w=.ok (.enter f args) w)(hcmp:CmpOkRc base f lb cf nn g w)(hr:l0.Pairwise (· < ·))(hn:∀ x∈l0,x<nn)(hN:l0.length=n)(hl:n<=1000000000)(hab:a<=b)(hb:b<=n)(h20:b<=a+20) :
  Calls Tryz.prog 89 #[.slice (some ⟨g,0,none⟩) n c,.int .i64 a,.int .i64 b,.func (.func f) #[] lb] W (Jd fun W'=>(b=a+20->Ph1Rc base g c cf l0 w b W')/\(b=n->Ph2Rc base g c cf l0 w 20 W')):=by
 obtain⟨ms,h1,h2,h3,h4,h5,h6⟩:=h;have e:l0.drop a=(l0.drop a).take (b-a)++l0.drop b:=by
  have:=(List.take_append_drop (b-a) (l0.drop a)).symm
  rwa [List.drop_drop,show a+(b-a)=b by omega] at this
 have hfl:ms.flatten.length=a:=by rw[h3.length_eq,List.length_take];omega
 have hSl:((l0.drop a).take (b-a)).length=b-a:=by rw[List.length_take,List.length_drop];omega
 have hsub:∀ x∈(l0.drop a).take (b-a),x∈l0:=fun x hx=>List.mem_of_mem_drop (List.mem_of_mem_take hx)
 have hrise:Apart (· < ·) (l0.take a) ((l0.drop a).take (b-a)):=fun x hx y hy=>Apart.rise (by rw[List.take_append_drop];exact hr) x hx y (List.mem_of_mem_take hy)
 have hO:=h5;rw[e] at hO;refine(Zae base g c f lb cf nn a b n ms.flatten ((l0.drop a).take (b-a)) (l0.drop b) W hw eg (hcmp.mod h6) hO ?_ hfl (by omega) ((hr.sublist (List.drop_sublist _ _)).sublist (List.take_sublist _ _)) (fun x hx=>hn x (hsub x hx)) hl).mono ?_
 ·simp only[List.length_append,List.length_drop,hfl,hSl];omega
 rintro e' W' ⟨M,i1,rfl,o1,m1⟩;have hap:Apart (· < ·) ms.flatten M:=hrise.perm h3 i1.1;have hMl:M.length=b-a:=by rw[i1.len,hSl]
 refine⟨rfl,fun hb20=>⟨ms++[M],Bls.snoc i1.2 (by omega) (by omega) h1 h2 hap,?_,?_,by omega,?_,h6.tr m1⟩,fun hbn=>?_⟩
 ·intro x hx
  rcases List.mem_append.1 hx with hx | hx
  ·exact h2 x hx
  ·obtain rfl:=List.mem_singleton.1 hx;omega
 ·rw[List.flatten_append]
  have e2:l0.take b=l0.take a++(l0.drop a).take (b-a):=by
   rw[<-List.take_add,show a+(b-a)=b by omega]
  rw[e2];refine h3.append ?_
  simpa using i1.1
 ·rw[List.flatten_append]
  simpa using o1
 ·have e0:l0.drop b=[]:=List.drop_of_length_le (by omega)
  have hp:(ms.flatten++M).Perm l0:=by
   have:=h3.append i1.1;rw[e0,List.append_nil] at e
   rwa [<-e,List.take_append_drop] at this
  rw[e0,List.append_nil] at o1
  by_cases hM0:M.length=0
  ·have hM:M=[]:=List.eq_nil_of_length_eq_zero hM0
   subst hM;exact⟨ms,h1,by simpa using hp,by simpa using o1,h6.tr m1⟩
  ·exact⟨ms++[M],Bls.snoc i1.2 (by omega) (by omega) h1 h2 hap,by rw[List.flatten_append];simpa using hp,by rw[List.flatten_append];simpa using o1,h6.tr m1⟩
theorem Ph2Rc.go {bs:Nat}{W:World}(h:Ph2Rc base g c cf l0 w bs W) : Ph3Rc base g c cf l0 w bs 0 W:=by
 obtain⟨ms,h1,h2,h3,h4⟩:=h;exact⟨[],ms,trivial,by simp,h1,rfl,Apart.nil_left _,h2,h3,h4⟩
theorem Ph3Rc.len {bs a:Nat}{W:World}(h:Ph3Rc base g c cf l0 w bs a W) : a<=l0.length:=by
 obtain⟨done,todo,h1,h2,h3,h4,h5,h6,h7,h8⟩:=h;have:=h6.length_eq;rw[List.length_append] at this;omega
theorem Ph3Rc.two {bs a:Nat}{W:World}(h:Ph3Rc base g c cf l0 w bs a W)(hw:Weak (Zx cf))(eg:∀ args w,(callFunc f args).run Tryz.prog w=.ok (.enter f args) w)(hcmp:CmpOkRc base f lb cf nn g w)(hn:∀ x∈l0,x<nn)(hN:l0.length=n)(hl:n<=1000000000)(h0:0<bs)(hb:a+2*bs<=n) :
  Calls Tryz.prog 90 #[.slice (some ⟨g,0,none⟩) n c,.int .i64 a,.int .i64 (a+bs:Nat),.int .i64 (a+2*bs:Nat),.func (.func f) #[] lb] W (Jd fun W'=>Ph3Rc base g c cf l0 w bs (a+2*bs) W'):=by
 obtain⟨done,todo,h1,h2,h3,h4,h5,h6,h7,h8⟩:=h;have hlen:=h6.length_eq;rw[List.length_append] at hlen;obtain⟨L,R,ts,rfl,sL,sR,lL,lR,aLR,aT,hts⟩:=h3.two h0 (by omega);have hmem:∀ x∈L++R,x<nn:=fun x hx=>hn x (h6.mem_iff.1 (by
  simp only[List.flatten_cons,List.mem_append] at hx ⊢;rcases hx with hx | hx<;>simp[hx]))
 have hO:OwNRc W base g c (done.flatten++(L++(R++ts.flatten))):=by simpa using h7
 refine(JE base g c f lb cf nn n hw eg hl _ a (a+bs) (a+2*bs) done.flatten L R ts.flatten W (Nat.le_refl _) (hcmp.mod h8) hO ?_ h4 (by omega) (by omega) (by omega) (by omega) sL sR aLR hmem).mono ?_
 ·simp only[List.flatten_cons,List.length_append] at hlen ⊢;omega
 rintro e' W' ⟨M,i1,rfl,o1,m1⟩;have ad:Apart (· < ·) done.flatten (L++R)/\Apart (· < ·) done.flatten ts.flatten:=by
  refine Apart.app_right.1 ?_
  simpa using h5
 have lM:M.length=2*bs:=by rw[i1.len,List.length_append];omega
 refine⟨rfl,done++[M],ts,Bls.snoc i1.2 (by omega) (by omega) h1 h2 (ad.1.perm (List.Perm.refl _) i1.1),?_,hts,?_,?_,?_,?_,h8.tr m1⟩
 ·intro x hx
  rcases List.mem_append.1 hx with hx | hx
  ·exact h2 x hx
  ·obtain rfl:=List.mem_singleton.1 hx;omega
 ·simp only[List.flatten_append,List.length_append,List.flatten_cons,List.flatten_nil,List.append_nil];omega
 ·rw[List.flatten_append]
  refine Apart.app_left.2 ⟨ad.2,?_⟩
  simpa using aT.perm i1.1 (List.Perm.refl _)
 ·rw[List.flatten_append]
  have hp:(done.flatten++(M++ts.flatten)).Perm (done.flatten++((L++R)++ts.flatten)):=List.Perm.append_left _ (i1.1.append (List.Perm.refl _));have h6':(done.flatten++((L++R)++ts.flatten)).Perm l0:=by simpa using h6
  simpa using hp.trans h6'
 ·rw[List.flatten_append]
  simpa using o1
theorem Ph3Rc.last {bs a:Nat}{W:World}(h:Ph3Rc base g c cf l0 w bs a W)(hw:Weak (Zx cf))(eg:∀ args w,(callFunc f args).run Tryz.prog w=.ok (.enter f args) w)(hcmp:CmpOkRc base f lb cf nn g w)(hn:∀ x∈l0,x<nn)(hN:l0.length=n)(hl:n<=1000000000)(h0:0<bs)(hb:n<a+2*bs)(hm:a+bs<n) :
  Calls Tryz.prog 90 #[.slice (some ⟨g,0,none⟩) n c,.int .i64 a,.int .i64 (a+bs:Nat),.int .i64 n,.func (.func f) #[] lb] W (Jd fun W'=>Ph2Rc base g c cf l0 w (2*bs) W'):=by
 obtain⟨done,todo,h1,h2,h3,h4,h5,h6,h7,h8⟩:=h;have hlen:=h6.length_eq;rw[List.length_append] at hlen;rcases h3.tail (by omega) with rfl | ⟨L,rfl,sL,l1,l2⟩ | ⟨L,R,rfl,sL,sR,lL,lR,aLR⟩
 ·simp only[List.flatten_cons,List.flatten_nil,List.append_nil,List.length_append,List.length_nil] at hlen;omega
 ·simp only[List.flatten_cons,List.flatten_nil,List.append_nil,List.length_append,List.length_nil] at hlen;omega
 have hmem:∀ x∈L++R,x<nn:=fun x hx=>hn x (h6.mem_iff.1 (by
  simp only[List.flatten_cons,List.mem_append] at hx ⊢;rcases hx with hx | hx<;>simp[hx]))
 simp only[List.flatten_cons,List.flatten_nil,List.append_nil] at h5 h6 h7 hlen;have hO:OwNRc W base g c (done.flatten++(L++(R++[]))):=by simpa using h7
 rw[List.length_append] at hlen;refine(JE base g c f lb cf nn n hw eg hl _ a (a+bs) n done.flatten L R [] W (Nat.le_refl _) (hcmp.mod h8) hO ?_ h4 (by omega) (by omega) (by omega) (by omega) sL sR aLR hmem).mono ?_
 ·simp only[List.length_append,List.length_nil];omega
 rintro e' W' ⟨M,i1,rfl,o1,m1⟩;have lM:M.length=L.length+R.length:=by rw[i1.len,List.length_append]
 refine⟨rfl,done++[M],Bls.snoc i1.2 (by omega) (by omega) h1 h2 (h5.perm (List.Perm.refl _) i1.1),?_,?_,h8.tr m1⟩
 ·rw[List.flatten_append]
  have hp:(done.flatten++M).Perm (done.flatten++(L++R)):=List.Perm.append_left _ i1.1
  simpa using hp.trans h6
 ·rw[List.flatten_append]
  simpa using o1
theorem Ph3Rc.none {bs a:Nat}{W:World}(h:Ph3Rc base g c cf l0 w bs a W)(hN:l0.length=n)(h0:0<bs)(hb:n<a+2*bs)(hm:n<=a+bs) : Ph2Rc base g c cf l0 w (2*bs) W:=by
 obtain⟨done,todo,h1,h2,h3,h4,h5,h6,h7,h8⟩:=h;have hlen:=h6.length_eq;rw[List.length_append] at hlen;rcases h3.tail (by omega) with rfl | ⟨L,rfl,sL,l1,l2⟩ | ⟨L,R,rfl,sL,sR,lL,lR,aLR⟩
 ·exact⟨done,h1,by simpa using h6,by simpa using h7,h8⟩
 ·exact⟨done++[L],Bls.snoc sL l1 (by omega) h1 h2 (by simpa using h5),by rw[List.flatten_append];simpa using h6,by rw[List.flatten_append];simpa using h7,h8⟩
 ·simp only[List.flatten_cons,List.flatten_nil,List.append_nil,List.length_append,List.length_nil] at hlen;omega
theorem Ph2Rc.done {bs:Nat}{W:World}(h:Ph2Rc base g c cf l0 w bs W)(hN:l0.length<=bs) : Zz base g c (Zx cf) [] l0 [] w (.returned (.tuple #[])) W:=by
 obtain⟨ms,h1,h2,h3,h4⟩:=h;exact⟨ms.flatten,⟨h2,h1.one (by rw[h2.length_eq];exact hN)⟩,rfl,by simpa using h3,h4⟩
end
theorem Zc0 (base:RB)(g c:Nat)(f:Nat)(lb:Array Value)(cf:Nat->Nat->Int)(nn n:Nat)(l0:List Nat)(w:World)(hw:Weak (Zx cf))(eg:∀ args w,(callFunc f args).run Tryz.prog w=.ok (.enter f args) w)(hcmp:CmpOkRc base f lb cf nn g w)
  (h:OwNRc w base g c l0) (hN:l0.length=n) (hr:l0.Pairwise (· < ·)) (hn:∀ x∈l0,x<nn) (hl:n<=1000000) :
  Calls Tryz.prog 58 #[.slice (some ⟨g,0,none⟩) n c,.int .i64 n,.func (.func f) #[] lb] w (Zz base g c (Zx cf) [] l0 [] w):=by
 have HS:Hid (Ph1Rc base g c cf l0 w 0 w):=⟨[],trivial,by simp,by simp,by omega,by simpa using h,Mod.rf _⟩;replace hN:=Hd hN;replace hcmp:=Hd hcmp;replace hw:=Hd hw;replace hr:=Hd hr;replace hn:=Hd hn;clear h;go_enter Tryz.func58,Tryz.ntmps58;go_wp2_with (fail);go_loopw [7,8] (fun av bv wr=>∃ (a b:Nat),av=.int .i64 a/\bv=.int .i64 b/\Hid (b=a+20)/\a<=n/\Hid (Ph1Rc base g c cf l0 w a wr)) (fun av _ _=>n-(intOf av).toNat)
 case atStart=>exact⟨0,20,rfl,rfl,rfl,by omega,HS⟩
 case round =>
  obtain⟨wo,rfl⟩:=Wq wr;obtain⟨a,b,rfl,rfl,hab,ha,H1⟩:=hrel;clear HS;have hab':=hab.out
  by_cases hb:b<=n
  ·have t0:(b:Int)<=(n:Int):=by omega
   have IN:=Hd (H1.out.ins (b:=b) hw.out eg hcmp.out hr.out hn.out hN.out (by omega) (by omega) hb (by omega));have b20:b+20<=2000000:=by omega
   clear hab' H1;go_wp2_with (fail);refine IN.out.mono ?_;rintro e w1 ⟨rfl,i1,-⟩;have i2:=Hd (i1 hab.out);clear i1;go_wp2_with (fail);go_roundw
   case rel=>exact⟨b,b+20,rfl,by go_num,rfl,hb,i2⟩
   case measure=>simp[intOf];have:=hab.out;omega
  ·have t0:¬(b:Int)<=(n:Int):=by omega
   have IN:=Hd (H1.out.ins (b:=n) hw.out eg hcmp.out hr.out hn.out hN.out (by omega) ha (by omega) (by omega));clear hab' H1 hb;go_wp2_with (fail);refine IN.out.mono ?_;rintro e w1 ⟨rfl,-,i1⟩;have i2:Hid (Ph2Rc base g c cf l0 w 20 w1):=by first | exact i1 rfl | exact i1 trivial
   clear i1 IN t0;go_wp2_with (fail);go_loopw [6] (fun v wr=>∃ bs:Nat,v=.int .i64 bs/\20<=bs/\bs<=2*n+20/\Hid (Ph2Rc base g c cf l0 w bs wr)) (fun v _=>n-(intOf v).toNat)
   case atStart=>exact⟨20,rfl,by omega,by omega,i2⟩
   case round =>
    obtain⟨wp,rfl⟩:=Wq wr;obtain⟨bs,rfl,hbs0,hbs1,H2⟩:=hrel;clear i2
    by_cases hbn:bs<n
    ·have t1:(bs:Int)<(n:Int):=by omega
     have H3:=Hd H2.out.go;obtain⟨b2,hb2⟩:∃ b2,Hid (b2=2*bs):=⟨_,rfl⟩;have e2:2*(bs:Int)=(b2:Int):=by rw[hb2.out];omega
     have e2':(bs:Int)*2=(b2:Int):=by rw[hb2.out];omega
     have b2b:b2<=2000000:=by rw[hb2.out];omega
     clear H2;go_wp2_with (fail);go_loopw [7,8] (fun av bv wr=>∃ (a b:Nat),av=.int .i64 a/\bv=.int .i64 b/\Hid (b=a+b2)/\a<=n/\Hid (Ph3Rc base g c cf l0 w bs a wr)) (fun av _ _=>n-(intOf av).toNat)
     case atStart=>exact⟨0,b2,rfl,rfl,by show b2=0+b2;omega,by omega,H3⟩
     case round =>
      obtain⟨wq,rfl⟩:=Wq wr;obtain⟨a',b',rfl,rfl,hab2,ha2,H4⟩:=hrel;clear H3
      by_cases hb3:b'<=n
      ·have t2:(b':Int)<=(n:Int):=by omega
       have hb4:a'+2*bs=b':=by rw[hab2.out,hb2.out]
       have TW:=H4.out.two hw.out eg hcmp.out hn.out hN.out (by omega) (by omega) (by omega);rw[hb4] at TW;obtain⟨am,ham⟩:∃ am,Hid (am=a'+bs):=⟨_,rfl⟩;rw[<-ham.out] at TW;have eam:(a':Int)+(bs:Int)=(am:Int):=by rw[ham.out];omega
       replace TW:=Hd TW;clear hb4 H4;go_wp2_with (fail);refine TW.out.mono ?_;rintro e w3 ⟨rfl,i3⟩;replace i3:=Hd i3;go_wp2_with (fail);go_roundw
       case rel=>exact⟨b',b'+b2,rfl,by first | rfl | go_num,rfl,hb3,i3⟩
       case measure=>simp[intOf];have:=hab2.out;have:=hb2.out;omega
      ·have t2:¬(b':Int)<=(n:Int):=by omega
       have hb4:a'+2*bs=b':=by rw[hab2.out,hb2.out]
       obtain⟨am,ham⟩:∃ am,Hid (am=a'+bs):=⟨_,rfl⟩;have eam:(a':Int)+(bs:Int)=(am:Int):=by rw[ham.out];omega
       by_cases hmn:am<n
       ·have t3:(am:Int)<(n:Int):=by omega
        have LA:=H4.out.last hw.out eg hcmp.out hn.out hN.out (by omega) (by omega) (by omega) (by rw[<-ham.out];exact hmn);rw[<-ham.out,<-hb2.out] at LA;replace LA:=Hd LA;clear hb4 H4;go_wp2_with (fail);refine LA.out.mono ?_;rintro e w3 ⟨rfl,i3⟩;replace i3:=Hd i3;go_wp2_with (fail);go_roundw
        case rel=>exact⟨b2,rfl,by rw[hb2.out];omega,by rw[hb2.out];omega,i3⟩
        case measure=>simp[intOf];have:=hb2.out;omega
       ·have t3:¬(am:Int)<(n:Int):=by omega
        have i3:=H4.out.none hN.out (by omega) (by omega) (by rw[<-ham.out];omega);rw[<-hb2.out] at i3;replace i3:=Hd i3;clear hb4 H4;go_wp2_with (fail);go_roundw
        case rel=>exact⟨b2,rfl,by rw[hb2.out];omega,by rw[hb2.out];omega,i3⟩
        case measure=>simp[intOf];have:=hb2.out;omega
    ·have t1:¬(bs:Int)<(n:Int):=by omega
     have FIN:=Hd (H2.out.done (by rw[hN.out];omega));clear H2;go_wp2_with (fail);go_end0;exact FIN.out
theorem JF (base:RB)(g c:Nat)(f:Nat)(lb:Array Value)(cf:Nat->Nat->Int)(nn n:Nat)(l0:List Nat)(w:World)(hw:Weak (Zx cf))(eg:∀ args w,(callFunc f args).run Tryz.prog w=.ok (.enter f args) w)(hcmp:CmpOkRc base f lb cf nn g w)
  (h:OwNRc w base g c l0) (hN:l0.length=n) (hr:l0.Pairwise (· < ·)) (hn:∀ x∈l0,x<nn) (hl:n<=1000000) :
  Calls Tryz.prog 29 #[.slice (some ⟨g,0,none⟩) n c,.func (.func f) #[] lb] w fun e w'=>e=.returned (.tuple #[])/\OwNRc w' base g c (Yh (Zx cf) l0)/\Mod (fun k=>k=g) w w':=by
 have ST:=Hd (Zc0 base g c f lb cf nn n l0 w hw eg hcmp h hN hr hn hl);have hr':=Hd hr;have hw':=Hd hw;clear hcmp h hN hr hn hw;go_enter Tryz.func29,Tryz.ntmps29;go_wp2_with (fail);refine ST.out.mono ?_;rintro e w1 ⟨M,i1,rfl,o1,m1⟩;have e1:=ZaW hw'.out hr'.out i1;rw[List.nil_append,List.append_nil,e1] at o1;have FIN:=Hd (And.intro o1 m1);clear o1 m1 i1 e1;go_wp2_with (fail);go_end0;exact⟨rfl,FIN.out.1,FIN.out.2⟩
end
section
def RecSl (w:World)(base:Nat)(E:TypeId)(A:Option Addr)(c:Nat)(rs:List Rec) : Prop:=∃ vs,OwV w base E 2 A rs.length c vs/\RecsO w base vs rs
theorem RecSl.ext {w w':World}{base c:Nat}{E:TypeId}{A:Option Addr}{rs:List Rec}(h:RecSl w base E A c rs)(hx:Ext w w') : RecSl w' base E A c rs:=by
 obtain⟨vs,h1,h2⟩:=h;exact⟨vs,h1.ext hx,h2.ext hx⟩
theorem RecSl.modT {w w':World}{base base' c:Nat}{E:TypeId}{ts:List TypeId}{A:Option Addr}{rs:List Rec}(h:RecSl w base E A c rs)(k:ModT base' ts w w')(hE:E∉ts)(hi:3∉ts) : RecSl w' base E A c rs:=by
 obtain⟨vs,h1,h2⟩:=h;exact⟨vs,h1.modT k hE,h2.modT k hi⟩
theorem Qz {α:Type}{l:List α}{k:Nat}{x:α}(h:l[k]?=some x) : l.take (k+1)=l.take k++[x]:=by
 obtain⟨h1,h2⟩:=List.getElem?_eq_some_iff.1 h;rw[List.take_succ_eq_append_getElem h1,h2]
theorem Zcn : (Tryz.prog.info? 38).map (fun i=>(i.zero,i.size,i.bytes))=some (some (.agg #[.int .i64 0,.slice none 0 0]),2,32):=by kernel_rfl
theorem OwI.modOf {w w':World}{base c:Nat}{A:Option Addr}{xs:List Int}(h:OwI w base A c xs)(hm:Mod (fun z=>bl A=some z) w w') : ModT base [3] w w':=by
 refine Mod.mono hm fun k _ hk=>?_
 rcases h.cases with⟨rfl,_⟩ | ⟨g,cur,rfl,hb,hh,_⟩
 ·simp[bl] at hk
 ·simp[bl] at hk
  subst hk;exact⟨hb,cur,_,hh,by simp⟩
section
variable {H:Type} {enc:TypeId×Value->H} {W:World}
end
def RdR (w:World)(E:TypeId)(A:Option Addr)(rs:List Rec) : Prop:=∃ vs,RdV w E A vs/\RecsO w 0 vs rs
theorem RdR.ext {w w':World}{E:TypeId}{A:Option Addr}{rs:List Rec}(h:RdR w E A rs)(hx:Ext w w') : RdR w' E A rs:=by
 obtain⟨vs,h1,h2⟩:=h;exact⟨vs,h1.ext hx,h2.ext hx⟩
theorem Zei : ∀ (xs:List Int),ahd xs xs=false
 | []=>rfl
 | x::xs=>by simp[ahd,Zei xs]
end
section
theorem Zej : ∀ (p q:List Int),ahd p q=true->ahd q p=false
 | [],[],h=>by simp[ahd] at h
 | [],_::_,_=>rfl
 | _::_,[],h=>by simp[ahd] at h
 | x::p,y::q,h=>by
  by_cases e:x=y
  ·subst e
   simp[ahd] at h ⊢;exact Zej p q h
  ·have e':¬y=x:=fun z=>e z.symm
   simp[ahd,e] at h;simp[ahd,e'];omega
theorem Zge : ∀ (p q r:List Int),ahd p r=true->ahd p q=true\/ahd q r=true
 | [],[],_,h=>.inr h
 | [],_::_,_,_=>.inl rfl
 | _::_,_,[],h=>by simp[ahd] at h
 | _::_,[],_::_,_=>.inr rfl
 | x::p,y::q,z::r,h=>by
  rcases Int.lt_trichotomy x y with a | rfl | a
  ·left
   simp[ahd,show ¬x=y by omega,a]
  ·by_cases e:x=z
   ·subst e
    simp[ahd] at h ⊢;exact Zge p q r h
   ·simp[ahd,e] at h ⊢
    exact .inr h
  ·right
   by_cases e:x=z
   ·subst e
    simp[ahd,show ¬y=x by omega,a]
   ·simp[ahd,e] at h
    simp[ahd,show ¬y=z by omega];omega
def XR (rs:List Rec)(i:Nat) : Rec:=rs.getD i ⟨0,[]⟩
theorem JG {rs:List Rec}{i:Nat}(hi:i<rs.length) : rs[i]?=some (XR rs i):=by simp[XR,hi]
theorem U3 {rs:List Rec}{i:Nat}(hi:i<rs.length) : XR rs i∈rs:=List.mem_of_getElem? (JG hi)
def UT (rs:List Rec)(x y:Nat) : Int:=Qx (XR rs x).path (XR rs y).path
theorem Zc1 (rs:List Rec)(x y:Nat) : Zx (UT rs) x y=ahd (XR rs x).path (XR rs y).path:=Zeg _ _
theorem Zij (rs:List Rec) : Weak (Zx (UT rs)):=⟨fun a b h=>by rw[Zc1] at *;exact Zej _ _ h,fun a b c h=>by rw[Zc1] at *;rw[Zc1];exact Zge _ _ _ h⟩
def Jf (rs:List Rec) : List Nat:=Yh (Zx (UT rs)) (List.range rs.length)
def ZC (rs:List Rec) : List Rec:=(Jf rs).map (XR rs)
theorem Zco (rs:List Rec) : (Jf rs).length=rs.length:=by rw[Jf,Yz,List.length_range]
theorem XC (rs:List Rec) : (ZC rs).length=rs.length:=by rw[ZC,List.length_map,Zco]
theorem QA (n:Nat) : (List.range n).Pairwise (· < ·):=List.pairwise_lt_range
theorem JH {rs:List Rec}{x:Nat}(h:x∈Jf rs) : x<rs.length:=by
 have:=(Xa (Zij rs) (QA rs.length)).mem.1 h
 simpa using this
theorem J5 {rs:List Rec}{r:Rec}(h:r∈ZC rs) : r∈rs:=by
 obtain⟨x,hx,rfl⟩:=List.mem_map.1 h;exact U3 (JH hx)
def Vm (b:Nat)(rs:List Rec)(vs:List Value) : RB where
 b:=b
 kd:=fun i=>(XR rs i).kind
 ad:=fun i=>match vs[i*2+1]? with | some (.slice A _ _)=>A | _=>none
 ln:=fun i=>(XR rs i).path.length
 cp:=fun i=>match vs[i*2+1]? with | some (.slice _ _ c)=>c | _=>0
section
variable {w:World} {base b:Nat} {vs:List Value} {rs:List Rec}
theorem Zbk (h:RecsO w base vs rs){i:Nat}(hi:i<rs.length) : vs[i*2]?=some (.int .i64 ((Vm b rs vs).kd i))/\vs[i*2+1]?=some (.slice ((Vm b rs vs).ad i) ((Vm b rs vs).ln i) ((Vm b rs vs).cp i))/\OwI w base ((Vm b rs vs).ad i) ((Vm b rs vs).cp i) (XR rs i).path:=by
 obtain⟨A,c,h1,h2,h3⟩:=h.2 i _ (JG hi);have ea:(Vm b rs vs).ad i=A:=by simp[Vm,h2]
 have ec:(Vm b rs vs).cp i=c:=by simp[Vm,h2]
 rw[ea,ec];exact⟨h1,h2,h3⟩
theorem Zfp (h:RecsO w base vs rs) : Z4 (Vm b rs vs) (List.range rs.length)=vs:=by
 apply List.ext_getElem?;intro j
 by_cases hj:j<rs.length*2
 ·rcases Nat.mod_two_eq_zero_or_one j with e | e
  ·obtain⟨i,rfl⟩:∃ i,j=i*2:=⟨j / 2,by omega⟩
   have hi:i<rs.length:=by omega
   rw[(W4 (Vm b rs vs) (l:=List.range rs.length) (k:=i) (n:=i) (by simp[hi])).1,(Zbk (b:=b) h hi).1]
  ·obtain⟨i,rfl⟩:∃ i,j=i*2+1:=⟨j / 2,by omega⟩
   have hi:i<rs.length:=by omega
   rw[(W4 (Vm b rs vs) (l:=List.range rs.length) (k:=i) (n:=i) (by simp[hi])).2,(Zbk (b:=b) h hi).2.1]
 ·rw[List.getElem?_eq_none (by rw[Wl,List.length_range];omega),List.getElem?_eq_none (by rw[h.1];omega)]
theorem Zek (h:RecsO w base vs rs){L:List Nat}(hL:∀ x∈L,x<rs.length) : RecsO w base (Z4 (Vm b rs vs) L) (L.map (XR rs)) :=
 ⟨by rw[Wl,List.length_map],fun i r hi=>by
  rw[List.getElem?_map] at hi
  cases hx:L[i]? with
  | none=>rw[hx] at hi;cases hi
  | some x =>
   rw[hx] at hi;simp only[Option.map_some,Option.some.injEq] at hi;subst hi;obtain⟨_,_,h3⟩:=Zbk (b:=b) h (hL x (List.mem_of_getElem? hx));obtain⟨g1,g2⟩:=W4 (Vm b rs vs) hx;exact⟨_,_,g1,g2,h3⟩⟩
end
theorem OwV.modOf {w w':World}{base n c g:Nat}{E:TypeId}{vs:List Value}(h:OwV w base E 2 (some ⟨g,0,none⟩) n c vs)(hm:Mod (fun z=>z=g) w w') : ModT base [E] w w':=by
 refine Mod.mono hm fun i _ hi=>?_
 subst hi;rcases h.cases with⟨h0,_⟩ | ⟨g',cur,hA,hb,hg,_⟩
 ·cases h0
 ·injection hA with hA
  injection hA with hA
  subst hA;exact⟨hb,cur,_,hg,by simp⟩
theorem ZjX (fv:Value)(w:World) : Calls Tryz.prog 89 #[.slice none 0 0,.int .i64 0,.int .i64 0,fv] w fun e w'=>e=.returned (.tuple #[])/\Ext w w':=by
 go_enter Tryz.func89,Tryz.ntmps89;go_wp2_with (fail);go_loopw [8] (fun v wr=>v=.int .i64 1/\Ext w wr) (fun v _=>(intOf v).toNat)
 case atStart=>exact⟨by first | rfl | go_num,Ext.rf _⟩
 case round =>
  obtain⟨rfl,X⟩:=hrel;go_wp2_with (fail);go_end0;exact⟨rfl,X⟩
theorem Zjt (fv:Value)(w:World) : Calls Tryz.prog 58 #[.slice none 0 0,.int .i64 0,fv] w fun e w'=>e=.returned (.tuple #[])/\Ext w w':=by
 go_enter Tryz.func58,Tryz.ntmps58;go_wp2_with (fail);go_loopw [7,8] (fun u v wr=>u=.int .i64 0/\v=.int .i64 20/\Ext w wr) (fun v _ _=>(intOf v).toNat)
 case atStart=>exact⟨rfl,rfl,Ext.rf _⟩
 case round =>
  obtain⟨rfl,rfl,X⟩:=hrel;go_wp2_with (fail);refine(ZjX _ _).mono ?_;rintro e w1 ⟨rfl,x1⟩;have X1:=X.tr x1;go_wp2_with (fail);go_loopw [6] (fun u wr=>u=.int .i64 20/\Ext w wr) (fun v _=>(intOf v).toNat)
  case atStart=>exact⟨rfl,X1⟩
  case round =>
   obtain⟨rfl,Y⟩:=hrel;go_wp2_with (fail);go_end0;exact⟨rfl,Y⟩
theorem Zju (fv:Value)(w:World) : Calls Tryz.prog 29 #[.slice none 0 0,fv] w fun e w'=>e=.returned (.tuple #[])/\Ext w w':=by
 go_enter Tryz.func29,Tryz.ntmps29;go_wp2_with (fail);refine(Zjt _ _).mono ?_;rintro e w1 ⟨rfl,x1⟩;go_wp2_with (fail);go_end0;exact⟨rfl,x1⟩
end
section
def Xv (g:Int->Wd->Option (List Rec×Wd)) : List Int->Wd->Option (List Rec×Wd)
 | [],w=>some ([],w)
 | n::l,w=>match g n w with
  | none=>none
  | some (a,v)=>match Xv g l v with
   | none=>none
   | some (b,u)=>some (a++b,u)
def ZV (D:Nat)(kids:List Int->List Int) : Nat->List Int->Wd->Option (List Rec×Wd)
 | 0,_,_=>none
 | _+1,_,[]=>none
 | f+1,p,c::w =>
  if c=98 then(if p.length=D then none else match Xv (fun n v=>ZV D kids f (p++[n]) v) (kids p) w with
   | none=>none
   | some (a,u)=>some (⟨2,p⟩::a,u))
  else if c=108 then(if p.length=D then some ([⟨3,p⟩],w) else none)
  else if c=112 then some ([⟨1,p⟩],w)
  else none
def Z1 (D:Nat)(kids:List Int->List Int) : Wd->List (List Int)->Option (List Rec)
 | [],[]=>some []
 | _::_,[]=>none
 | [],_::_=>none
 | c::w,p::S =>
  if c=98 then(if p.length=D then none else(Z1 D kids w ((kids p).map (fun n=>p++[n])++S)).map fun a=>⟨2,p⟩::a)
  else if c=108 then(if p.length=D then(Z1 D kids w S).map fun a=>⟨3,p⟩::a else none)
  else if c=112 then(Z1 D kids w S).map fun a=>⟨1,p⟩::a
  else none
def YF (D:Nat)(kids:List Int->List Int)(w:Wd) : Option (List Rec):=match ZV D kids (D+1) [] w with
 | some (l,[])=>some l
 | _=>none
section
variable {D:Nat} {kids:List Int->List Int}
theorem Xh (c:UInt8)(w:Wd)(p:List Int)(S:List (List Int)) : Z1 D kids (c::w) (p::S)=if c=98 then(if p.length=D then none else(Z1 D kids w ((kids p).map (fun n=>p++[n])++S)).map fun a=>⟨2,p⟩::a)
  else if c=108 then(if p.length=D then(Z1 D kids w S).map fun a=>⟨3,p⟩::a else none)
  else if c=112 then(Z1 D kids w S).map fun a=>⟨1,p⟩::a
  else none:=by rw[Z1]
theorem Un (f:Nat)(c:UInt8)(w:Wd)(p:List Int) : ZV D kids (f+1) p (c::w)=if c=98 then(if p.length=D then none else match Xv (fun n v=>ZV D kids f (p++[n]) v) (kids p) w with
   | none=>none
   | some (a,u)=>some (⟨2,p⟩::a,u))
  else if c=108 then(if p.length=D then some ([⟨3,p⟩],w) else none)
  else if c=112 then some ([⟨1,p⟩],w)
  else none:=by rw[ZV]
theorem J6 {okp:List Int->Prop}(hlen:∀ p,okp p->p.length<=D)(hkid:∀ p,okp p->p.length<D->∀ n∈kids p,okp (p++[n])) : ∀ (f:Nat) (p:List Int) (S:List (List Int)) (w:Wd),okp p->f+p.length=D+1 ->
  Z1 D kids w (p::S)=match ZV D kids f p w with
   | none=>none
   | some (a,u)=>(Z1 D kids u S).map fun b=>a++b
 | 0,p,S,w,ho,hf=>by have:=hlen p ho;omega
 | f+1,p,S,[],ho,hf=>by simp[Z1,ZV]
 | f+1,p,S,c::w,ho,hf=>by
  have hl:=hlen p ho;rw[Xh,Un]
  by_cases h1:c=98
  ·simp only[h1,if_true]
   by_cases h2:p.length=D
   ·simp[h2]
   ·simp only[h2,if_false]
    have key:∀ (l:List Int) (w:Wd),(∀ n∈l,okp (p++[n])) ->
      Z1 D kids w (l.map (fun n=>p++[n])++S)=match Xv (fun n v=>ZV D kids f (p++[n]) v) l w with
       | none=>none
       | some (a,u)=>(Z1 D kids u S).map fun b=>a++b:=by
     intro l
     induction l with
     | nil=>intro w _;simp[Xv]
     | cons n l ih =>
      intro w hk;have h3:=J6 hlen hkid f (p++[n]) (l.map (fun n=>p++[n])++S) w (hk n (by simp)) (by simp;omega);simp only[List.map_cons,List.cons_append,Xv];rw[h3]
      cases hg:ZV D kids f (p++[n]) w with
      | none=>rfl
      | some q =>
       obtain⟨a,v⟩:=q;simp only;rw[ih v fun m hm=>hk m (by simp[hm])]
       cases Xv (fun n v=>ZV D kids f (p++[n]) v) l v with
       | none=>rfl
       | some q2 =>
        obtain⟨b,u⟩:=q2;simp only
        cases Z1 D kids u S with
        | none=>rfl
        | some r=>simp[List.append_assoc]
    rw[key (kids p) w (hkid p ho (by omega))]
    cases Xv (fun n v=>ZV D kids f (p++[n]) v) (kids p) w with
    | none=>rfl
    | some q =>
     obtain⟨a,u⟩:=q;simp only
     cases Z1 D kids u S with
     | none=>rfl
     | some r=>rfl
  ·simp only[h1,if_false]
   by_cases h2:c=108
   ·simp only[h2,if_true]
    by_cases h3:p.length=D
    ·simp[h3]
    ·simp[h3]
   ·simp only[h2,if_false]
    by_cases h3:c=112
    ·simp[h3]
    ·simp[h3]
theorem Zel {okp:List Int->Prop}(h0:okp [])(hlen:∀ p,okp p->p.length<=D)(hkid:∀ p,okp p->p.length<D->∀ n∈kids p,okp (p++[n]))(w:Wd) : Z1 D kids w [[]]=YF D kids w:=by
 rw[J6 hlen hkid (D+1) [] [] w h0 (by simp)];unfold YF
 cases ZV D kids (D+1) [] w with
 | none=>rfl
 | some q =>
  obtain⟨a,u⟩:=q
  cases u with
  | nil=>simp[Z1]
  | cons c u=>simp[Z1]
theorem Zcp : ∀ (f:Nat) (p:List Int) (w:Wd) (a:List Rec) (u:Wd),ZV D kids f p w=some (a,u)->w.length=a.length+u.length
 | 0,p,w,a,u,h=>by cases h
 | f+1,p,[],a,u,h=>by cases h
 | f+1,p,c::w,a,u,h=>by
  rw[Un] at h
  by_cases h1:c=98
  ·simp only[h1,if_true] at h
   by_cases h2:p.length=D
   ·simp[h2] at h
   ·simp only[h2,if_false] at h
    have key:∀ (l:List Int) (w:Wd) (a:List Rec) (u:Wd),Xv (fun n v=>ZV D kids f (p++[n]) v) l w=some (a,u)->w.length=a.length+u.length:=by
     intro l
     induction l with
     | nil=>intro w a u h;simp only[Xv,Option.some.injEq,Prod.mk.injEq] at h;rw[<-h.1,<-h.2];simp
     | cons n l ih =>
      intro w a u h;simp only[Xv] at h
      cases hg:ZV D kids f (p++[n]) w with
      | none=>rw[hg] at h;cases h
      | some q =>
       obtain⟨a1,v⟩:=q;rw[hg] at h;simp only at h;have e1:=Zcp f (p++[n]) w a1 v hg
       cases hs:Xv (fun n v=>ZV D kids f (p++[n]) v) l v with
       | none=>rw[hs] at h;cases h
       | some q2 =>
        obtain⟨b,u2⟩:=q2;rw[hs] at h;simp only[Option.some.injEq,Prod.mk.injEq] at h;have e2:=ih v b u2 hs;rw[<-h.1,<-h.2,List.length_append];omega
    cases hs:Xv (fun n v=>ZV D kids f (p++[n]) v) (kids p) w with
    | none=>rw[hs] at h;cases h
    | some q =>
     obtain⟨b,u2⟩:=q;rw[hs] at h;simp only[Option.some.injEq,Prod.mk.injEq] at h;have:=key _ _ _ _ hs;rw[<-h.1,<-h.2,List.length_cons,List.length_cons];omega
  ·simp only[h1,if_false] at h
   by_cases h2:c=108
   ·simp only[h2,if_true] at h
    by_cases h3:p.length=D
    ·simp only[h3,if_true,Option.some.injEq,Prod.mk.injEq] at h
     rw[<-h.1,<-h.2];simp;omega
    ·simp[h3] at h
   ·simp only[h2,if_false] at h
    by_cases h3:c=112
    ·simp only[h3,if_true,Option.some.injEq,Prod.mk.injEq] at h
     rw[<-h.1,<-h.2];simp;omega
    ·simp[h3] at h
end
def Yf (k:Int) : UInt8:=if k=1 then 112 else if k=2 then 98 else if k=3 then 108 else 0
instance recDec : DecidableEq Rec:=fun a b=>if h:a.kind=b.kind/\a.path=b.path then isTrue (by cases a;cases b;simp_all) else isFalse (fun e=>h (by rw[e];exact⟨rfl,rfl⟩))
def Zbl (D:Nat)(kids:List Int->List Int)(l:List Rec) : Option Wd :=
 if (ZC l).all (fun r=>decide (1<=r.kind)&&decide (r.kind<=3))=true/\YF D kids ((ZC l).map fun r=>Yf r.kind)=some (ZC l) then some ((ZC l).map fun r=>Yf r.kind) else none
end
section
def FaceB (w:World)(g:Nat)(T:TypeId)(gk:Nat) : Prop:=Blk w g 67 #[.iface T (.pointer (some ⟨gk,0,none⟩))]
theorem FaceB.ext {w w':World}{g gk:Nat}{T:TypeId}(h:FaceB w g T gk)(x:Ext w w') : FaceB w' g T gk:=Blk.ext h x
theorem Zkb (j:InstP)(vs:List Value)(w:World)(H:RInst w vs j)(lw:j.weight.length<=1000000000)(lv:j.value.length<=1000000000)(hc:Zk j≠0) :
  Calls Tryz.prog 7 #[.agg (List.toArray vs)] w fun e w'=>e=.returned (.tuple #[.pointer none,.int .i64 (Zk j)])/\Ext w w':=by
 have C:=fun(W:World) (x:Ext w W)=>Yy j vs W (H.ext x) lw lv
 obtain⟨A,a,B,b,D,d,rfl,-,-,-⟩:=H;generalize Zk j=er at *;have e1:(er != 0)=true:=by simpa using hc
 replace C:=Hd C;clear hc;go_enter Tryz.func7,Tryz.ntmps7;go_wp2_with (fail);refine(C.out _ XI).mono ?_;rintro e w1 ⟨rfl,x1⟩;have X1:=Hd (Ext.tr (a:=w) XI x1);clear x1;go_wp2_with (fail);go_ret2;exact⟨rfl,X1.out⟩
theorem Zkh (j:InstP)(vs:List Value)(w:World)(H:RInst w vs j)(hc:Zk j=0)(hk:j.kind=1) :
  Calls Tryz.prog 7 #[.agg (List.toArray vs)] w fun e w'=>(∃ g gk base,e=.returned (.tuple #[.pointer (some ⟨g,0,none⟩),.int .i64 0])/\FaceB w' g 61 gk/\KernB w' base gk j.cap (ZR j.value j.weight) (Zu (ZR j.value j.weight) j.weight) (Zu (ZR j.value j.weight) j.value) (Xr (Zu (ZR j.value j.weight) j.value) 0))/\Ext w w':=by
 have ok:=Yj hc hk;have C:=fun(W:World) (x:Ext w W)=>Yy j vs W (H.ext x) (by have:=ok.w;have:=ok.n2;omega) (by have:=ok.v;have:=ok.n2;omega)
 have NW:=fun(W:World) (x:Ext w W)=>Zjf j vs W (H.ext x) hc hk
 unfold Zf0 at NW;rw[hc] at C;clear ok hc;obtain⟨kind,nn,cap,xw,xv,co⟩:=j;obtain⟨A,a,B,b,D,d,rfl,-,-,-⟩:=H;simp only at *;subst hk;generalize ZR xv xw=l at *;generalize Zu l xw=ws at *;generalize Zu l xv=us at *;generalize Xr us 0=bs at *;have B1:Hid (Blk (w.alloc (.cells #[.int .i64 1,.int .i64 nn,.int .i64 cap,.slice A xw.length a,.slice B xv.length b,.slice D co.length d] 25)) w.heap.size 25 #[.int .i64 1,.int .i64 nn,.int .i64 cap,.slice A xw.length a,.slice B xv.length b,.slice D co.length d]):=.new rfl;replace C:=Hd C;replace NW:=Hd NW;go_enter Tryz.func7,Tryz.ntmps7;go_wp2_with (fail);refine(C.out _ XI).mono ?_;rintro e w1 ⟨rfl,x1⟩;have X1:=Hd (Ext.tr (a:=w) XI x1);have b1:=B1.out.ext x1;have t0:=b1.c0;have t1:=b1.c1;have t2:=b1.c2;have t3:=b1.c3;have t4:=b1.c4;have t5:=b1.c5;clear x1 B1 b1;go_wp2_with (fail);refine(NW.out _ X1.out).mono ?_;rintro e w2 ⟨gk,rfl,K2,x2⟩;have X2:=Hd (X1.out.tr x2);replace K2:=Hd K2;clear x2 t0 t1 t2 t3 t4 t5;go_wp2_with (fail);go_ret2;have xa:Ext w2 (w2.alloc (.cells #[.iface 61 (.pointer (some ⟨gk,0,none⟩))] 67)):=(Ext.rf _).alloc _;exact⟨⟨w2.heap.size,gk,_,rfl,.new rfl,K2.out.ext xa⟩,X2.out.tr xa⟩
theorem Zki (j:InstP)(vs:List Value)(w:World)(H:RInst w vs j)(hc:Zk j=0)(hk:j.kind=2) :
  Calls Tryz.prog 7 #[.agg (List.toArray vs)] w fun e w'=>(∃ g gk base,e=.returned (.tuple #[.pointer (some ⟨g,0,none⟩),.int .i64 0])/\FaceB w' g 68 gk/\KernA w' base gk j.cost)/\Ext w w':=by
 have ok:=Zt hc (by omega);have C:=fun(W:World) (x:Ext w W)=>Yy j vs W (H.ext x) (by rw[ok.w];simp) (by rw[ok.v];simp)
 have NW:=fun(W:World) (x:Ext w W)=>ZhU j vs W (H.ext x) hc hk
 unfold ZdG at NW;rw[hc] at C;clear ok hc;obtain⟨kind,nn,cap,xw,xv,co⟩:=j;obtain⟨A,a,B,b,D,d,rfl,-,-,-⟩:=H;simp only at *;subst hk;have B1:Hid (Blk (w.alloc (.cells #[.int .i64 2,.int .i64 nn,.int .i64 cap,.slice A xw.length a,.slice B xv.length b,.slice D co.length d] 25)) w.heap.size 25 #[.int .i64 2,.int .i64 nn,.int .i64 cap,.slice A xw.length a,.slice B xv.length b,.slice D co.length d]):=.new rfl;replace C:=Hd C;replace NW:=Hd NW;go_enter Tryz.func7,Tryz.ntmps7;go_wp2_with (fail);refine(C.out _ XI).mono ?_;rintro e w1 ⟨rfl,x1⟩;have X1:=Hd (Ext.tr (a:=w) XI x1);have b1:=B1.out.ext x1;have t0:=b1.c0;have t1:=b1.c1;have t2:=b1.c2;have t3:=b1.c3;have t4:=b1.c4;have t5:=b1.c5;clear x1 B1 b1;go_wp2_with (fail);refine(NW.out _ X1.out).mono ?_;rintro e w2 ⟨gk,rfl,K2,x2⟩;have X2:=Hd (X1.out.tr x2);replace K2:=Hd K2;clear x2 t0 t1 t2 t3 t4 t5;go_wp2_with (fail);go_ret2;have xa:Ext w2 (w2.alloc (.cells #[.iface 68 (.pointer (some ⟨gk,0,none⟩))] 67)):=(Ext.rf _).alloc _;exact⟨⟨w2.heap.size,gk,_,rfl,.new rfl,K2.out.ext xa⟩,X2.out.tr xa⟩
theorem Zkj (j:InstP)(vs:List Value)(w:World)(H:RInst w vs j)(hc:Zk j=0)(hk:j.kind=3) :
  Calls Tryz.prog 7 #[.agg (List.toArray vs)] w fun e w'=>(∃ g gk base,e=.returned (.tuple #[.pointer (some ⟨g,0,none⟩),.int .i64 0])/\FaceB w' g 71 gk/\KernT w' base gk j.cost (Wh j.cost))/\Ext w w':=by
 have ok:=Zt hc (by omega);have C:=fun(W:World) (x:Ext w W)=>Yy j vs W (H.ext x) (by rw[ok.w];simp) (by rw[ok.v];simp)
 have NW:=fun(W:World) (x:Ext w W)=>ZhT j vs W (H.ext x) hc hk
 unfold ZaS at NW;rw[hc] at C;clear ok hc;obtain⟨kind,nn,cap,xw,xv,co⟩:=j;obtain⟨A,a,B,b,D,d,rfl,-,-,-⟩:=H;simp only at *;subst hk;generalize Wh co=mi at *;have B1:Hid (Blk (w.alloc (.cells #[.int .i64 3,.int .i64 nn,.int .i64 cap,.slice A xw.length a,.slice B xv.length b,.slice D co.length d] 25)) w.heap.size 25 #[.int .i64 3,.int .i64 nn,.int .i64 cap,.slice A xw.length a,.slice B xv.length b,.slice D co.length d]):=.new rfl;replace C:=Hd C;replace NW:=Hd NW;go_enter Tryz.func7,Tryz.ntmps7;go_wp2_with (fail);refine(C.out _ XI).mono ?_;rintro e w1 ⟨rfl,x1⟩;have X1:=Hd (Ext.tr (a:=w) XI x1);have b1:=B1.out.ext x1;have t0:=b1.c0;have t1:=b1.c1;have t2:=b1.c2;have t3:=b1.c3;have t4:=b1.c4;have t5:=b1.c5;clear x1 B1 b1;go_wp2_with (fail);refine(NW.out _ X1.out).mono ?_;rintro e w2 ⟨gk,rfl,K2,x2⟩;have X2:=Hd (X1.out.tr x2);replace K2:=Hd K2;clear x2 t0 t1 t2 t3 t4 t5;go_wp2_with (fail);go_ret2;have xa:Ext w2 (w2.alloc (.cells #[.iface 71 (.pointer (some ⟨gk,0,none⟩))] 67)):=(Ext.rf _).alloc _;exact⟨⟨w2.heap.size,gk,_,rfl,.new rfl,K2.out.ext xa⟩,X2.out.tr xa⟩
theorem Zcq {f:Int->Int} : ∀ {l:List Int} {b:Int},(∀ x∈l,0<=f x)->(∀ x∈l,YL f b l<=f x)/\(0<=b->YL f b l<=b)
 | [],b,_=>⟨(fun x hx=>by cases hx),fun _=>Int.le_refl _⟩
 | y::l,b,h=>by
  have hy:=h y (by simp);have ih:=Zcq (l:=l) (b:=if b<0 then f y else if f y<b then f y else b) fun x hx=>h x (by simp[hx])
  have hb:0<=(if b<0 then f y else if f y<b then f y else b):=by split<;>(try split)<;>omega
  have h2:=ih.2 hb;refine⟨fun x hx=>?_,fun h0=>?_⟩
  ·rcases List.mem_cons.1 hx with rfl | hx
   ·refine Int.le_trans h2 ?_
    split<;>(try split)<;>omega
   ·exact ih.1 x hx
  ·refine Int.le_trans h2 ?_
   split<;>(try split)<;>omega
theorem Zc2 {f:Int->Int}{l:List Int}{v:Int}(h:∀ x∈l,0<=f x)(hne:l≠[])(e:YL f (-1) l=v) : (∃ n∈l,f n=v)/\∀ n∈l,v<=f n:=by
 subst e;refine⟨?_,(Zcq h).1⟩;rcases U0 (b:=-1) h (.inr hne) with⟨_,h0⟩ | ⟨x,hx,h0⟩
 ·omega
 ·exact⟨x,hx,h0.symm⟩
theorem JI {f:Int->Int}{l l':List Int}{v:Int}(hp:∀ x,x∈l↔x∈l')(h:(∃ n∈l,f n=v)/\∀ n∈l,v<=f n) : (∃ n∈l',f n=v)/\∀ n∈l',v<=f n :=
 ⟨by obtain⟨n,hn,e⟩:=h.1;exact⟨n,(hp n).1 hn,e⟩,fun n hn=>h.2 n ((hp n).2 hn)⟩
theorem Zik {cap:Int}{ws vs:List Int}(h0:0<=cap)(hw:∀ x∈ws,0<=x)(hv:∀ x∈vs,0<=x/\x<=2147483647)(hl:ws.length=vs.length)(hf:Falls ws vs) :
  KrnOk ws.length (fun p=>(XG cap ws vs p).1) (fun p=>(Ym cap ws vs p).1) (fun p=>∃ q,stP cap 0 ws vs p=some q) (W9 cap ws vs) where
 len:=fun p ⟨q,h⟩=>by
  rcases Nat.lt_or_ge ws.length p.length with h1 | h1
  ·rw[Wv h1] at h;cases h
  ·exact h1
 kid:=fun p ⟨⟨r,o⟩,h⟩ hlt n hn=>by
  obtain⟨w,ws',e1⟩:∃ w ws',ws.drop p.length=w::ws':=⟨_,_,List.drop_eq_getElem_cons hlt⟩;obtain⟨v,vs',e2⟩:∃ v vs',vs.drop p.length=v::vs':=⟨_,_,List.drop_eq_getElem_cons (by omega)⟩;have hr:=(VE hw h0 h).1;unfold XG at hn;rw[h] at hn;simp only[e1] at hn;split at hn
  ·rename_i hle
   simp at hn;rcases hn with rfl | rfl
   ·exact⟨_,ZbM h e1 e2 hle⟩
   ·exact⟨_,Jo h e1 e2 hr⟩
  ·simp at hn
   subst hn;exact⟨_,Jo h e1 e2 hr⟩
 leaf:=fun p ⟨⟨r,o⟩,h⟩ hpl=>by
  have:=Zhv h hpl hl;simp only[this.1,this.2]
 low:=fun p ⟨⟨r,o⟩,h⟩=>by
  rcases Zgo cap ws vs p with he | ⟨_,he⟩
  ·exact(Zdk h0 hw hv hl hf he).2
  ·rw[h] at he;cases he
 node:=fun p ⟨⟨r,o⟩,h⟩ hlt=>by
  have hr:=(VE hw h0 h).1;have ho:=(QK hv h).1;have hvn:∀ x∈vs,0<=x:=fun x hx=>(hv x hx).1
  have e:=Zdj h hr hlt hl hvn ho;obtain⟨w,ws',e1⟩:∃ w ws',ws.drop p.length=w::ws':=⟨_,_,List.drop_eq_getElem_cons hlt⟩;obtain⟨v,vs',e2⟩:∃ v vs',vs.drop p.length=v::vs':=⟨_,_,List.drop_eq_getElem_cons (by omega)⟩;have hvs:∀ x∈v::vs',0<=x:=fun x hx=>hvn x (List.mem_of_mem_drop (e2 ▸ hx))
  refine Zc2 (fun x hx=>?_) ?_ e
  ·unfold XG at hx
   rw[h] at hx;simp only[e1] at hx;split at hx
   ·rename_i hle
    simp at hx;rcases hx with rfl | rfl
    ·rw[Zdi h e1 e2 hle];exact Xi ho fun x hx=>hvs x (by simp[hx])
    ·rw[Zaw h e1 e2 hr];exact Xi (by have:=hvs v (by simp);omega) fun x hx=>hvs x (by simp[hx])
   ·simp at hx
    subst hx;rw[Zaw h e1 e2 hr];exact Xi (by have:=hvs v (by simp);omega) fun x hx=>hvs x (by simp[hx])
  ·unfold XG
   rw[h];simp only[e1];split<;>simp
theorem Zfq {rows:List (List Int)}(ok:RowsOk rows) :
  KrnOk rows.length (fun p=>(Xs rows p).1) (fun p=>(ZX rows p).1) (fun p=>∃ m,Ye rows.length p=some m) (fun p=>Vt rows rows.length (rows.length-p.length) p) where
 len:=fun p ⟨m,h⟩=>by have:=YN ok.n2 h;omega
 kid:=fun p ⟨m,h⟩ hlt n hn=>by
  obtain⟨l,e1,e2,_⟩:=Q2 h;rw[e1] at hn;obtain⟨c,hc,rfl⟩:=List.mem_map.1 hn;exact⟨_,Qp ok.n2 h (e2.mem_iff.1 hc)⟩
 leaf:=fun p ⟨m,h⟩ hpl=>by
  have h1:=(Uj ok h).2.1;obtain⟨l,rfl,hl⟩:=Ze3 ok.n2 h hpl;show (ZX rows (Zf l)).1=_;rw[show rows.length-(Zf l).length=0 by omega];unfold ZX;rw[h];simp only;rw[if_neg (by omega),Int.add_zero]
  rfl
 low:=fun p ⟨m,h⟩=>(Uj ok h).2.1
 node:=fun p ⟨m,h⟩ hlt=>by
  have hlen:=YN ok.n2 h;obtain⟨l,e1,e2,_⟩:=Q2 h;obtain⟨f,hf⟩:∃ f,rows.length-p.length=f+1:=⟨rows.length-p.length-1,by omega⟩;have ef:∀ c:Int,rows.length-(p++[c]).length=f:=fun c=>by simp;omega
  have e:YL (fun x=>Vt rows rows.length f (p++[x])) (-1) (Zf (Zb m))=Vt rows rows.length (rows.length-p.length) p:=by
   rw[hf];show _=YL _ (-1) (match Ye rows.length p with | none=>[] | some m=>Zf (Zb m));rw[h]
  have hpos:∀ x∈Zf (Zb m),0<=Vt rows rows.length f (p++[x]):=fun x hx=>by
   obtain⟨c,hc,rfl⟩:=List.mem_map.1 hx;have h4:=Uj ok (Qp ok.n2 h hc);rw[ef] at h4;omega
  have hN:=Zc2 hpos (by intro h0;have:=congrArg List.length h0;rw[Zh] at this;simp at this;rw[this] at hlen;simp at hlen;omega) e;have hN2:=JI (l':=(Xs rows p).1) (fun x=>by
   rw[e1]
   constructor
   ·intro hx
    obtain⟨c,hc,rfl⟩:=List.mem_map.1 hx;exact List.mem_map.2 ⟨c,e2.mem_iff.2 hc,rfl⟩
   ·intro hx
    obtain⟨c,hc,rfl⟩:=List.mem_map.1 hx;exact List.mem_map.2 ⟨c,e2.mem_iff.1 hc,rfl⟩) hN
  refine⟨?_,fun n hn=>?_⟩
  ·obtain⟨n,hn,e⟩:=hN2.1
   exact⟨n,hn,by rw[ef];exact e⟩
  ·rw[ef];exact hN2.2 n hn
theorem Zil {rows:List (List Int)}{mi:Bool}(ok:RowsOk rows)(num:∀ a b,a<rows.length->b<rows.length->0<=Za rows a b/\Za rows a b<=2147483647)(sym:mi=true->∀ a b,a<rows.length->b<rows.length->Za rows a b=Za rows b a) :
  KrnOk (rows.length-1) (fun p=>(Xu rows p).1) (fun p=>(ZZ rows mi p).1) (fun p=>∃ s,Yq rows p=some s) (fun p=>Vu rows (rows.length-1-p.length) p) where
 len:=fun p ⟨s,h⟩=>by have:=Jz ok.n1 ok.n2 (m:=s.1) (last:=s.2.1) (cost:=s.2.2) h;omega
 kid:=fun p ⟨s,h⟩ hlt n hn=>by
  obtain⟨l,e1,e2,_⟩:=Q6 (m:=s.1) (last:=s.2.1) (cost:=s.2.2) h;rw[e1] at hn;obtain⟨c,hc,rfl⟩:=List.mem_map.1 hn;exact⟨_,Qq ok.n1 ok.n2 (m:=s.1) (last:=s.2.1) (cost:=s.2.2) h (e2.mem_iff.1 hc)⟩
 leaf:=fun p ⟨s,h⟩ hpl=>by
  obtain⟨l,WO⟩:=XM ok.n1 ok.n2 (m:=s.1) (last:=s.2.1) (cost:=s.2.2) h;have hwl:=WO.len;have hll:l.length=rows.length-1:=by rw[<-hpl,WO.eq,Zh]
  have hm0:Zb s.1=[]:=List.eq_nil_of_length_eq_zero (by omega);show (ZZ rows mi p).1=_;have e1:Vu rows (rows.length-1-p.length) p=Yn rows 0 l:=by
   rw[show rows.length-1-p.length=0 by omega];show Yn rows 0 (p.map Int.toNat)=_;rw[WO.eq,Vj]
  rw[e1];have e2:=Jw rows l [] 0;rw[List.append_nil] at e2;unfold ZZ;rw[h,e2];obtain⟨m,last,cost⟩:=s;simp only at hm0 WO ⊢;simp only[hm0,if_true];rw[WO.cost,WO.last]
  rfl
 low:=fun p ⟨s,h⟩=>(Q3 (mirror:=mi) ok.n1 ok.n2 num sym (m:=s.1) (last:=s.2.1) (cost:=s.2.2) h).2.1
 node:=fun p ⟨s,h⟩ hlt=>by
  have hlen:=Jz ok.n1 ok.n2 (m:=s.1) (last:=s.2.1) (cost:=s.2.2) h;obtain⟨l,e1,e2,_⟩:=Q6 (m:=s.1) (last:=s.2.1) (cost:=s.2.2) h;obtain⟨f,hf⟩:∃ f,rows.length-1-p.length=f+1:=⟨rows.length-1-p.length-1,by omega⟩;have ef:∀ c:Int,rows.length-1-(p++[c]).length=f:=fun c=>by simp;omega
  have e:YL (fun x=>Vu rows f (p++[x])) (-1) (Zf (Zb s.1))=Vu rows (rows.length-1-p.length) p:=by
   rw[hf];show _=YL _ (-1) (match Yq rows p with | none=>[] | some (m,_,_)=>Zf (Zb m));rw[h]
  have hpos:∀ x∈Zf (Zb s.1),0<=Vu rows f (p++[x]):=fun x hx=>by
   obtain⟨c,hc,rfl⟩:=List.mem_map.1 hx;have h4:=Q3 (mirror:=mi) ok.n1 ok.n2 num sym (Qq ok.n1 ok.n2 (m:=s.1) (last:=s.2.1) (cost:=s.2.2) h hc);rw[ef] at h4;omega
  have hN:=Zc2 hpos (by intro h0;have:=congrArg List.length h0;rw[Zh] at this;simp at this;rw[this] at hlen;simp at hlen;omega) e;have hN2:=JI (l':=(Xu rows p).1) (fun x=>by
   rw[e1]
   constructor
   ·intro hx
    obtain⟨c,hc,rfl⟩:=List.mem_map.1 hx;exact List.mem_map.2 ⟨c,e2.mem_iff.2 hc,rfl⟩
   ·intro hx
    obtain⟨c,hc,rfl⟩:=List.mem_map.1 hx;exact List.mem_map.2 ⟨c,e2.mem_iff.1 hc,rfl⟩) hN
  refine⟨?_,fun n hn=>?_⟩
  ·obtain⟨n,hn,e⟩:=hN2.1
   exact⟨n,hn,by rw[ef];exact e⟩
  ·rw[ef];exact hN2.2 n hn
def Zgf (cap:Int) : List Int->List Int->Int
 | w::ws,x::p=>Zgf (cap-x*w) ws p
 | _,_=>cap
def ZjY (out:Int) : List Int->List Int->Int
 | v::vs,x::p=>ZjY (out+(1-x)*v) vs p
 | _,_=>out
theorem Jg : ∀ {p ws vs:List Int} {room out r o:Int},stP room out ws vs p=some (r,o)->Zgf room ws p=r/\ZjY out vs p=o
 | [],ws,vs,room,out,r,o,h=>by
  have h':some (room,out)=some (r,o):=by cases ws<;>cases vs<;>exact h
  injection h' with h'
  injection h' with h1 h2
  subst h1 h2;exact⟨by cases ws<;>rfl,by cases vs<;>rfl⟩
 | x::p,[],vs,room,out,r,o,h=>by cases vs<;>simp[stP] at h
 | x::p,w::ws,[],room,out,r,o,h=>by simp[stP] at h
 | x::p,w::ws,v::vs,room,out,r,o,h=>by
  unfold stP at h;unfold Zgf ZjY
  by_cases h1:x=1
  ·subst h1
   rw[if_pos rfl] at h;split at h
   ·cases h
   ·have:=Jg h
    simpa using this
  ·rw[if_neg h1] at h
   by_cases h0:x=0
   ·subst h0
    rw[if_pos rfl] at h;split at h
    ·cases h
    ·have:=Jg h
     simpa using this
   ·rw[if_neg h0] at h;cases h
def ZA (lo hi:Int) : Array Value:=#[.int .i64 lo,.int .i64 hi,.int .i64 0,.int .i64 0,.int .i64 0,.int .i64 0,.int .i64 0,.int .i64 0,.int .i64 0]
def Yv (lo hi:Int) : Value:=.agg #[.int .i64 lo,.int .i64 hi,.int .i64 0,.int .i64 0,.int .i64 0,.int .i64 0,.int .i64 0,.int .i64 0,.int .i64 0]
theorem Jh (lo hi:Int)(i:Nat)(hi9:i<9) : (ZA lo hi)[i]?=some (.int .i64 (if i=0 then lo else if i=1 then hi else 0)):=by
 unfold ZA
 match i,hi9 with
 | 0,_=>rfl
 | 1,_=>rfl
 | 2,_=>rfl
 | 3,_=>rfl
 | 4,_=>rfl
 | 5,_=>rfl
 | 6,_=>rfl
 | 7,_=>rfl
 | 8,_=>rfl
theorem Zap {w0 w:World}(x:Ext w0 w){g:Nat}(hg:w0.heap.size<=g)(u0 u1 u2 u3 u4 u5 u6 u7 u8:Value) :
  Ext w0 (((((((((w.setCell ⟨g,0,none⟩ u0).setCell ⟨g,1,none⟩ u1).setCell ⟨g,2,none⟩ u2).setCell ⟨g,3,none⟩ u3).setCell ⟨g,4,none⟩ u4).setCell ⟨g,5,none⟩ u5).setCell ⟨g,6,none⟩ u6).setCell ⟨g,7,none⟩ u7).setCell ⟨g,8,none⟩ u8) :=
 ((((((((x.setNew (p:=⟨g,0,none⟩) hg u0).setNew (p:=⟨g,1,none⟩) hg u1).setNew (p:=⟨g,2,none⟩) hg u2).setNew (p:=⟨g,3,none⟩) hg u3).setNew (p:=⟨g,4,none⟩) hg u4).setNew (p:=⟨g,5,none⟩) hg u5).setNew (p:=⟨g,6,none⟩) hg u6).setNew (p:=⟨g,7,none⟩) hg u7).setNew (p:=⟨g,8,none⟩) hg u8
theorem Zcr (x:Int)(h₀:0<=x)(h₁:x<=2147483647) : bits .and .u64 x 2147483647=x:=by
 have h:=bits_mask .u64 64 (by decide) wraps_u64 31 (by decide) x h₀ (by omega);have h':bits .and .u64 x 2147483647=x%2147483648:=h;rw[h'];omega
theorem ZjZ (a:Int)(w:World)(h0:0<=a)(h1:a<=2147483647) : Calls Tryz.prog 152 #[.int .i64 a] w fun e w'=>e=.returned (Yv a 0)/\Ext w w':=by
 have na:decide (a<0)=false:=by simpa using h0
 have wa:IntKind.u64.wrap a=a:=wraps_u64 _ h0 (by omega);have wi:IntKind.i64.wrap a=a:=IntWalk.i64_in _ (by omega);have ba:bits .and .u64 a 2147483647=a:=Zcr a h0 h1;have b0:bits .and .u64 0 2147483647=0:=Zcr 0 (by omega) (by omega);have da:a / 2147483648=0:=by omega
 replace wa:=Hd wa;replace wi:=Hd wi;replace ba:=Hd ba;replace b0:=Hd b0;replace da:=Hd da;have B1:Hid (Blk ((w.alloc (.cells (ZA 0 0) 183)).alloc (.cells (ZA 0 0) 183)) (w.heap.size+1) 183 (ZA 0 0)):=.new (by simp);have B0:Hid (Blk ((w.alloc (.cells (ZA 0 0) 183)).alloc (.cells (ZA 0 0) 183)) w.heap.size 183 (ZA 0 0)):=.alloc (.new rfl) _;have wa':=wa.out;go_enter Tryz.func152,Tryz.ntmps152;go_wp2_with (fail);have Y0:Ext w ((w.alloc (.cells (ZA 0 0) 183)).alloc (.cells (ZA 0 0) 183)):=((Ext.rf _).alloc _).alloc _;go_loopw [4,5] (fun u i wr=>∃ (k:Nat),i=.int .i64 k/\k<=3/\(k=0/\u=.int .u64 a/\Hid (Blk wr (w.heap.size+1) 183 (ZA 0 0))\/1<=k/\u=.int .u64 0/\Hid (Blk wr (w.heap.size+1) 183 (ZA a 0)))/\Hid (Blk wr w.heap.size 183 (ZA 0 0))/\Ext w wr) (fun _ i _=>3-(intOf i).toNat)
 case atStart=>exact⟨0,rfl,by omega,.inl ⟨rfl,rfl,B1⟩,B0,Y0⟩
 case round =>
  obtain⟨k,rfl,hk,hu,hZ,Y⟩:=hrel;obtain⟨rfl,rfl,hB⟩ | ⟨rfl,rfl,hB⟩ | ⟨rfl,rfl,hB⟩ | ⟨rfl,rfl,hB⟩:(k=0/\_=Value.int .u64 a/\Hid (Blk wr (w.heap.size+1) 183 (ZA 0 0)))\/(k=1/\_=Value.int .u64 0/\Hid (Blk wr (w.heap.size+1) 183 (ZA a 0)))\/(k=2/\_=Value.int .u64 0/\Hid (Blk wr (w.heap.size+1) 183 (ZA a 0)))\/(k=3/\_=Value.int .u64 0/\Hid (Blk wr (w.heap.size+1) 183 (ZA a 0))):=by
   rcases hu with h | ⟨h1,h2,h3⟩
   ·exact .inl h
   ·obtain rfl | rfl | rfl:k=1\/k=2\/k=3:=by omega
    ·exact .inr (.inl ⟨rfl,h2,h3⟩)
    ·exact .inr (.inr (.inl ⟨rfl,h2,h3⟩))
    ·exact .inr (.inr (.inr ⟨rfl,h2,h3⟩))
  ·
   have c:=hB.out.cell 0;have f:=hB.out.free 0;have zg:=hB.out.lt;have c':wr.cell? ⟨w.heap.size+1,0,none⟩=some (.int .i64 0):=c;have hN:Hid (Blk (wr.setCell ⟨w.heap.size+1,0,none⟩ (.int .i64 a)) (w.heap.size+1) 183 (ZA a 0)):=hB.out.set 0 _;have hN0:Hid (Blk (wr.setCell ⟨w.heap.size+1,0,none⟩ (.int .i64 a)) w.heap.size 183 (ZA 0 0)):=hZ.out.far (by simp) _;have yN:=Hd (Y.setNew (p:=⟨w.heap.size+1,0,none⟩) (by simp) (.int .i64 a));clear c;have wi':=wi.out;have ba':=ba.out;have da':=da.out;go_wp2;go_roundw
   case rel=>exact⟨1,by go_num,by omega,.inr ⟨by omega,rfl,hN⟩,hN0,yN.out⟩
   case measure=>simp[intOf]
  ·
   have c:=hB.out.cell 1;have f:=hB.out.free 1;have zg:=hB.out.lt;have c':wr.cell? ⟨w.heap.size+1,1,none⟩=some (.int .i64 0):=c;have hN:Hid (Blk (wr.setCell ⟨w.heap.size+1,1,none⟩ (.int .i64 0)) (w.heap.size+1) 183 (ZA a 0)):=hB.out.set 1 _;have hN0:Hid (Blk (wr.setCell ⟨w.heap.size+1,1,none⟩ (.int .i64 0)) w.heap.size 183 (ZA 0 0)):=hZ.out.far (by simp) _;have yN:=Hd (Y.setNew (p:=⟨w.heap.size+1,1,none⟩) (by simp) (.int .i64 0));clear c;have b0':=b0.out;have w0':IntKind.i64.wrap 0=0:=IntWalk.i64_in _ (by omega);go_wp2;go_roundw
   case rel=>exact⟨2,by go_num,by omega,.inr ⟨by omega,rfl,hN⟩,hN0,yN.out⟩
   case measure=>simp[intOf]
  ·
   have c:=hB.out.cell 2;have f:=hB.out.free 2;have zg:=hB.out.lt;have c':wr.cell? ⟨w.heap.size+1,2,none⟩=some (.int .i64 0):=c;have hN:Hid (Blk (wr.setCell ⟨w.heap.size+1,2,none⟩ (.int .i64 0)) (w.heap.size+1) 183 (ZA a 0)):=hB.out.set 2 _;have hN0:Hid (Blk (wr.setCell ⟨w.heap.size+1,2,none⟩ (.int .i64 0)) w.heap.size 183 (ZA 0 0)):=hZ.out.far (by simp) _;have yN:=Hd (Y.setNew (p:=⟨w.heap.size+1,2,none⟩) (by simp) (.int .i64 0));clear c;have b0':=b0.out;have w0':IntKind.i64.wrap 0=0:=IntWalk.i64_in _ (by omega);go_wp2;go_roundw
   case rel=>exact⟨3,by go_num,by omega,.inr ⟨by omega,rfl,hN⟩,hN0,yN.out⟩
   case measure=>simp[intOf]
  ·have c0:wr.cell? ⟨w.heap.size+1,0,none⟩=some (.int .i64 a):=hB.out.cell 0
   have c1:=hB.out.c1;have c2:=hB.out.c2;have c3:=hB.out.c3;have c4:=hB.out.c4;have c5:=hB.out.c5;have c6:=hB.out.c6;have c7:=hB.out.c7;have c8:=hB.out.c8;have z0:=hZ.out.c0;have z1:=hZ.out.c1;have z2:=hZ.out.c2;have z3:=hZ.out.c3;have z4:=hZ.out.c4;have z5:=hZ.out.c5;have z6:=hZ.out.c6;have z7:=hZ.out.c7;have z8:=hZ.out.c8;have f0:wr.frozen? ⟨w.heap.size,0,none⟩=false:=hZ.out.free 0;have f1:wr.frozen? ⟨w.heap.size,1,none⟩=false:=hZ.out.free 1;have f2:wr.frozen? ⟨w.heap.size,2,none⟩=false:=hZ.out.free 2;have f3:wr.frozen? ⟨w.heap.size,3,none⟩=false:=hZ.out.free 3;have f4:wr.frozen? ⟨w.heap.size,4,none⟩=false:=hZ.out.free 4;have f5:wr.frozen? ⟨w.heap.size,5,none⟩=false:=hZ.out.free 5;have f6:wr.frozen? ⟨w.heap.size,6,none⟩=false:=hZ.out.free 6;have f7:wr.frozen? ⟨w.heap.size,7,none⟩=false:=hZ.out.free 7;have f8:wr.frozen? ⟨w.heap.size,8,none⟩=false:=hZ.out.free 8;have Y9:=Hd (Zap Y (g:=w.heap.size) (Nat.le_refl _) (.int .i64 a) (.int .i64 0) (.int .i64 0) (.int .i64 0) (.int .i64 0) (.int .i64 0) (.int .i64 0) (.int .i64 0) (.int .i64 0));go_wp2;exact bodyPost_ret (v:=Yv a 0) (by simp[results,Tryz.results152,go_sem,Yv, *]) rfl ⟨rfl,Y9.out⟩
theorem Zhb (x:Int)(h₀:0<=x)(h₁:x<=9223372036854775807) : bits .and .i64 x 2147483647=x%2147483648 :=
 bits_mask .i64 63 (by decide) (fun n h0 h1=>IntWalk.i64_in n (by omega)) 31 (by decide) x h₀ (by omega)
def Zr (p:Int) : Int:=p%2147483648
def Zj (p:Int) : Int:=p / 2147483648
theorem Ji {p:Int}(h:0<=p/\p<=4611686014132420609) : 0<=Zr p/\Zr p<=2147483647/\0<=Zj p/\Zj p<=2147483647:=by
 unfold Zr Zj;omega
theorem JJ (x y:Int)(i:Nat)(h:i<9) : (ZA x y).setIfInBounds i (.int .i64 (if i=0 then x else if i=1 then y else 0))=ZA x y:=by
 match i,h with
 | 0,_=>rfl
 | 1,_=>rfl
 | 2,_=>rfl
 | 3,_=>rfl
 | 4,_=>rfl
 | 5,_=>rfl
 | 6,_=>rfl
 | 7,_=>rfl
 | 8,_=>rfl
def Zim (p:Int)(i k:Nat)(x y ov:Int) : Prop:=(i=0/\k=0/\x=0/\y=0/\ov=0)\/(i=0/\k=1/\x=Zr p/\y=0/\ov=Zj p)\/((1<=i\/2<=k)/\x=Zr p/\y=Zj p/\ov=0)
theorem Zin {a b p:Int}(hp:p=a*b)(bp:0<=p/\p<=4611686014132420609){i k:Nat}{x y ov:Int}(hi:i<4)(hk:k<4)(h:Zim p i k x y ov) :
  ∃ c m s sl sh x' y':Int,c=(if i+k=0 then x else if i+k=1 then y else 0)/\m=(if i=0 then a else if i=1 then 0 else 0)*(if k=0 then b else if k=1 then 0 else 0)/\s=c+m+ov/\sl=s%2147483648/\sh=s / 2147483648 /\
   (0<=c/\c<=2147483647)/\(0<=m/\m<=4611686014132420609)/\(0<=ov/\ov<=2147483647)/\(ZA x y).setIfInBounds (i+k) (.int .i64 sl)=ZA x' y'/\Zim p i (k+1) x' y' sh:=by
 have hb:=Ji bp;rcases h with⟨rfl,rfl,rfl,rfl,rfl⟩ | ⟨rfl,rfl,rfl,rfl,rfl⟩ | ⟨h,rfl,rfl,rfl⟩
 ·refine⟨0,p,p,Zr p,Zj p,Zr p,0,rfl,by simpa using hp,by omega,rfl,rfl,by omega,bp,by omega,rfl,.inr (.inl ⟨rfl,rfl,rfl,rfl,rfl⟩)⟩
 ·refine⟨0,0,Zj p,Zj p,0,Zr p,Zj p,rfl,by simp,by omega,by omega,by omega,by omega,by omega,by omega,rfl,.inr (.inr ⟨by omega,rfl,rfl,rfl⟩)⟩
 ·refine⟨(if i+k=0 then Zr p else if i+k=1 then Zj p else 0),0,_,(if i+k=0 then Zr p else if i+k=1 then Zj p else 0),0,Zr p,Zj p,rfl,?_,rfl,?_,?_,?_,by omega,by omega,JJ _ _ _ (by omega),.inr (.inr ⟨by omega,rfl,rfl,rfl⟩)⟩
  ·rcases h with h | h
   ·rw[if_neg (show ¬i=0 by omega)]
    split<;>simp
   ·rw[if_neg (show ¬k=0 by omega)]
    split<;>(split<;>simp)
  ·split
   ·omega
   ·split<;>omega
  ·split
   ·omega
   ·split<;>omega
  ·split
   ·omega
   ·split<;>omega
theorem Zhc (a b p:Int)(w:World)(ha:0<=a/\a<=2147483647)(hb:0<=b/\b<=2147483647)(hp:p=a*b) :
  Calls Tryz.prog 151 #[Yv a 0,Yv b 0] w fun e w'=>e=.returned (Yv (Zr p) (Zj p))/\Ext w w':=by
 have bp:0<=p/\p<=4611686014132420609:=by rw[hp];exact Uh ha.1 ha.2 hb.1 hb.2
 have hpb:=Ji bp;replace hp:=Hd hp;have Y0:Ext w ((((w.alloc (.cells (ZA a 0) 183)).alloc (.cells (ZA b 0) 183)).alloc (.cells (ZA 0 0) 183)).alloc (.cells (ZA 0 0) 183)):=((((Ext.rf _).alloc _).alloc _).alloc _).alloc _;have BA:Blk ((((w.alloc (.cells (ZA a 0) 183)).alloc (.cells (ZA b 0) 183)).alloc (.cells (ZA 0 0) 183)).alloc (.cells (ZA 0 0) 183)) w.heap.size 183 (ZA a 0):=.alloc (.alloc (.alloc (.new rfl) _) _) _;have BB:Blk ((((w.alloc (.cells (ZA a 0) 183)).alloc (.cells (ZA b 0) 183)).alloc (.cells (ZA 0 0) 183)).alloc (.cells (ZA 0 0) 183)) (w.heap.size+1) 183 (ZA b 0):=.alloc (.alloc (.new (by simp)) _) _;have BR:Blk ((((w.alloc (.cells (ZA a 0) 183)).alloc (.cells (ZA b 0) 183)).alloc (.cells (ZA 0 0) 183)).alloc (.cells (ZA 0 0) 183)) (w.heap.size+1+1) 183 (ZA 0 0):=.alloc (.new (by simp)) _;have BC:Blk ((((w.alloc (.cells (ZA a 0) 183)).alloc (.cells (ZA b 0) 183)).alloc (.cells (ZA 0 0) 183)).alloc (.cells (ZA 0 0) 183)) (w.heap.size+1+1+1) 183 (ZA 0 0):=.new (by simp);replace Y0:=Hd Y0;replace BA:=Hd BA;replace BB:=Hd BB;replace BR:=Hd BR;replace BC:=Hd BC;unfold Yv;go_enter Tryz.func151,Tryz.ntmps151;go_wp2_with (fail);go_loopw [6] (fun i wr=>∃ (n:Nat) (x y:Int),i=.int .i64 n/\n<=4/\Hid ((n=0/\x=0/\y=0)\/(1<=n/\x=Zr p/\y=Zj p))/\Ext w wr/\Hid (Blk wr w.heap.size 183 (ZA a 0))/\Hid (Blk wr (w.heap.size+1) 183 (ZA b 0))/\Hid (Blk wr (w.heap.size+1+1) 183 (ZA 0 0))/\Hid (Blk wr (w.heap.size+1+1+1) 183 (ZA x y))) (fun i _=>4-(intOf i).toNat)
 case atStart=>exact⟨0,0,0,rfl,by omega,.inl ⟨rfl,rfl,rfl⟩,Y0.out,BA,BB,BR,BC⟩
 case round =>
  obtain⟨wo,rfl⟩:=Wq wr;obtain⟨n,x,y,rfl,hn,HS,Y,A1,B1,R1,C1⟩:=hrel
  by_cases hlt:n<4
  ·go_wp2_with (fail)
   go_loopw [7,8] (fun o i wr=>∃ (k:Nat) (x y ov:Int),i=.int .i64 k/\o=.int .i64 ov/\k<=4/\Hid (Zim p n k x y ov)/\Ext w wr/\Hid (Blk wr w.heap.size 183 (ZA a 0))/\Hid (Blk wr (w.heap.size+1) 183 (ZA b 0))/\Hid (Blk wr (w.heap.size+1+1) 183 (ZA 0 0))/\Hid (Blk wr (w.heap.size+1+1+1) 183 (ZA x y))) (fun _ i _=>4-(intOf i).toNat)
   case atStart =>
    refine⟨0,x,y,0,rfl,rfl,by omega,?_,Y,A1,B1,R1,C1⟩;rcases HS.out with⟨h1,h2,h3⟩ | ⟨h1,h2,h3⟩
    ·exact .inl ⟨h1,rfl,h2,h3,rfl⟩
    ·exact .inr (.inr ⟨.inl h1,h2,h3,rfl⟩)
   case round =>
    obtain⟨wq,rfl⟩:=Wq wr;obtain⟨k,x,y,ov,rfl,rfl,hk,HM,Y2,A2,B2,R2,C2⟩:=hrel
    by_cases hlk:k<4
    ·obtain⟨c,m,s,sl,sh,x',y',hc,hm,hs,hsl,hsh,bc,bm,bo,hset,HM2⟩:=Zin hp.out bp hlt hlk HM.out
     have gC:=C2.out.cell (n+k);have gA:=A2.out.cell n;have gB:=B2.out.cell k;rw[Jh _ _ _ (by omega)] at gC gA gB;rw[<-hc] at gC;have fC:=C2.out.free (n+k);obtain⟨av,hav⟩:∃ av,Hid (av=(if n=0 then a else if n=1 then 0 else 0)):=⟨_,rfl⟩;obtain⟨bv,hbv⟩:∃ bv,Hid (bv=(if k=0 then b else if k=1 then 0 else 0)):=⟨_,rfl⟩;rw[<-hav.out] at gA hm;rw[<-hbv.out] at gB hm;have wm:Hid (IntKind.i64.wrap (av*bv)=m):=Hd (by rw[<-hm];exact IntWalk.i64_in _ (by omega));have w1:Hid (IntKind.i64.wrap (c+m)=c+m):=IntWalk.i64_in _ (by omega);have w2:Hid (IntKind.i64.wrap (c+m+ov)=s):=Hd (by rw[hs];exact IntWalk.i64_in _ (by omega));have wn:Hid (IntKind.i64.wrap ((n:Int)+(k:Int))=(n:Int)+(k:Int)):=IntWalk.i64_in _ (by omega);have ea:Hid (bits .and .i64 s 2147483647=sl):=Hd (by rw[Zhb s (by omega) (by omega),hsl]);have es:Hid (s / 2147483648=sh):=hsh.symm;have bs:0<=s/\s<=9223372036854775807:=by omega
     have bsh:0<=sh/\sh<=9223372036854775807:=by omega
     have q1:(0:Int)<=(n:Int)+(k:Int):=by omega
     have q2:(n:Int)+(k:Int)<9:=by omega
     have q3:(n:Int)<9:=by omega
     have q4:(k:Int)<9:=by omega
     replace hset:=Hd hset;replace HM2:=Hd HM2;have zA:=A2.out.lt;have zB:=B2.out.lt;have zC:=C2.out.lt;clear hc hm hs hsl hsh bm bo;have wn':=wn.out;have wm':=wm.out;have w1':=w1.out;have w2':=w2.out;have ea':=ea.out;have es':=es.out;go_wp2_with (go_quiet (fail));go_roundw
     case rel=>exact⟨k+1,x',y',sh,by go_num,rfl,by omega,HM2,(Y2.drewN _).setNew (by simp<;>omega) _,(A2.out.drewN _).far (by simp<;>omega) _,(B2.out.drewN _).far (by simp<;>omega) _,(R2.out.drewN _).far (by simp<;>omega) _,by rw[<-hset.out];exact(C2.out.drewN _).set (n+k) _⟩
     case measure=>simp[intOf];omega
    ·obtain rfl:k=4:=by omega
     have HM4:Hid (x=Zr p/\y=Zj p/\ov=0):=by
      rcases HM.out with⟨_,h,_⟩ | ⟨_,h,_⟩ | ⟨_,h1,h2,h3⟩
      ·omega
      ·omega
      ·exact⟨h1,h2,h3⟩
     obtain⟨rfl,rfl,rfl⟩:=HM4.out;have gC:=C2.out.cell (n+4);rw[Jh _ _ _ (by omega),if_neg (by omega),if_neg (by omega)] at gC;have fC:=C2.out.free (n+4);have q1:(0:Int)<=(n:Int)+4:=by omega
     have q2:(n:Int)+4<9:=by omega
     have wn':IntKind.i64.wrap ((n:Int)+4)=(n:Int)+4:=IntWalk.i64_in _ (by omega);have hset:Hid ((ZA (Zr p) (Zj p)).setIfInBounds (n+4) (.int .i64 0)=ZA (Zr p) (Zj p)):=by
      have h:=JJ (Zr p) (Zj p) (n+4) (by omega);rw[if_neg (by omega),if_neg (by omega)] at h;exact h
     clear HM HM4;go_wp2_with (fail);go_roundw
     case rel=>exact⟨n+1,Zr p,Zj p,by go_num,by omega,.inr ⟨by omega,rfl,rfl⟩,Y2.setNew (by simp<;>omega) _,A2.out.far (by simp<;>omega) _,B2.out.far (by simp<;>omega) _,R2.out.far (by simp<;>omega) _,by rw[<-hset.out];exact C2.out.set (n+4) _⟩
     case measure=>simp[intOf];omega
  ·obtain rfl:n=4:=by omega
   have HS4:Hid (x=Zr p/\y=Zj p):=by
    rcases HS.out with⟨h,_⟩ | ⟨_,h1,h2⟩
    ·omega
    ·exact⟨h1,h2⟩
   obtain⟨rfl,rfl⟩:=HS4.out;clear HS HS4;have c0:=C1.out.c0;have c1:=C1.out.c1;have c2:=C1.out.c2;have c3:=C1.out.c3;have c4:=C1.out.c4;have c5:=C1.out.c5;have c6:=C1.out.c6;have c7:=C1.out.c7;have c8:=C1.out.c8;have z0:=R1.out.c0;have z1:=R1.out.c1;have z2:=R1.out.c2;have z3:=R1.out.c3;have z4:=R1.out.c4;have z5:=R1.out.c5;have z6:=R1.out.c6;have z7:=R1.out.c7;have z8:=R1.out.c8;have f0:wo.frozen? ⟨w.heap.size+1+1,0,none⟩=false:=R1.out.free 0;have f1:wo.frozen? ⟨w.heap.size+1+1,1,none⟩=false:=R1.out.free 1;have f2:wo.frozen? ⟨w.heap.size+1+1,2,none⟩=false:=R1.out.free 2;have f3:wo.frozen? ⟨w.heap.size+1+1,3,none⟩=false:=R1.out.free 3;have f4:wo.frozen? ⟨w.heap.size+1+1,4,none⟩=false:=R1.out.free 4;have f5:wo.frozen? ⟨w.heap.size+1+1,5,none⟩=false:=R1.out.free 5;have f6:wo.frozen? ⟨w.heap.size+1+1,6,none⟩=false:=R1.out.free 6;have f7:wo.frozen? ⟨w.heap.size+1+1,7,none⟩=false:=R1.out.free 7;have f8:wo.frozen? ⟨w.heap.size+1+1,8,none⟩=false:=R1.out.free 8;have Y9:=Hd (Zap Y (g:=w.heap.size+1+1) (by omega) (.int .i64 (Zr p)) (.int .i64 (Zj p)) (.int .i64 0) (.int .i64 0) (.int .i64 0) (.int .i64 0) (.int .i64 0) (.int .i64 0) (.int .i64 0));go_wp2_with (fail);exact bodyPost_ret (v:=Yv (Zr p) (Zj p)) (by simp[results,Tryz.results151,go_sem,Yv, *]) rfl ⟨rfl,Y9.out⟩
def ZJ (m:Bool)(lo hi:Int) : Array Value:=#[.bool m,.int .i64 lo,.int .i64 hi,.int .i64 0,.int .i64 0,.int .i64 0,.int .i64 0,.int .i64 0,.int .i64 0,.int .i64 0]
def YD (m:Bool)(lo hi:Int) : Value:=.agg #[.bool m,.int .i64 lo,.int .i64 hi,.int .i64 0,.int .i64 0,.int .i64 0,.int .i64 0,.int .i64 0,.int .i64 0,.int .i64 0]
theorem Zfr {w0 w:World}(x:Ext w0 w){g:Nat}(hg:w0.heap.size<=g)(u0 u1 u2 u3 u4 u5 u6 u7 u8 u9:Value) :
  Ext w0 ((((((((((w.setCell ⟨g,0,none⟩ u0).setCell ⟨g,1,none⟩ u1).setCell ⟨g,2,none⟩ u2).setCell ⟨g,3,none⟩ u3).setCell ⟨g,4,none⟩ u4).setCell ⟨g,5,none⟩ u5).setCell ⟨g,6,none⟩ u6).setCell ⟨g,7,none⟩ u7).setCell ⟨g,8,none⟩ u8).setCell ⟨g,9,none⟩ u9) :=
 (Zap x hg u0 u1 u2 u3 u4 u5 u6 u7 u8).setNew (p:=⟨g,9,none⟩) hg u9
theorem Zaq (a:Int)(w:World)(h0:0<=a)(h1:a<=2147483647) : Calls Tryz.prog 138 #[.int .i64 a] w fun e w'=>e=.returned (YD false a 0)/\Ext w w':=by
 have na:decide (a<0)=false:=by simpa using h0
 have B0:Blk (w.alloc (.cells (ZJ false 0 0) 185)) w.heap.size 185 (ZJ false 0 0):=.new rfl;have Y0:Ext w (w.alloc (.cells (ZJ false 0 0) 185)):=(Ext.rf _).alloc _;replace B0:=Hd B0;replace Y0:=Hd Y0;go_enter Tryz.func138,Tryz.ntmps138;go_wp2_with (fail);refine(ZjZ a _ h0 h1).mono ?_;rintro e w2 ⟨rfl,x2⟩;have B2:=B0.out.ext x2;have z0:=B2.c0;have z1:=B2.c1;have z2:=B2.c2;have z3:=B2.c3;have z4:=B2.c4;have z5:=B2.c5;have z6:=B2.c6;have z7:=B2.c7;have z8:=B2.c8;have z9:=B2.c9;have f0:w2.frozen? ⟨w.heap.size,0,none⟩=false:=B2.free 0;have f1:w2.frozen? ⟨w.heap.size,1,none⟩=false:=B2.free 1;have f2:w2.frozen? ⟨w.heap.size,2,none⟩=false:=B2.free 2;have f3:w2.frozen? ⟨w.heap.size,3,none⟩=false:=B2.free 3;have f4:w2.frozen? ⟨w.heap.size,4,none⟩=false:=B2.free 4;have f5:w2.frozen? ⟨w.heap.size,5,none⟩=false:=B2.free 5;have f6:w2.frozen? ⟨w.heap.size,6,none⟩=false:=B2.free 6;have f7:w2.frozen? ⟨w.heap.size,7,none⟩=false:=B2.free 7;have f8:w2.frozen? ⟨w.heap.size,8,none⟩=false:=B2.free 8;have f9:w2.frozen? ⟨w.heap.size,9,none⟩=false:=B2.free 9;have Y2:=Hd (Zfr (Y0.out.tr x2) (g:=w.heap.size) (Nat.le_refl _) (.bool false) (.int .i64 a) (.int .i64 0) (.int .i64 0) (.int .i64 0) (.int .i64 0) (.int .i64 0) (.int .i64 0) (.int .i64 0) (.int .i64 0));clear B2 x2;unfold Yv;go_wp2_with (fail);exact bodyPost_ret (v:=YD false a 0) (by simp[results,Tryz.results138,go_sem,YD, *]) rfl ⟨rfl,Y2.out⟩
theorem Zjv (m:Bool)(lo hi:Int)(w:World) : Calls Tryz.prog 150 #[YD m lo hi] w fun e w'=>e=.returned (YD (!m) lo hi)/\Ext w w':=by
 have B1:Blk ((w.alloc (.cells (ZJ m lo hi) 185)).alloc (.cells (ZJ false 0 0) 185)) w.heap.size 185 (ZJ m lo hi):=.alloc (.new rfl) _;have Y0:Ext w ((w.alloc (.cells (ZJ m lo hi) 185)).alloc (.cells (ZJ false 0 0) 185)):=((Ext.rf _).alloc _).alloc _;replace B1:=Hd B1;have Y2:=Hd (Zfr Y0 (g:=w.heap.size+1) (by omega) (.bool (!m)) (.int .i64 lo) (.int .i64 hi) (.int .i64 0) (.int .i64 0) (.int .i64 0) (.int .i64 0) (.int .i64 0) (.int .i64 0) (.int .i64 0));clear Y0;unfold YD;go_enter Tryz.func150,Tryz.ntmps150;go_wp2_with (fail);exact bodyPost_ret (v:=YD (!m) lo hi) (by simp[results,Tryz.results150,go_sem,YD]) rfl ⟨rfl,((Ext.rf _).alloc _).alloc _⟩
section
variable {W:World} {g:Nat} {m:Bool} {lo hi:Int}
theorem W5 (h:Blk W g 185 (ZJ m lo hi)) : (Instr.loadAt 183 (.pointer (some ⟨g,1,none⟩))).run Tryz.prog W=.ok (Yv lo hi) W:=by
 have c0:=h.c0;have c1:=h.c1;have c2:=h.c2;have c3:=h.c3;have c4:=h.c4;have c5:=h.c5;have c6:=h.c6;have c7:=h.c7;have c8:=h.c8;have c9:=h.c9;unfold Yv;clear h;go_simp
theorem Zem (h:Blk W g 185 (ZJ m lo hi)) : (Instr.loadAt 185 (.pointer (some ⟨g,0,none⟩))).run Tryz.prog W=.ok (YD m lo hi) W:=by
 have c0:=h.c0;have c1:=h.c1;have c2:=h.c2;have c3:=h.c3;have c4:=h.c4;have c5:=h.c5;have c6:=h.c6;have c7:=h.c7;have c8:=h.c8;have c9:=h.c9;unfold YD;clear h;go_simp
theorem Uo (h:Blk W g 185 (ZJ m lo hi)) : (Instr.loadAt 4 (.pointer (some ⟨g,0,none⟩))).run Tryz.prog W=.ok (.bool m) W:=by
 have c0:=h.c0;clear h;go_simp
def Zaf (W:World)(g:Nat)(m:Bool)(lo hi:Int) : World:=((((((((((W.setCell ⟨g,0,none⟩ (.bool m)).setCell ⟨g,1,none⟩ (.int .i64 lo)).setCell ⟨g,2,none⟩ (.int .i64 hi)).setCell ⟨g,3,none⟩ (.int .i64 0)).setCell ⟨g,4,none⟩ (.int .i64 0)).setCell ⟨g,5,none⟩ (.int .i64 0)).setCell ⟨g,6,none⟩ (.int .i64 0)).setCell ⟨g,7,none⟩ (.int .i64 0)).setCell ⟨g,8,none⟩ (.int .i64 0)).setCell ⟨g,9,none⟩ (.int .i64 0))
theorem U4 {m':Bool}{lo' hi':Int}(h:Blk W g 185 (ZJ m' lo' hi')) : (Instr.storeAt 185 (.pointer (some ⟨g,0,none⟩)) (YD m lo hi)).run Tryz.prog W=.ok () (Zaf W g m lo hi):=by
 have c0:=h.c0;have c1:=h.c1;have c2:=h.c2;have c3:=h.c3;have c4:=h.c4;have c5:=h.c5;have c6:=h.c6;have c7:=h.c7;have c8:=h.c8;have c9:=h.c9;have f0:W.frozen? ⟨g,0,none⟩=false:=h.free 0;have f1:W.frozen? ⟨g,1,none⟩=false:=h.free 1;have f2:W.frozen? ⟨g,2,none⟩=false:=h.free 2;have f3:W.frozen? ⟨g,3,none⟩=false:=h.free 3;have f4:W.frozen? ⟨g,4,none⟩=false:=h.free 4;have f5:W.frozen? ⟨g,5,none⟩=false:=h.free 5;have f6:W.frozen? ⟨g,6,none⟩=false:=h.free 6;have f7:W.frozen? ⟨g,7,none⟩=false:=h.free 7;have f8:W.frozen? ⟨g,8,none⟩=false:=h.free 8;have f9:W.frozen? ⟨g,9,none⟩=false:=h.free 9;unfold YD Zaf;clear h;go_simp
theorem Jj {m':Bool}{lo' hi':Int}(h:Blk W g 185 (ZJ m' lo' hi')) : Blk (Zaf W g m lo hi) g 185 (ZJ m lo hi):=by
 have h0:=h.set 0 (.bool m);have h1:=h0.set 1 (.int .i64 lo);have h2:=h1.set 2 (.int .i64 hi);have h3:=h2.set 3 (.int .i64 0);have h4:=h3.set 4 (.int .i64 0);have h5:=h4.set 5 (.int .i64 0);have h6:=h5.set 6 (.int .i64 0);have h7:=h6.set 7 (.int .i64 0);have h8:=h7.set 8 (.int .i64 0);have h9:=h8.set 9 (.int .i64 0);have e:((((((((((ZJ m' lo' hi').setIfInBounds 0 (.bool m)).setIfInBounds 1 (.int .i64 lo)).setIfInBounds 2 (.int .i64 hi)).setIfInBounds 3 (.int .i64 0)).setIfInBounds 4 (.int .i64 0)).setIfInBounds 5 (.int .i64 0)).setIfInBounds 6 (.int .i64 0)).setIfInBounds 7 (.int .i64 0)).setIfInBounds 8 (.int .i64 0)).setIfInBounds 9 (.int .i64 0)=ZJ m lo hi:=by simp[ZJ]
 rw[e] at h9;exact h9
theorem Jk {w0:World}(x:Ext w0 W)(hg:w0.heap.size<=g) : Ext w0 (Zaf W g m lo hi):=Zfr x hg _ _ _ _ _ _ _ _ _ _
end
theorem Zgg (a b p:Int)(w:World)(ha:0<=a/\a<=2147483647)(hb:0<=b/\b<=2147483647)(hp:p=a*b) :
  Calls Tryz.prog 137 #[YD false a 0,YD false b 0] w fun e w'=>e=.returned (YD false (Zr p) (Zj p))/\Ext w w':=by
 have B1:Blk (((w.alloc (.cells (ZJ false a 0) 185)).alloc (.cells (ZJ false b 0) 185)).alloc (.cells (ZJ false 0 0) 185)) w.heap.size 185 (ZJ false a 0):=.alloc (.alloc (.new rfl) _) _;have B2:Blk (((w.alloc (.cells (ZJ false a 0) 185)).alloc (.cells (ZJ false b 0) 185)).alloc (.cells (ZJ false 0 0) 185)) (w.heap.size+1) 185 (ZJ false b 0):=.alloc (.new (by simp)) _;have B3:Blk (((w.alloc (.cells (ZJ false a 0) 185)).alloc (.cells (ZJ false b 0) 185)).alloc (.cells (ZJ false 0 0) 185)) (w.heap.size+1+1) 185 (ZJ false 0 0):=.new (by simp);have Y0:Ext w (((w.alloc (.cells (ZJ false a 0) 185)).alloc (.cells (ZJ false b 0) 185)).alloc (.cells (ZJ false 0 0) 185)):=(((Ext.rf _).alloc _).alloc _).alloc _;have hgn:(((w.alloc (.cells (ZJ false a 0) 185)).alloc (.cells (ZJ false b 0) 185)).alloc (.cells (ZJ false 0 0) 185))=(((w.alloc (.cells #[.bool false,.int .i64 a,.int .i64 0,.int .i64 0,.int .i64 0,.int .i64 0,.int .i64 0,.int .i64 0,.int .i64 0,.int .i64 0] 185)).alloc (.cells #[.bool false,.int .i64 b,.int .i64 0,.int .i64 0,.int .i64 0,.int .i64 0,.int .i64 0,.int .i64 0,.int .i64 0,.int .i64 0] 185)).alloc (.cells #[.bool false,.int .i64 0,.int .i64 0,.int .i64 0,.int .i64 0,.int .i64 0,.int .i64 0,.int .i64 0,.int .i64 0,.int .i64 0] 185)):=rfl;rw[hgn] at B1 B2 B3 Y0;clear hgn;replace B1:=Hd B1;replace B2:=Hd B2;replace B3:=Hd B3;replace Y0:=Hd Y0;replace hp:=Hd hp;unfold YD;go_enter Tryz.func137,Tryz.ntmps137;go_wp2_with (fail);generalize (((w.alloc (.cells #[.bool false,.int .i64 a,.int .i64 0,.int .i64 0,.int .i64 0,.int .i64 0,.int .i64 0,.int .i64 0,.int .i64 0,.int .i64 0] 185)).alloc (.cells #[.bool false,.int .i64 b,.int .i64 0,.int .i64 0,.int .i64 0,.int .i64 0,.int .i64 0,.int .i64 0,.int .i64 0,.int .i64 0] 185)).alloc (.cells #[.bool false,.int .i64 0,.int .i64 0,.int .i64 0,.int .i64 0,.int .i64 0,.int .i64 0,.int .i64 0,.int .i64 0,.int .i64 0] 185))=wr at *;refine wp_region_any (by kernel_rfl) ?_
 change wpAny _ _ _ _ _ _ _ (World.drew _)
 refine Zc (i:=0) (op:=Op.fieldAddr 185 (Operand.tmp 2) 0) (t:=0) (d:=some 5) (v:=_) rfl (by decide +kernel) (fun _ _ _ h=>h) (by intro _;unfold Ze;go_simp;try with_reducible rfl) ?_
 try simp only[lay]
 refine Zc (i:=2) (op:=Op.fieldAddr 185 (Operand.tmp 3) 0) (t:=0) (d:=some 7) (v:=_) rfl (by decide +kernel) (fun _ _ _ h=>h) (by intro _;unfold Ze;go_simp;try with_reducible rfl) ?_
 try simp only[lay]
 refine Zc (i:=5) (op:=Op.fieldAddr 185 (Operand.tmp 2) 1) (t:=0) (d:=some 10) (v:=_) rfl (by decide +kernel) (fun _ _ _ h=>h) (by intro _;unfold Ze;go_simp;try with_reducible rfl) ?_
 try simp only[lay]
 refine Zc (i:=7) (op:=Op.fieldAddr 185 (Operand.tmp 3) 1) (t:=0) (d:=some 12) (v:=_) rfl (by decide +kernel) (fun _ _ _ h=>h) (by intro _;unfold Ze;go_simp;try with_reducible rfl) ?_
 try simp only[lay]
 refine ZM (n:=2) [(1,some 6),(3,some 8),(4,some 9),(6,some 11),(8,some 13),(9,some 14)] (Ext wr)
  (VF (fun | 1=>some (.bool false) | 3=>some (.bool false) | 4=>some (.bool false) | 6=>some (Yv a 0) | 8=>some (Yv b 0) | 9=>some (Yv (Zr p) (Zj p)) | _=>none) (fun _ _ _=>True))
  Ext #[true,true,true,true,true,true,true,true,true,true,false,false] (by kernel_rfl) (VF.stab ?_) ?_ ?_ ((Ext.rf _).drew)
 ·intro j v W W' _ h _
  exact h
 ·intro pq hpm u W hRW hD K hK
  have b1:=B1.out.ext hRW;have b2:=B2.out.ext hRW;simp only[List.mem_cons,List.not_mem_nil,or_false] at hpm;rcases hpm with rfl | rfl | rfl | rfl | rfl | rfl
  ·exact Zv (T:=4) rfl (.pointer (some ⟨w.heap.size,0,none⟩)) (by kernel_rfl) (.bool false) (Uo b1) (hK _ _ (VF.mk rfl) hRW (Ext.rf _))
  ·exact Zv (T:=4) rfl (.pointer (some ⟨w.heap.size+1,0,none⟩)) (by kernel_rfl) (.bool false) (Uo b2) (hK _ _ (VF.mk rfl) hRW (Ext.rf _))
  ·have h1:=(hD 1 (Zp (by kernel_rfl))).k rfl
   have h3:=(hD 3 (Zp (by kernel_rfl))).k rfl;exact Z5 rfl (.bool false) (by simp only[Zn,h1,h3];unfold Ze;go_simp) (hK _ _ (VF.mk rfl) hRW (Ext.rf _))
  ·exact Zv (T:=183) rfl (.pointer (some ⟨w.heap.size,1,none⟩)) (by kernel_rfl) (Yv a 0) (W5 b1) (hK _ _ (VF.mk rfl) hRW (Ext.rf _))
  ·exact Zv (T:=183) rfl (.pointer (some ⟨w.heap.size+1,1,none⟩)) (by kernel_rfl) (Yv b 0) (W5 b2) (hK _ _ (VF.mk rfl) hRW (Ext.rf _))
  ·have h6:=(hD 6 (Zp (by kernel_rfl))).k rfl
   have h8:=(hD 8 (Zp (by kernel_rfl))).k rfl;refine YC rfl #[Yv a 0,Yv b 0] (by go_simp) (by simp only[Zn,h6,h8];kernel_rfl) _ (Zhc a b p W ha hb hp.out) ?_;rintro e w3 ⟨rfl,x3⟩;exact⟨_,rfl,hK _ _ (VF.mk rfl) (hRW.tr x3) x3⟩
 ·intro u w3 hRW hV
  have h1:=(hV (1,some 6) (by simp)).k rfl;have h3:=(hV (3,some 8) (by simp)).k rfl;have h4:=(hV (4,some 9) (by simp)).k rfl;have h6:=(hV (6,some 11) (by simp)).k rfl;have h8:=(hV (8,some 13) (by simp)).k rfl;have h9:=(hV (9,some 14) (by simp)).k rfl;simp only[Zn,h1,h3,h4,h6,h8,h9];clear hV h1 h3 h4 h6 h8 h9;have b3:=B3.out.ext hRW;have b4:Blk (Zaf w3 (w.heap.size+1+1) false (Zr p) (Zj p)) (w.heap.size+1+1) 185 (ZJ false (Zr p) (Zj p)):=Jj b3;have Y4:=Hd (Jk (m:=false) (lo:=Zr p) (hi:=Zj p) (g:=w.heap.size+1+1) (Ext.tr Y0.out hRW) (by omega));unfold Yv
  try simp only[lay]
  refine Zc (i:=10) (op:=Op.build 185 #[(0,Operand.tmp 9),(1,Operand.tmp 14)]) (t:=185) (d:=some 15) (v:=_) rfl (by decide +kernel) (fun _ _ _ h=>h) (by intro _;unfold Ze;go_simp;try with_reducible rfl) ?_
  try simp only[lay]
  refine Zl 11 (by kernel_rfl) (Xq rfl (.pointer (some ⟨w.heap.size+1+1,0,none⟩)) (YD false (Zr p) (Zj p)) (by kernel_rfl) (by kernel_rfl) (U4 b3) ?_);refine wpAny_done (by kernel_rfl) ?_ _;clear b3 hRW;generalize Zaf w3 (w.heap.size+1+1) false (Zr p) (Zj p)=w5 at *;have c0:=b4.c0;have c1:=b4.c1;have c2:=b4.c2;have c3:=b4.c3;have c4:=b4.c4;have c5:=b4.c5;have c6:=b4.c6;have c7:=b4.c7;have c8:=b4.c8;have c9:=b4.c9;clear b4;go_simp;go_wp2_with (fail);exact bodyPost_ret (v:=YD false (Zr p) (Zj p)) (by simp[results,Tryz.results137,go_sem,YD, *]) rfl ⟨rfl,Y4.out⟩
end
section
def dig (lo hi:Int)(k:Nat) : Int:=if k=0 then lo else if k=1 then hi else 0
def Zcs (lo hi lo' hi':Int) : Nat->Bool
 | 0=>false
 | k+1=>if dig lo hi k=dig lo' hi' k then Zcs lo hi lo' hi' k else decide (dig lo hi k<dig lo' hi' k)
theorem Zfs {p q:Int} : Zcs (Zr p) (Zj p) (Zr q) (Zj q) 9=decide (p<q):=by
 simp only[Zcs,dig];simp;unfold Zr Zj
 by_cases h1:p / 2147483648=q / 2147483648
 ·rw[if_pos h1,Bool.eq_iff_iff]
  simp;omega
 ·rw[if_neg h1,decide_eq_decide]
  omega
theorem Zio (p q:Int)(w:World) : Calls Tryz.prog 157 #[Yv (Zr p) (Zj p),Yv (Zr q) (Zj q)] w fun e w'=>e=.returned (.bool (decide (p<q)))/\Ext w w':=by
 have HL:=Hd (@Zfs p q);generalize Zr p=lo at *;generalize Zj p=hi at *;generalize Zr q=lo' at *;generalize Zj q=hi' at *;have BA:Hid (Blk ((w.alloc (.cells (ZA lo hi) 183)).alloc (.cells (ZA lo' hi') 183)) w.heap.size 183 (ZA lo hi)):=.alloc (.new rfl) _;have BB:Hid (Blk ((w.alloc (.cells (ZA lo hi) 183)).alloc (.cells (ZA lo' hi') 183)) (w.heap.size+1) 183 (ZA lo' hi')):=.new (by simp);have Y0:Hid (Ext w ((w.alloc (.cells (ZA lo hi) 183)).alloc (.cells (ZA lo' hi') 183))):=((Ext.rf _).alloc _).alloc _;obtain⟨res,hres⟩:∃ res,Hid (res=decide (p<q)):=⟨_,rfl⟩;rw[<-hres.out] at HL ⊢;unfold Yv;go_enter Tryz.func157,Tryz.ntmps157;go_wp2_with (fail);go_loopw [5] (fun i wr=>∃ (k:Nat) (z:Int),i=.int .i64 z/\z+1=(k:Int)/\k<=9/\Hid (Zcs lo hi lo' hi' k=res)/\Ext w wr/\Hid (Blk wr w.heap.size 183 (ZA lo hi))/\Hid (Blk wr (w.heap.size+1) 183 (ZA lo' hi'))) (fun i _=>(intOf i+1).toNat)
 case atStart=>exact⟨9,8,rfl,by omega,by omega,HL,Y0.out,BA,BB⟩
 case round =>
  obtain⟨wo,rfl⟩:=Wq wr;obtain⟨k,z,rfl,hz,hk,HS,Y,A1,B1⟩:=hrel
  by_cases h0:1<=k
  ·obtain⟨m,rfl⟩:∃ m,k=m+1:=⟨k-1,by omega⟩
   obtain rfl:z=(m:Int):=by omega
   have gA:=A1.out.cell m;have gB:=B1.out.cell m;rw[Jh _ _ _ (by omega)] at gA gB;have HT:Hid (res=if dig lo hi m=dig lo' hi' m then Zcs lo hi lo' hi' m else decide (dig lo hi m<dig lo' hi' m)):=HS.out.symm;obtain⟨x,hx⟩:∃ x,Hid (x=dig lo hi m):=⟨_,rfl⟩;obtain⟨y,hy⟩:∃ y,Hid (y=dig lo' hi' m):=⟨_,rfl⟩;have gA':wo.cell? ⟨w.heap.size,m,none⟩=some (.int .i64 x):=by rw[hx.out];exact gA
   have gB':wo.cell? ⟨w.heap.size+1,m,none⟩=some (.int .i64 y):=by rw[hy.out];exact gB
   rw[<-hx.out,<-hy.out] at HT;have q3:(m:Int)<9:=by omega
   clear gA gB hz h0 hx hy HS
   by_cases hxy:x=y
   ·subst hxy
    have HN:Hid (Zcs lo hi lo' hi' m=res):=by
     have h:=HT.out;rw[if_pos rfl] at h;exact h.symm
    go_wp2_with (go_quiet (fail));go_roundw
    case rel=>exact⟨m,_,rfl,by omega,by omega,HN,by repeat (first | exact Y | apply Ext.drewN),A1,B1⟩
    case measure=>simp[intOf]
   ·have hne:(x != y)=true:=by simpa using hxy
    have HN:Hid (res=decide (x<y)):=by
     have h:=HT.out;rw[if_neg hxy] at h;exact h
    clear hxy;go_wp2_with (go_quiet (fail))
    all_goals go_ret
    all_goals exact⟨XX HN.out.symm,by repeat (first | exact Y | apply Ext.drewN)⟩
  ·obtain rfl:k=0:=by omega
   obtain rfl:z=-1:=by omega
   go_wp2_with (fail);go_ret;exact⟨XX HS.out,Y⟩
def Zct (p q:Int)(k:Nat)(x y u:Int) : Prop:=(k=0/\x=0/\y=0/\u=0)\/(k=1/\x=Zr (p-q)/\y=0/\u=if Zr p<Zr q then 1 else 0)\/(2<=k/\x=Zr (p-q)/\y=Zj (p-q)/\u=0)
theorem Zip {p q:Int}(hq:0<=q)(hpq:q<=p)(hp:p<=4611686014132420609){k:Nat}(hk:k<9){x y u:Int}(h:Zct p q k x y u) :
  ∃ a b d d' u' x' y':Int,a=dig (Zr p) (Zj p) k/\b=dig (Zr q) (Zj q) k/\d=a-b-u/\d'=(if d<0 then d+2147483648 else d)/\u'=(if d<0 then 1 else 0)/\(0<=a/\a<=2147483647)/\(0<=b/\b<=2147483647)/\(0<=u/\u<=1) /\
   (ZA x y).setIfInBounds k (.int .i64 d')=ZA x' y'/\Zct p q (k+1) x' y' u':=by
 have b1:=Ji (p:=p) ⟨by omega,hp⟩;have b2:=Ji (p:=q) ⟨hq,by omega⟩;unfold Zct at h ⊢;unfold Zr Zj at *;rcases h with⟨rfl,rfl,rfl,rfl⟩ | ⟨rfl,rfl,rfl,rfl⟩ | ⟨h,rfl,rfl,rfl⟩
 ·refine⟨p%2147483648,q%2147483648,_,(p-q)%2147483648,_,_,0,rfl,rfl,rfl,?_,rfl,by omega,by omega,by omega,rfl,.inr (.inl ⟨rfl,rfl,rfl,?_⟩)⟩
  ·split<;>omega
  ·split<;>split<;>omega
 ·refine⟨p / 2147483648,q / 2147483648,_,(p-q) / 2147483648,0,_,_,rfl,rfl,rfl,?_,?_,by omega,by omega,by split<;>omega,rfl,.inr (.inr ⟨by omega,rfl,rfl,rfl⟩)⟩
  ·split<;>split<;>omega
  ·split<;>split<;>omega
 ·refine⟨0,0,_,0,0,_,_,?_,?_,rfl,by simp,by simp,by omega,by omega,by omega,?_,.inr (.inr ⟨by omega,rfl,rfl,rfl⟩)⟩
  ·unfold dig;rw[if_neg (by omega),if_neg (by omega)]
  ·unfold dig;rw[if_neg (by omega),if_neg (by omega)]
  ·have e:=JJ ((p-q)%2147483648) ((p-q) / 2147483648) k hk
   rw[if_neg (by omega),if_neg (by omega)] at e;exact e
theorem Zbm (p q:Int)(w:World)(hq:0<=q)(hpq:q<=p)(hp:p<=4611686014132420609) : Calls Tryz.prog 158 #[Yv (Zr p) (Zj p),Yv (Zr q) (Zj q)] w fun e w'=>e=.returned (Yv (Zr (p-q)) (Zj (p-q)))/\Ext w w':=by
 have Y0:Ext w ((((w.alloc (.cells (ZA (Zr p) (Zj p)) 183)).alloc (.cells (ZA (Zr q) (Zj q)) 183)).alloc (.cells (ZA 0 0) 183)).alloc (.cells (ZA 0 0) 183)):=((((Ext.rf _).alloc _).alloc _).alloc _).alloc _;have BA:Blk ((((w.alloc (.cells (ZA (Zr p) (Zj p)) 183)).alloc (.cells (ZA (Zr q) (Zj q)) 183)).alloc (.cells (ZA 0 0) 183)).alloc (.cells (ZA 0 0) 183)) w.heap.size 183 (ZA (Zr p) (Zj p)):=.alloc (.alloc (.alloc (.new rfl) _) _) _;have BB:Blk ((((w.alloc (.cells (ZA (Zr p) (Zj p)) 183)).alloc (.cells (ZA (Zr q) (Zj q)) 183)).alloc (.cells (ZA 0 0) 183)).alloc (.cells (ZA 0 0) 183)) (w.heap.size+1) 183 (ZA (Zr q) (Zj q)):=.alloc (.alloc (.new (by simp)) _) _;have BR:Blk ((((w.alloc (.cells (ZA (Zr p) (Zj p)) 183)).alloc (.cells (ZA (Zr q) (Zj q)) 183)).alloc (.cells (ZA 0 0) 183)).alloc (.cells (ZA 0 0) 183)) (w.heap.size+1+1) 183 (ZA 0 0):=.alloc (.new (by simp)) _;have BC:Blk ((((w.alloc (.cells (ZA (Zr p) (Zj p)) 183)).alloc (.cells (ZA (Zr q) (Zj q)) 183)).alloc (.cells (ZA 0 0) 183)).alloc (.cells (ZA 0 0) 183)) (w.heap.size+1+1+1) 183 (ZA 0 0):=.new (by simp);replace Y0:=Hd Y0;replace BA:=Hd BA;replace BB:=Hd BB;replace BR:=Hd BR;replace BC:=Hd BC;have STEP:Hid (∀ (k:Nat),k<9->∀ x y u:Int,Zct p q k x y u->∃ a b d d' u' x' y':Int,a=dig (Zr p) (Zj p) k/\b=dig (Zr q) (Zj q) k/\d=a-b-u/\d'=(if d<0 then d+2147483648 else d)/\u'=(if d<0 then 1 else 0)/\(0<=a/\a<=2147483647)/\(0<=b/\b<=2147483647)/\(0<=u/\u<=1)/\(ZA x y).setIfInBounds k (.int .i64 d')=ZA x' y'/\Zct p q (k+1) x' y' u'):=fun k hk x y u h=>Zip hq hpq hp hk h
 clear hq hpq hp;unfold Yv;go_enter Tryz.func158,Tryz.ntmps158;go_wp2_with (fail);go_loopw [6,7] (fun o i wr=>∃ (k:Nat) (x y u:Int),i=.int .i64 k/\o=.int .i64 u/\k<=9/\Hid (Zct p q k x y u)/\Ext w wr/\Hid (Blk wr w.heap.size 183 (ZA (Zr p) (Zj p)))/\Hid (Blk wr (w.heap.size+1) 183 (ZA (Zr q) (Zj q)))/\Hid (Blk wr (w.heap.size+1+1) 183 (ZA 0 0))/\Hid (Blk wr (w.heap.size+1+1+1) 183 (ZA x y))) (fun _ i _=>9-(intOf i).toNat)
 case atStart=>exact⟨0,0,0,0,rfl,rfl,by omega,.inl ⟨rfl,rfl,rfl,rfl⟩,Y0.out,BA,BB,BR,BC⟩
 case round =>
  obtain⟨wo,rfl⟩:=Wq wr;obtain⟨k,x,y,u,rfl,rfl,hk,HM,Y,A1,B1,R1,C1⟩:=hrel
  by_cases hlt:k<9
  ·obtain⟨a,b,d,d',u',x',y',ha,hb,hd,hd',hu',ba,bb,bu,hset,HM2⟩:=STEP.out k hlt x y u HM.out
   have gA:=A1.out.cell k;have gB:=B1.out.cell k;have gC:=C1.out.cell k;have fC:=C1.out.free k;rw[Jh _ _ _ hlt] at gA gB gC;have gA':wo.cell? ⟨w.heap.size,k,none⟩=some (.int .i64 a):=by rw[ha];exact gA
   have gB':wo.cell? ⟨w.heap.size+1,k,none⟩=some (.int .i64 b):=by rw[hb];exact gB
   have w1:Hid (IntKind.i64.wrap (a-b)=a-b):=IntWalk.i64_in _ (by omega);have w2:Hid (IntKind.i64.wrap (a-b-u)=d):=Hd (by rw[hd];exact IntWalk.i64_in _ (by omega));have bd:-2147483649<=d/\d<=2147483647:=by omega
   obtain⟨bd1,bd2⟩:=bd;have q3:(k:Int)<9:=by omega
   have n1:¬w.heap.size=w.heap.size+1+1+1:=by omega
   replace hset:=Hd hset;replace HM2:=Hd HM2;replace hd':=Hd hd';replace hu':=Hd hu';clear gA gB ha hb hd HM ba bb bu;have w1':=w1.out;have w2':=w2.out
   by_cases hneg:d<0
   ·have e1:Hid (d'=d+2147483648):=by
     have h:=hd'.out;rw[if_pos hneg] at h;exact h
    have e2:Hid (u'=1):=by
     have h:=hu'.out;rw[if_pos hneg] at h;exact h
    rw[e1.out] at hset;rw[e2.out] at HM2;go_wp2_with (go_quiet (fail));go_roundw
    case rel=>exact⟨k+1,x',y',1,by go_num,rfl,by omega,HM2,(Y.drewN _).setNew (by simp<;>omega) _,(A1.out.drewN _).far (by simp<;>omega) _,(B1.out.drewN _).far (by simp<;>omega) _,(R1.out.drewN _).far (by simp<;>omega) _,by rw[<-hset.out];exact(C1.out.drewN _).set k _⟩
    case measure=>simp[intOf];omega
   ·have e1:Hid (d'=d):=by
     have h:=hd'.out;rw[if_neg hneg] at h;exact h
    have e2:Hid (u'=0):=by
     have h:=hu'.out;rw[if_neg hneg] at h;exact h
    rw[e1.out] at hset;rw[e2.out] at HM2;go_wp2_with (go_quiet (fail));go_roundw
    case rel=>exact⟨k+1,x',y',0,by go_num,rfl,by omega,HM2,(Y.drewN _).setNew (by simp<;>omega) _,(A1.out.drewN _).far (by simp<;>omega) _,(B1.out.drewN _).far (by simp<;>omega) _,(R1.out.drewN _).far (by simp<;>omega) _,by rw[<-hset.out];exact(C1.out.drewN _).set k _⟩
    case measure=>simp[intOf];omega
  ·obtain rfl:k=9:=by omega
   have HM4:Hid (x=Zr (p-q)/\y=Zj (p-q)):=by
    rcases HM.out with⟨h,_⟩ | ⟨h,_⟩ | ⟨_,h1,h2,_⟩
    ·omega
    ·omega
    ·exact⟨h1,h2⟩
   obtain⟨rfl,rfl⟩:=HM4.out;clear HM HM4 STEP;have c0:=C1.out.c0;have c1:=C1.out.c1;have c2:=C1.out.c2;have c3:=C1.out.c3;have c4:=C1.out.c4;have c5:=C1.out.c5;have c6:=C1.out.c6;have c7:=C1.out.c7;have c8:=C1.out.c8;have z0:=R1.out.c0;have z1:=R1.out.c1;have z2:=R1.out.c2;have z3:=R1.out.c3;have z4:=R1.out.c4;have z5:=R1.out.c5;have z6:=R1.out.c6;have z7:=R1.out.c7;have z8:=R1.out.c8;have f0:wo.frozen? ⟨w.heap.size+1+1,0,none⟩=false:=R1.out.free 0;have f1:wo.frozen? ⟨w.heap.size+1+1,1,none⟩=false:=R1.out.free 1;have f2:wo.frozen? ⟨w.heap.size+1+1,2,none⟩=false:=R1.out.free 2;have f3:wo.frozen? ⟨w.heap.size+1+1,3,none⟩=false:=R1.out.free 3;have f4:wo.frozen? ⟨w.heap.size+1+1,4,none⟩=false:=R1.out.free 4;have f5:wo.frozen? ⟨w.heap.size+1+1,5,none⟩=false:=R1.out.free 5;have f6:wo.frozen? ⟨w.heap.size+1+1,6,none⟩=false:=R1.out.free 6;have f7:wo.frozen? ⟨w.heap.size+1+1,7,none⟩=false:=R1.out.free 7;have f8:wo.frozen? ⟨w.heap.size+1+1,8,none⟩=false:=R1.out.free 8;have Y9:=Hd (Zap Y (g:=w.heap.size+1+1) (by omega) (.int .i64 (Zr (p-q))) (.int .i64 (Zj (p-q))) (.int .i64 0) (.int .i64 0) (.int .i64 0) (.int .i64 0) (.int .i64 0) (.int .i64 0) (.int .i64 0));go_wp2_with (fail);exact bodyPost_ret (v:=Yv (Zr (p-q)) (Zj (p-q))) (by simp[results,Tryz.results158,go_sem,Yv, *]) rfl ⟨rfl,Y9.out⟩
def Zen (p q:Int) : Value:=if p<q then YD true (Zr (q-p)) (Zj (q-p)) else YD false (Zr (p-q)) (Zj (p-q))
theorem Ziq (p q:Int)(w:World)(hp:0<=p/\p<=4611686014132420609)(hq:0<=q/\q<=4611686014132420609) :
  Calls Tryz.prog 149 #[YD false (Zr p) (Zj p),YD true (Zr q) (Zj q)] w fun e w'=>e=.returned (Zen p q)/\Ext w w':=by
 have B1:Blk (((w.alloc (.cells (ZJ false (Zr p) (Zj p)) 185)).alloc (.cells (ZJ true (Zr q) (Zj q)) 185)).alloc (.cells (ZJ false 0 0) 185)) w.heap.size 185 (ZJ false (Zr p) (Zj p)):=.alloc (.alloc (.new rfl) _) _;have B2:Blk (((w.alloc (.cells (ZJ false (Zr p) (Zj p)) 185)).alloc (.cells (ZJ true (Zr q) (Zj q)) 185)).alloc (.cells (ZJ false 0 0) 185)) (w.heap.size+1) 185 (ZJ true (Zr q) (Zj q)):=.alloc (.new (by simp)) _;have B3:Blk (((w.alloc (.cells (ZJ false (Zr p) (Zj p)) 185)).alloc (.cells (ZJ true (Zr q) (Zj q)) 185)).alloc (.cells (ZJ false 0 0) 185)) (w.heap.size+1+1) 185 (ZJ false 0 0):=.new (by simp);have Y0:Ext w (((w.alloc (.cells (ZJ false (Zr p) (Zj p)) 185)).alloc (.cells (ZJ true (Zr q) (Zj q)) 185)).alloc (.cells (ZJ false 0 0) 185)):=(((Ext.rf _).alloc _).alloc _).alloc _;have LE:=fun W=>Zio p q W
 obtain⟨wr,hwr⟩:∃ wr,wr=(((w.alloc (.cells (ZJ false (Zr p) (Zj p)) 185)).alloc (.cells (ZJ true (Zr q) (Zj q)) 185)).alloc (.cells (ZJ false 0 0) 185)):=⟨_,rfl⟩;have hwl:(((w.alloc (.cells #[.bool false,.int .i64 (Zr p),.int .i64 (Zj p),.int .i64 0,.int .i64 0,.int .i64 0,.int .i64 0,.int .i64 0,.int .i64 0,.int .i64 0] 185)).alloc (.cells #[.bool true,.int .i64 (Zr q),.int .i64 (Zj q),.int .i64 0,.int .i64 0,.int .i64 0,.int .i64 0,.int .i64 0,.int .i64 0,.int .i64 0] 185)).alloc (.cells #[.bool false,.int .i64 0,.int .i64 0,.int .i64 0,.int .i64 0,.int .i64 0,.int .i64 0,.int .i64 0,.int .i64 0,.int .i64 0] 185))=wr:=hwr.symm;rw[<-hwr] at B1 B2 B3 Y0;clear hwr;replace B1:=Hd B1;replace B2:=Hd B2;replace B3:=Hd B3;replace Y0:=Hd Y0;replace LE:=Hd LE;replace hwl:=Hd hwl;unfold YD;go_enter Tryz.func149,Tryz.ntmps149;go_wp2_with (fail);rw[hwl.out];refine(LE.out _).mono ?_;rintro e w2 ⟨rfl,x2⟩;replace x2:=Hd x2
 by_cases hlt:p<q
 ·have hb:decide (p<q)=true:=by simpa using hlt
  have MIN:=Hd (fun W=>Zbm q p W hp.1 (by omega) hq.2);replace hlt:=Hd hlt;clear LE;go_wp2_with (fail);refine wp_region_any (by kernel_rfl) ?_
  change wpAny _ _ _ _ _ _ _ (World.drew _)
  refine Zc (i:=0) (op:=Op.fieldAddr 185 (Operand.tmp 3) 0) (t:=0) (d:=some 23) (v:=_) rfl (by decide +kernel) (fun _ _ _ h=>h) (by intro _;unfold Ze;go_simp;try with_reducible rfl) ?_
  try simp only[lay]
  refine Zc (i:=2) (op:=Op.fieldAddr 185 (Operand.tmp 3) 1) (t:=0) (d:=some 25) (v:=_) rfl (by decide +kernel) (fun _ _ _ h=>h) (by intro _;unfold Ze;go_simp;try with_reducible rfl) ?_
  try simp only[lay]
  refine Zc (i:=4) (op:=Op.fieldAddr 185 (Operand.tmp 2) 1) (t:=0) (d:=some 27) (v:=_) rfl (by decide +kernel) (fun _ _ _ h=>h) (by intro _;unfold Ze;go_simp;try with_reducible rfl) ?_
  try simp only[lay]
  refine ZM (n:=2) [(1,some 24),(3,some 26),(5,some 28),(6,some 29)] (Ext w2)
   (VF (fun | 1=>some (.bool true) | 3=>some (Yv (Zr q) (Zj q)) | 5=>some (Yv (Zr p) (Zj p)) | 6=>some (Yv (Zr (q-p)) (Zj (q-p))) | _=>none) (fun _ _ _=>True))
   Ext #[true,true,true,true,true,true,true,false,false] (by kernel_rfl) (VF.stab ?_) ?_ ?_ ((Ext.rf _).drew)
  ·intro j v W W' _ h _
   exact h
  ·intro pq hpm u W hRW hD K hK
   have b1:=B1.out.ext (x2.out.tr hRW);have b2:=B2.out.ext (x2.out.tr hRW);simp only[List.mem_cons,List.not_mem_nil,or_false] at hpm;rcases hpm with rfl | rfl | rfl | rfl
   ·exact Zv (T:=4) rfl (.pointer (some ⟨w.heap.size+1,0,none⟩)) (by kernel_rfl) (.bool true) (Uo b2) (hK _ _ (VF.mk rfl) hRW (Ext.rf _))
   ·exact Zv (T:=183) rfl (.pointer (some ⟨w.heap.size+1,1,none⟩)) (by kernel_rfl) (Yv (Zr q) (Zj q)) (W5 b2) (hK _ _ (VF.mk rfl) hRW (Ext.rf _))
   ·exact Zv (T:=183) rfl (.pointer (some ⟨w.heap.size,1,none⟩)) (by kernel_rfl) (Yv (Zr p) (Zj p)) (W5 b1) (hK _ _ (VF.mk rfl) hRW (Ext.rf _))
   ·have h3:=(hD 3 (Zp (by kernel_rfl))).k rfl
    have h5:=(hD 5 (Zp (by kernel_rfl))).k rfl;refine YC rfl #[Yv (Zr q) (Zj q),Yv (Zr p) (Zj p)] (by go_simp) (by simp only[Zn,h3,h5];kernel_rfl) _ (MIN.out W) ?_;rintro e w3 ⟨rfl,x3⟩;exact⟨_,rfl,hK _ _ (VF.mk rfl) (hRW.tr x3) x3⟩
  ·intro u w3 hRW hV
   have h1:=(hV (1,some 24) (by simp)).k rfl;have h3:=(hV (3,some 26) (by simp)).k rfl;have h5:=(hV (5,some 28) (by simp)).k rfl;have h6:=(hV (6,some 29) (by simp)).k rfl;simp only[Zn,h1,h3,h5,h6];clear hV h1 h3 h5 h6;have b3:=B3.out.ext (x2.out.tr hRW);have b4:Blk (Zaf w3 (w.heap.size+1+1) true (Zr (q-p)) (Zj (q-p))) (w.heap.size+1+1) 185 (ZJ true (Zr (q-p)) (Zj (q-p))):=Jj b3;have Y4:=Hd (Jk (m:=true) (lo:=(Zr (q-p))) (hi:=(Zj (q-p))) (g:=w.heap.size+1+1) (Ext.tr (Ext.tr Y0.out x2.out) hRW) (by omega));unfold Yv
   try simp only[lay]
   refine Zc (i:=7) (op:=Op.build 185 #[(0,Operand.tmp 24),(1,Operand.tmp 29)]) (t:=185) (d:=some 30) (v:=_) rfl (by decide +kernel) (fun _ _ _ h=>h) (by intro _;unfold Ze;go_simp;try with_reducible rfl) ?_
   try simp only[lay]
   refine Zl 8 (by kernel_rfl) (Xq rfl (.pointer (some ⟨w.heap.size+1+1,0,none⟩)) (YD true (Zr (q-p)) (Zj (q-p))) (by kernel_rfl) (by kernel_rfl) (U4 b3) ?_);refine wpAny_done (by kernel_rfl) ?_ _;clear b3 hRW;generalize Zaf w3 (w.heap.size+1+1) true (Zr (q-p)) (Zj (q-p))=w5 at *;have c0:=b4.c0;have c1:=b4.c1;have c2:=b4.c2;have c3:=b4.c3;have c4:=b4.c4;have c5:=b4.c5;have c6:=b4.c6;have c7:=b4.c7;have c8:=b4.c8;have c9:=b4.c9;clear b4;go_simp;go_wp2_with (fail);exact bodyPost_ret (v:=YD true (Zr (q-p)) (Zj (q-p))) (by simp[results,Tryz.results149,go_sem,YD, *]) rfl ⟨by rw[Zen,if_pos hlt.out],Y4.out⟩
 ·have hb:decide (p<q)=false:=by simpa using hlt
  have MIN:=Hd (fun W=>Zbm p q W hq.1 (by omega) hp.2);replace hlt:=Hd hlt;clear LE;go_wp2_with (fail);refine wp_region_any (by kernel_rfl) ?_
  change wpAny _ _ _ _ _ _ _ (World.drew _)
  refine Zc (i:=0) (op:=Op.fieldAddr 185 (Operand.tmp 2) 0) (t:=0) (d:=some 31) (v:=_) rfl (by decide +kernel) (fun _ _ _ h=>h) (by intro _;unfold Ze;go_simp;try with_reducible rfl) ?_
  try simp only[lay]
  refine Zc (i:=2) (op:=Op.fieldAddr 185 (Operand.tmp 2) 1) (t:=0) (d:=some 33) (v:=_) rfl (by decide +kernel) (fun _ _ _ h=>h) (by intro _;unfold Ze;go_simp;try with_reducible rfl) ?_
  try simp only[lay]
  refine Zc (i:=4) (op:=Op.fieldAddr 185 (Operand.tmp 3) 1) (t:=0) (d:=some 35) (v:=_) rfl (by decide +kernel) (fun _ _ _ h=>h) (by intro _;unfold Ze;go_simp;try with_reducible rfl) ?_
  try simp only[lay]
  refine ZM (n:=2) [(1,some 32),(3,some 34),(5,some 36),(6,some 37)] (Ext w2)
   (VF (fun | 1=>some (.bool false) | 3=>some (Yv (Zr p) (Zj p)) | 5=>some (Yv (Zr q) (Zj q)) | 6=>some (Yv (Zr (p-q)) (Zj (p-q))) | _=>none) (fun _ _ _=>True))
   Ext #[true,true,true,true,true,true,true,false,false] (by kernel_rfl) (VF.stab ?_) ?_ ?_ ((Ext.rf _).drew)
  ·intro j v W W' _ h _
   exact h
  ·intro pq hpm u W hRW hD K hK
   have b1:=B1.out.ext (x2.out.tr hRW);have b2:=B2.out.ext (x2.out.tr hRW);simp only[List.mem_cons,List.not_mem_nil,or_false] at hpm;rcases hpm with rfl | rfl | rfl | rfl
   ·exact Zv (T:=4) rfl (.pointer (some ⟨w.heap.size,0,none⟩)) (by kernel_rfl) (.bool false) (Uo b1) (hK _ _ (VF.mk rfl) hRW (Ext.rf _))
   ·exact Zv (T:=183) rfl (.pointer (some ⟨w.heap.size,1,none⟩)) (by kernel_rfl) (Yv (Zr p) (Zj p)) (W5 b1) (hK _ _ (VF.mk rfl) hRW (Ext.rf _))
   ·exact Zv (T:=183) rfl (.pointer (some ⟨w.heap.size+1,1,none⟩)) (by kernel_rfl) (Yv (Zr q) (Zj q)) (W5 b2) (hK _ _ (VF.mk rfl) hRW (Ext.rf _))
   ·have h3:=(hD 3 (Zp (by kernel_rfl))).k rfl
    have h5:=(hD 5 (Zp (by kernel_rfl))).k rfl;refine YC rfl #[Yv (Zr p) (Zj p),Yv (Zr q) (Zj q)] (by go_simp) (by simp only[Zn,h3,h5];kernel_rfl) _ (MIN.out W) ?_;rintro e w3 ⟨rfl,x3⟩;exact⟨_,rfl,hK _ _ (VF.mk rfl) (hRW.tr x3) x3⟩
  ·intro u w3 hRW hV
   have h1:=(hV (1,some 32) (by simp)).k rfl;have h3:=(hV (3,some 34) (by simp)).k rfl;have h5:=(hV (5,some 36) (by simp)).k rfl;have h6:=(hV (6,some 37) (by simp)).k rfl;simp only[Zn,h1,h3,h5,h6];clear hV h1 h3 h5 h6;have b3:=B3.out.ext (x2.out.tr hRW);have b4:Blk (Zaf w3 (w.heap.size+1+1) false (Zr (p-q)) (Zj (p-q))) (w.heap.size+1+1) 185 (ZJ false (Zr (p-q)) (Zj (p-q))):=Jj b3;have Y4:=Hd (Jk (m:=false) (lo:=(Zr (p-q))) (hi:=(Zj (p-q))) (g:=w.heap.size+1+1) (Ext.tr (Ext.tr Y0.out x2.out) hRW) (by omega));unfold Yv
   try simp only[lay]
   refine Zc (i:=7) (op:=Op.build 185 #[(0,Operand.tmp 32),(1,Operand.tmp 37)]) (t:=185) (d:=some 38) (v:=_) rfl (by decide +kernel) (fun _ _ _ h=>h) (by intro _;unfold Ze;go_simp;try with_reducible rfl) ?_
   try simp only[lay]
   refine Zl 8 (by kernel_rfl) (Xq rfl (.pointer (some ⟨w.heap.size+1+1,0,none⟩)) (YD false (Zr (p-q)) (Zj (p-q))) (by kernel_rfl) (by kernel_rfl) (U4 b3) ?_);refine wpAny_done (by kernel_rfl) ?_ _;clear b3 hRW;generalize Zaf w3 (w.heap.size+1+1) false (Zr (p-q)) (Zj (p-q))=w5 at *;have c0:=b4.c0;have c1:=b4.c1;have c2:=b4.c2;have c3:=b4.c3;have c4:=b4.c4;have c5:=b4.c5;have c6:=b4.c6;have c7:=b4.c7;have c8:=b4.c8;have c9:=b4.c9;clear b4;go_simp;go_wp2_with (fail);exact bodyPost_ret (v:=YD false (Zr (p-q)) (Zj (p-q))) (by simp[results,Tryz.results149,go_sem,YD, *]) rfl ⟨by rw[Zen,if_neg (by have:=hlt.out;omega)],Y4.out⟩
theorem Zhd : Tryz.prog.underlying 183=some (.array 9 3):=by kernel_rfl
theorem Zj0 (x y:Int)(u:World) : (binOp .eql 183 (.agg #[.int .i64 x,.int .i64 y,.int .i64 0,.int .i64 0,.int .i64 0,.int .i64 0,.int .i64 0,.int .i64 0,.int .i64 0]) (.agg #[.int .i64 0,.int .i64 0,.int .i64 0,.int .i64 0,.int .i64 0,.int .i64 0,.int .i64 0,.int .i64 0,.int .i64 0])).run Tryz.prog u=.ok (.bool ((x==0)&&(y==0))) u:=by
 rw[run_eql_struct];unfold Op.equalIn;simp only[Sem.run_bind,run_underlying Zhd,Result.andThen_ok];have e9:List.range' 0 9 1=[0,1,2,3,4,5,6,7,8]:=rfl;simp only[Std.Legacy.Range.forIn_eq_forIn_range',Std.Legacy.Range.size,Nat.sub_zero,Nat.add_one_sub_one,Nat.div_one,e9,List.forIn_cons,List.forIn_nil]
 by_cases hx:x=0
 ·subst hx
  by_cases hy:y=0
  ·subst hy
   go_simp
  ·have hy':(y==0)=false:=by simpa using hy
   go_simp
 ·have hx':(x==0)=false:=by simpa using hx
  go_simp
def JK (p q:Int) : Int:=if p=q then 0 else if p<q then -1 else 1
theorem Zft (p q:Int)(hp:0<=p/\p<=4611686014132420609)(hq:0<=q/\q<=4611686014132420609) : ∃ m x y,Zen p q=YD m x y/\((JK p q=0/\x=0/\y=0)\/(JK p q=-1/\m=true/\(x≠0\/y≠0))\/(JK p q=1/\m=false/\(x≠0\/y≠0))):=by
 unfold Zen JK Zr Zj
 by_cases h1:p<q
 ·rw[if_pos h1]
  exact⟨_,_,_,rfl,.inr (.inl ⟨by rw[if_neg (by omega),if_pos h1],rfl,by omega⟩)⟩
 ·rw[if_neg h1]
  by_cases h2:p=q
  ·exact⟨_,_,_,rfl,.inl ⟨by rw[if_pos h2],by omega,by omega⟩⟩
  ·exact⟨_,_,_,rfl,.inr (.inr ⟨by rw[if_neg h2,if_neg h1],rfl,by omega⟩)⟩
theorem Zir (p q:Int)(w:World)(hp:0<=p/\p<=4611686014132420609)(hq:0<=q/\q<=4611686014132420609) :
  Calls Tryz.prog 136 #[YD false (Zr p) (Zj p),YD false (Zr q) (Zj q)] w fun e w'=>e=.returned (.int .i64 (JK p q))/\Ext w w':=by
 have B1:Blk ((w.alloc (.cells (ZJ false (Zr p) (Zj p)) 185)).alloc (.cells (ZJ false (Zr q) (Zj q)) 185)) w.heap.size 185 (ZJ false (Zr p) (Zj p)):=.alloc (.new rfl) _;have B2:Blk ((w.alloc (.cells (ZJ false (Zr p) (Zj p)) 185)).alloc (.cells (ZJ false (Zr q) (Zj q)) 185)) (w.heap.size+1) 185 (ZJ false (Zr q) (Zj q)):=.new (by simp);have Y0:Ext w ((w.alloc (.cells (ZJ false (Zr p) (Zj p)) 185)).alloc (.cells (ZJ false (Zr q) (Zj q)) 185)):=((Ext.rf _).alloc _).alloc _;have ADD:=fun W=>Ziq p q W hp hq
 obtain⟨m,x,y,hd,hcase⟩:=Zft p q hp hq;rw[hd] at ADD;obtain⟨wr,hwr⟩:∃ wr,wr=((w.alloc (.cells (ZJ false (Zr p) (Zj p)) 185)).alloc (.cells (ZJ false (Zr q) (Zj q)) 185)):=⟨_,rfl⟩;have hwl:((w.alloc (.cells #[.bool false,.int .i64 (Zr p),.int .i64 (Zj p),.int .i64 0,.int .i64 0,.int .i64 0,.int .i64 0,.int .i64 0,.int .i64 0,.int .i64 0] 185)).alloc (.cells #[.bool false,.int .i64 (Zr q),.int .i64 (Zj q),.int .i64 0,.int .i64 0,.int .i64 0,.int .i64 0,.int .i64 0,.int .i64 0,.int .i64 0] 185))=wr:=hwr.symm;rw[<-hwr] at B1 B2 Y0;clear hwr hp hq hd;generalize JK p q=res at *;replace B1:=Hd B1;replace B2:=Hd B2;replace Y0:=Hd Y0;replace ADD:=Hd ADD;replace hwl:=Hd hwl;replace hcase:=Hd hcase;unfold YD;go_enter Tryz.func136,Tryz.ntmps136;go_wp2_with (fail);rw[hwl.out];refine wp_region_any (by kernel_rfl) ?_
 change wpAny _ _ _ _ _ _ _ (World.drew _)
 refine ZM (n:=1) [(0,some 6),(1,some 7),(2,some 8),(3,some 9),(4,some 5)] (Ext wr)
  (VF (fun | 0=>some (YD false (Zr p) (Zj p)) | 1=>some (YD false (Zr q) (Zj q)) | 2=>some (YD true (Zr q) (Zj q)) | 3=>some (YD m x y) | _=>none)
   (fun j v W=>j=4->∃ h,v=.pointer (some ⟨h,0,none⟩)/\wr.heap.size<=h/\Blk W h 185 (ZJ false 0 0)))
  Ext #[true,true,true,true,true,false] (by kernel_rfl) (VF.stab ?_) ?_ ?_ ((Ext.rf _).drew)
 ·intro j v W W' _ g6 hx h
  obtain⟨h,q1,q2,q3⟩:=g6 h;exact⟨h,q1,q2,q3.ext hx⟩
 ·intro pq hpm u W hRW hD K hK
  have b1:=B1.out.ext hRW;have b2:=B2.out.ext hRW;have z2:=hRW.size;simp only[List.mem_cons,List.not_mem_nil,or_false] at hpm;rcases hpm with rfl | rfl | rfl | rfl | rfl
  ·exact Zv (T:=185) rfl (.pointer (some ⟨w.heap.size,0,none⟩)) (by kernel_rfl) _ (Zem b1) (hK _ _ (VF.mk rfl) hRW (Ext.rf _))
  ·exact Zv (T:=185) rfl (.pointer (some ⟨w.heap.size+1,0,none⟩)) (by kernel_rfl) _ (Zem b2) (hK _ _ (VF.mk rfl) hRW (Ext.rf _))
  ·have h1:=(hD 1 (Zp (by kernel_rfl))).k rfl
   refine YC rfl #[YD false (Zr q) (Zj q)] (by go_simp) (by simp only[Zn,h1];kernel_rfl) _ (Zjv false _ _ W) ?_;rintro e w3 ⟨rfl,x3⟩;exact⟨_,rfl,hK _ _ (VF.mk rfl) (hRW.tr x3) x3⟩
  ·have h0:=(hD 0 (Zp (by kernel_rfl))).k rfl
   have h2:=(hD 2 (Zp (by kernel_rfl))).k rfl;refine YC rfl #[YD false (Zr p) (Zj p),YD true (Zr q) (Zj q)] (by go_simp) (by simp only[Zn,h0,h2];kernel_rfl) _ (ADD.out W) ?_;rintro e w3 ⟨rfl,x3⟩;exact⟨_,rfl,hK _ _ (VF.mk rfl) (hRW.tr x3) x3⟩
  ·refine Z5 rfl (.pointer (some ⟨W.heap.size,0,none⟩)) (w':=W.alloc (.cells (ZJ false 0 0) 185)) ?_ (hK _ _ (VF.mg rfl fun _=>⟨_,rfl,z2,.new rfl⟩) (hRW.alloc _) ((Ext.rf _).alloc _))
   unfold Ze ZJ;go_simp
 ·intro u w3 hRW hV
  have h0:=(hV (0,some 6) (by simp)).k rfl;have h1:=(hV (1,some 7) (by simp)).k rfl;have h2:=(hV (2,some 8) (by simp)).k rfl;have h3:=(hV (3,some 9) (by simp)).k rfl;obtain⟨gh,h4,hgh,b3⟩:=(hV (4,some 5) (by simp)).g rfl rfl;simp only[Zn,h0,h1,h2,h3,h4];clear hV h0 h1 h2 h3 h4;have b4:Blk (Zaf w3 gh m x y) gh 185 (ZJ m x y):=Jj b3;have Y4:=Hd (Jk (m:=m) (lo:=x) (hi:=y) (g:=gh) (Ext.tr Y0.out hRW) (Nat.le_trans Y0.out.size hgh))
  try simp only[lay]
  refine Zl 5 (by kernel_rfl) (Xq rfl (.pointer (some ⟨gh,0,none⟩)) (YD m x y) (by kernel_rfl) (by kernel_rfl) (U4 b3) ?_);refine wpAny_done (by kernel_rfl) ?_ _;clear b3 hRW;generalize Zaf w3 gh m x y=w5 at *;have c0:=b4.c0;have c1:=b4.c1;have c2:=b4.c2;have c3:=b4.c3;have c4:=b4.c4;have c5:=b4.c5;have c6:=b4.c6;have c7:=b4.c7;have c8:=b4.c8;have c9:=b4.c9;clear b4;obtain⟨bz,hbz⟩:∃ bz,Hid (((x==0)&&(y==0))=bz):=⟨_,rfl⟩;have hq:∀ u:World,(binOp .eql 183 (.agg #[.int .i64 x,.int .i64 y,.int .i64 0,.int .i64 0,.int .i64 0,.int .i64 0,.int .i64 0,.int .i64 0,.int .i64 0]) (.agg #[.int .i64 0,.int .i64 0,.int .i64 0,.int .i64 0,.int .i64 0,.int .i64 0,.int .i64 0,.int .i64 0,.int .i64 0])).run Tryz.prog u=.ok (.bool bz) u:=fun u=>by rw[Zj0,hbz.out]
  rcases hcase.out with⟨e1,e2,e3⟩ | ⟨e1,e2,e3⟩ | ⟨e1,e2,e3⟩
  ·obtain rfl:bz=true:=by rw[<-hbz.out,e2,e3];rfl
   have e1:=Hd e1;clear e2 e3;go_simp;go_wp2_with (fail);go_ret;exact⟨Z3 e1.out.symm,Y4.out⟩
  ·obtain rfl:bz=false:=by rw[<-hbz.out,Bool.eq_false_iff];simp;omega
   have e1:=Hd e1;subst e2;clear e3;go_simp;go_wp2_with (fail);go_ret;exact⟨rfl,Y4.out⟩
  ·obtain rfl:bz=false:=by rw[<-hbz.out,Bool.eq_false_iff];simp;omega
   have e1:=Hd e1;subst e2;clear e3;go_simp;go_wp2_with (fail);go_ret;exact⟨rfl,Y4.out⟩
end
end Go.Proofs.YtnbcmiaaleambaaGreatDoor
