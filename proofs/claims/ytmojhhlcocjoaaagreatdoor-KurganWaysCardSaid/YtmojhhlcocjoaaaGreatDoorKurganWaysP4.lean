/- packed and squeezed by programs (see wip/) -/
import Derived.Test.YtmojhhlcocjoaaaGreatDoorKurganWaysP3
import Derived.Deep.QuietTactic
import Derived.BigQuiet
set_option maxRecDepth 100000
set_option maxHeartbeats 16000000
set_option linter.unusedVariables false
set_option linter.unusedSimpArgs false
namespace Go.Proofs.YtmojhhlcocjoaaaGreatDoor
open Go.RowKit Go.ChangeShapes Go.WideShapes Go.ChangeAt Go.Deep
theorem Zam (base g c:Nat)(f:Nat)(lb:Array Value)(cf:Nat->Nat->Int)(nn N:Nat)(hw:Weak (ltC cf))(eg:∀ args w,(callFunc f args).run Tryz.prog w=.ok (.enter f args) w)(hl:N<=1000000000) : ∀ (d a m b:Nat) (P L R Q:List Nat) (w:World),b-a<=d->CmpOk f lb cf nn g w ->
  OwN w base g c (P++(L++(R++Q)))->(P++(L++(R++Q))).length=N->P.length=a->a+L.length=m->m+R.length=b->0<L.length->0<R.length->Srt (ltC cf) L->Srt (ltC cf) R->Apart (· < ·) L R->(∀ x∈L++R,x<nn) ->
  Calls Tryz.prog 272 #[.slice (some ⟨g,0,none⟩) N c,.int .i64 a,.int .i64 m,.int .i64 b,.func (.func f) #[] lb] w (Zv base g c (ltC cf) P (L++R) Q w)
 | 0,a,m,b,P,L,R,Q,w=>fun hd _ _ _ _ h1 h2 h3 h4 _ _ _ _=>by exfalso;omega
 | d+1,a,m,b,P,L,R,Q,w=>fun hd hcmp h hN ha hL hR h1 h2 sl sr hlt hn=>by
  by_cases c1:L.length=1
  ·obtain⟨x,rfl⟩:=List.length_eq_one_iff.1 c1
   exact ZeC base g c f lb cf nn a m b N x P R Q w hw eg hcmp h hN ha (by simpa using hL) hR sr hlt (hn x (by simp)) (fun y hy=>hn y (by simp[hy])) hl
  ·by_cases c2:R.length=1
   ·obtain⟨y,rfl⟩:=List.length_eq_one_iff.1 c2
    exact Zdr base g c f lb cf nn a m b N y P L Q w hw eg hcmp h hN ha hL (by simpa using hR) (by omega) sl hlt (hn y (by simp)) (fun x hx=>hn x (by simp[hx])) hl
   ·have IH:SymIH base g c f lb cf nn N (b-a) w:=fun a' m' b' P' L' R' Q' W hd' hM h' hN' ha' hL' hR' h1' h2' sl' sr' hlt' hn' =>
     Zam base g c f lb cf nn N hw eg hl d a' m' b' P' L' R' Q' W (by omega) (hcmp.mod hM) h' hN' ha' hL' hR' h1' h2' sl' sr' hlt' hn'
    by_cases hm:m<=(a+b) / 2
    ·exact ZcK base g c f lb cf nn a m b N _ a m P L R Q w hw eg hcmp IH h hN ha hL hR (by omega) (by omega) sl sr hlt hn hl rfl (.inl ⟨hm,rfl,rfl⟩)
    ·exact ZcK base g c f lb cf nn a m b N _ ((a+b) / 2+m-b) ((a+b) / 2) P L R Q w hw eg hcmp IH h hN ha hL hR (by omega) (by omega) sl sr hlt hn hl rfl (.inr ⟨by omega,by omega,rfl⟩)
section
variable (base g c f:Nat) (lb:Array Value) (cf:Nat->Nat->Int) (nn n:Nat) (l0:List Nat) (w:World)
def Ph1 (a:Nat)(W:World) : Prop:=∃ ms:List (List Nat),Bls (ltC cf) 20 ms/\(∀ x∈ms,x.length=20)/\ms.flatten.Perm (l0.take a)/\a<=l0.length/\OwN W base g c (ms.flatten++l0.drop a)/\Mod (fun k=>k=g) w W
def Ph2 (bs:Nat)(W:World) : Prop:=∃ ms:List (List Nat),Bls (ltC cf) bs ms/\ms.flatten.Perm l0/\OwN W base g c ms.flatten/\Mod (fun k=>k=g) w W
def Ph3 (bs a:Nat)(W:World) : Prop:=∃ done todo:List (List Nat),Bls (ltC cf) (2*bs) done/\(∀ x∈done,x.length=2*bs)/\Bls (ltC cf) bs todo/\done.flatten.length=a/\Apart (· < ·) done.flatten todo.flatten/\(done.flatten++todo.flatten).Perm l0/\OwN W base g c (done.flatten++todo.flatten)/\Mod (fun k=>k=g) w W
end
section
variable {base g c f:Nat} {lb:Array Value} {cf:Nat->Nat->Int} {nn n:Nat} {l0:List Nat} {w:World}
theorem Ph1.ins {a b:Nat}{W:World}(h:Ph1 base g c cf l0 w a W)(hw:Weak (ltC cf))(eg:∀ args w,(callFunc f args).run Tryz.prog w=.ok (.enter f args) w)(hcmp:CmpOk f lb cf nn g w)(hr:l0.Pairwise (· < ·))(hn:∀ x∈l0,x<nn)(hN:l0.length=n)(hl:n<=1000000000)(hab:a<=b)(hb:b<=n)(h20:b<=a+20) :
  Calls Tryz.prog 271 #[.slice (some ⟨g,0,none⟩) n c,.int .i64 a,.int .i64 b,.func (.func f) #[] lb] W (Za0 fun W'=>(b=a+20->Ph1 base g c cf l0 w b W')/\(b=n->Ph2 base g c cf l0 w 20 W')):=by
 obtain⟨ms,h1,h2,h3,h4,h5,h6⟩:=h;have e:l0.drop a=(l0.drop a).take (b-a)++l0.drop b:=by
  have:=(List.take_append_drop (b-a) (l0.drop a)).symm
  rwa [List.drop_drop,show a+(b-a)=b by omega] at this
 have hfl:ms.flatten.length=a:=by rw[h3.length_eq,List.length_take];omega
 have hSl:((l0.drop a).take (b-a)).length=b-a:=by rw[List.length_take,List.length_drop];omega
 have hsub:∀ x∈(l0.drop a).take (b-a),x∈l0:=fun x hx=>List.mem_of_mem_drop (List.mem_of_mem_take hx)
 have hrise:Apart (· < ·) (l0.take a) ((l0.drop a).take (b-a)):=fun x hx y hy=>Apart.rise (by rw[List.take_append_drop];exact hr) x hx y (List.mem_of_mem_take hy)
 have hO:=h5;rw[e] at hO;refine(Jl base g c f lb cf nn a b n ms.flatten ((l0.drop a).take (b-a)) (l0.drop b) W hw eg (hcmp.mod h6) hO ?_ hfl (by omega) ((hr.sublist (List.drop_sublist _ _)).sublist (List.take_sublist _ _)) (fun x hx=>hn x (hsub x hx)) hl).mono ?_
 ·simp only[List.length_append,List.length_drop,hfl,hSl];omega
 rintro e' W' ⟨M,i1,rfl,o1,m1⟩;have hap:Apart (· < ·) ms.flatten M:=hrise.perm h3 i1.1;have hMl:M.length=b-a:=by rw[i1.len,hSl]
 refine⟨rfl,fun hb20=>⟨ms++[M],Bls.snoc i1.2 (by omega) (by omega) h1 h2 hap,?_,?_,by omega,?_,h6.tr m1⟩,fun hbn=>?_⟩
 ·intro x hx
  rcases List.mem_append.1 hx with hx | hx
  ·exact h2 x hx
  ·obtain rfl:=List.mem_singleton.1 hx;omega
 ·rw[List.flatten_append]
  have e2:l0.take b=l0.take a++(l0.drop a).take (b-a):=by
   rw[<-List.take_add,show a+(b-a)=b by omega]
  rw[e2];refine h3.append ?_
  simpa using i1.1
 ·rw[List.flatten_append]
  simpa using o1
 ·have e0:l0.drop b=[]:=List.drop_of_length_le (by omega)
  have hp:(ms.flatten++M).Perm l0:=by
   have:=h3.append i1.1;rw[e0,List.append_nil] at e
   rwa [<-e,List.take_append_drop] at this
  rw[e0,List.append_nil] at o1
  by_cases hM0:M.length=0
  ·have hM:M=[]:=List.eq_nil_of_length_eq_zero hM0
   subst hM;exact⟨ms,h1,by simpa using hp,by simpa using o1,h6.tr m1⟩
  ·exact⟨ms++[M],Bls.snoc i1.2 (by omega) (by omega) h1 h2 hap,by rw[List.flatten_append];simpa using hp,by rw[List.flatten_append];simpa using o1,h6.tr m1⟩
theorem Ph2.go {bs:Nat}{W:World}(h:Ph2 base g c cf l0 w bs W) : Ph3 base g c cf l0 w bs 0 W:=by
 obtain⟨ms,h1,h2,h3,h4⟩:=h;exact⟨[],ms,trivial,by simp,h1,rfl,Apart.nil_left _,h2,h3,h4⟩
theorem Ph3.len {bs a:Nat}{W:World}(h:Ph3 base g c cf l0 w bs a W) : a<=l0.length:=by
 obtain⟨done,todo,h1,h2,h3,h4,h5,h6,h7,h8⟩:=h;have:=h6.length_eq;rw[List.length_append] at this;omega
theorem Ph3.two {bs a:Nat}{W:World}(h:Ph3 base g c cf l0 w bs a W)(hw:Weak (ltC cf))(eg:∀ args w,(callFunc f args).run Tryz.prog w=.ok (.enter f args) w)(hcmp:CmpOk f lb cf nn g w)(hn:∀ x∈l0,x<nn)(hN:l0.length=n)(hl:n<=1000000000)(h0:0<bs)(hb:a+2*bs<=n) :
  Calls Tryz.prog 272 #[.slice (some ⟨g,0,none⟩) n c,.int .i64 a,.int .i64 (a+bs:Nat),.int .i64 (a+2*bs:Nat),.func (.func f) #[] lb] W (Za0 fun W'=>Ph3 base g c cf l0 w bs (a+2*bs) W'):=by
 obtain⟨done,todo,h1,h2,h3,h4,h5,h6,h7,h8⟩:=h;have hlen:=h6.length_eq;rw[List.length_append] at hlen;obtain⟨L,R,ts,rfl,sL,sR,lL,lR,aLR,aT,hts⟩:=h3.two h0 (by omega);have hmem:∀ x∈L++R,x<nn:=fun x hx=>hn x (h6.mem_iff.1 (by
  simp only[List.flatten_cons,List.mem_append] at hx ⊢;rcases hx with hx | hx<;>simp[hx]))
 have hO:OwN W base g c (done.flatten++(L++(R++ts.flatten))):=by simpa using h7
 refine(Zam base g c f lb cf nn n hw eg hl _ a (a+bs) (a+2*bs) done.flatten L R ts.flatten W (Nat.le_refl _) (hcmp.mod h8) hO ?_ h4 (by omega) (by omega) (by omega) (by omega) sL sR aLR hmem).mono ?_
 ·simp only[List.flatten_cons,List.length_append] at hlen ⊢;omega
 rintro e' W' ⟨M,i1,rfl,o1,m1⟩;have ad:Apart (· < ·) done.flatten (L++R)/\Apart (· < ·) done.flatten ts.flatten:=by
  refine Apart.app_right.1 ?_
  simpa using h5
 have lM:M.length=2*bs:=by rw[i1.len,List.length_append];omega
 refine⟨rfl,done++[M],ts,Bls.snoc i1.2 (by omega) (by omega) h1 h2 (ad.1.perm (List.Perm.refl _) i1.1),?_,hts,?_,?_,?_,?_,h8.tr m1⟩
 ·intro x hx
  rcases List.mem_append.1 hx with hx | hx
  ·exact h2 x hx
  ·obtain rfl:=List.mem_singleton.1 hx;omega
 ·simp only[List.flatten_append,List.length_append,List.flatten_cons,List.flatten_nil,List.append_nil];omega
 ·rw[List.flatten_append]
  refine Apart.app_left.2 ⟨ad.2,?_⟩
  simpa using aT.perm i1.1 (List.Perm.refl _)
 ·rw[List.flatten_append]
  have hp:(done.flatten++(M++ts.flatten)).Perm (done.flatten++((L++R)++ts.flatten)):=List.Perm.append_left _ (i1.1.append (List.Perm.refl _));have h6':(done.flatten++((L++R)++ts.flatten)).Perm l0:=by simpa using h6
  simpa using hp.trans h6'
 ·rw[List.flatten_append]
  simpa using o1
theorem Ph3.last {bs a:Nat}{W:World}(h:Ph3 base g c cf l0 w bs a W)(hw:Weak (ltC cf))(eg:∀ args w,(callFunc f args).run Tryz.prog w=.ok (.enter f args) w)(hcmp:CmpOk f lb cf nn g w)(hn:∀ x∈l0,x<nn)(hN:l0.length=n)(hl:n<=1000000000)(h0:0<bs)(hb:n<a+2*bs)(hm:a+bs<n) :
  Calls Tryz.prog 272 #[.slice (some ⟨g,0,none⟩) n c,.int .i64 a,.int .i64 (a+bs:Nat),.int .i64 n,.func (.func f) #[] lb] W (Za0 fun W'=>Ph2 base g c cf l0 w (2*bs) W'):=by
 obtain⟨done,todo,h1,h2,h3,h4,h5,h6,h7,h8⟩:=h;have hlen:=h6.length_eq;rw[List.length_append] at hlen;rcases h3.tail (by omega) with rfl | ⟨L,rfl,sL,l1,l2⟩ | ⟨L,R,rfl,sL,sR,lL,lR,aLR⟩
 ·simp only[List.flatten_cons,List.flatten_nil,List.append_nil,List.length_append,List.length_nil] at hlen;omega
 ·simp only[List.flatten_cons,List.flatten_nil,List.append_nil,List.length_append,List.length_nil] at hlen;omega
 have hmem:∀ x∈L++R,x<nn:=fun x hx=>hn x (h6.mem_iff.1 (by
  simp only[List.flatten_cons,List.mem_append] at hx ⊢;rcases hx with hx | hx<;>simp[hx]))
 simp only[List.flatten_cons,List.flatten_nil,List.append_nil] at h5 h6 h7 hlen;have hO:OwN W base g c (done.flatten++(L++(R++[]))):=by simpa using h7
 rw[List.length_append] at hlen;refine(Zam base g c f lb cf nn n hw eg hl _ a (a+bs) n done.flatten L R [] W (Nat.le_refl _) (hcmp.mod h8) hO ?_ h4 (by omega) (by omega) (by omega) (by omega) sL sR aLR hmem).mono ?_
 ·simp only[List.length_append,List.length_nil];omega
 rintro e' W' ⟨M,i1,rfl,o1,m1⟩;have lM:M.length=L.length+R.length:=by rw[i1.len,List.length_append]
 refine⟨rfl,done++[M],Bls.snoc i1.2 (by omega) (by omega) h1 h2 (h5.perm (List.Perm.refl _) i1.1),?_,?_,h8.tr m1⟩
 ·rw[List.flatten_append]
  have hp:(done.flatten++M).Perm (done.flatten++(L++R)):=List.Perm.append_left _ i1.1
  simpa using hp.trans h6
 ·rw[List.flatten_append]
  simpa using o1
theorem Ph3.none {bs a:Nat}{W:World}(h:Ph3 base g c cf l0 w bs a W)(hN:l0.length=n)(h0:0<bs)(hb:n<a+2*bs)(hm:n<=a+bs) : Ph2 base g c cf l0 w (2*bs) W:=by
 obtain⟨done,todo,h1,h2,h3,h4,h5,h6,h7,h8⟩:=h;have hlen:=h6.length_eq;rw[List.length_append] at hlen;rcases h3.tail (by omega) with rfl | ⟨L,rfl,sL,l1,l2⟩ | ⟨L,R,rfl,sL,sR,lL,lR,aLR⟩
 ·exact⟨done,h1,by simpa using h6,by simpa using h7,h8⟩
 ·exact⟨done++[L],Bls.snoc sL l1 (by omega) h1 h2 (by simpa using h5),by rw[List.flatten_append];simpa using h6,by rw[List.flatten_append];simpa using h7,h8⟩
 ·simp only[List.flatten_cons,List.flatten_nil,List.append_nil,List.length_append,List.length_nil] at hlen;omega
theorem Ph2.done {bs:Nat}{W:World}(h:Ph2 base g c cf l0 w bs W)(hN:l0.length<=bs) : Zv base g c (ltC cf) [] l0 [] w (.returned (.tuple #[])) W:=by
 obtain⟨ms,h1,h2,h3,h4⟩:=h;exact⟨ms.flatten,⟨h2,h1.one (by rw[h2.length_eq];exact hN)⟩,rfl,by simpa using h3,h4⟩
end
theorem ZbW (base g c:Nat)(f:Nat)(lb:Array Value)(cf:Nat->Nat->Int)(nn n:Nat)(l0:List Nat)(w:World)(hw:Weak (ltC cf))(eg:∀ args w,(callFunc f args).run Tryz.prog w=.ok (.enter f args) w)(hcmp:CmpOk f lb cf nn g w)
  (h:OwN w base g c l0) (hN:l0.length=n) (hr:l0.Pairwise (· < ·)) (hn:∀ x∈l0,x<nn) (hl:n<=1000000) :
  Calls Tryz.prog 270 #[.slice (some ⟨g,0,none⟩) n c,.int .i64 n,.func (.func f) #[] lb] w (Zv base g c (ltC cf) [] l0 [] w):=by
 have HS:Hid (Ph1 base g c cf l0 w 0 w):=⟨[],trivial,by simp,by simp,by omega,by simpa using h,Mod.rf _⟩;replace hN:=Hd hN;replace hcmp:=Hd hcmp;replace hw:=Hd hw;replace hr:=Hd hr;replace hn:=Hd hn;clear h;go_enter Tryz.func270,Tryz.ntmps270;go_wp2_with (fail);go_loopw [7,8] (fun av bv wr=>∃ (a b:Nat),av=.int .i64 a/\bv=.int .i64 b/\Hid (b=a+20)/\a<=n/\Hid (Ph1 base g c cf l0 w a wr)) (fun av _ _=>n-(intOf av).toNat)
 case atStart=>exact⟨0,20,rfl,rfl,rfl,by omega,HS⟩
 case round =>
  obtain⟨wo,rfl⟩:∃ wo:World,wo=wr:=⟨_,rfl⟩;obtain⟨a,b,rfl,rfl,hab,ha,H1⟩:=hrel;clear HS;have hab':=hab.out
  by_cases hb:b<=n
  ·have t0:(b:Int)<=(n:Int):=by omega
   have IN:=Hd (H1.out.ins (b:=b) hw.out eg hcmp.out hr.out hn.out hN.out (by omega) (by omega) hb (by omega));have b20:b+20<=2000000:=by omega
   clear hab' H1;go_wp2_with (fail);refine IN.out.mono ?_;rintro e w1 ⟨rfl,i1,-⟩;have i2:=Hd (i1 hab.out);clear i1;go_wp2_with (fail);go_roundw
   case rel=>exact⟨b,b+20,rfl,by go_num,rfl,hb,i2⟩
   case measure=>simp[intOf];have:=hab.out;omega
  ·have t0:¬(b:Int)<=(n:Int):=by omega
   have IN:=Hd (H1.out.ins (b:=n) hw.out eg hcmp.out hr.out hn.out hN.out (by omega) ha (by omega) (by omega));clear hab' H1 hb;go_wp2_with (fail);refine IN.out.mono ?_;rintro e w1 ⟨rfl,-,i1⟩;have i2:Hid (Ph2 base g c cf l0 w 20 w1):=by first | exact i1 rfl | exact i1 trivial
   clear i1 IN t0;go_wp2_with (fail);go_loopw [6] (fun v wr=>∃ bs:Nat,v=.int .i64 bs/\20<=bs/\bs<=2*n+20/\Hid (Ph2 base g c cf l0 w bs wr)) (fun v _=>n-(intOf v).toNat)
   case atStart=>exact⟨20,rfl,by omega,by omega,i2⟩
   case round =>
    obtain⟨wp,rfl⟩:∃ wp:World,wp=wr:=⟨_,rfl⟩;obtain⟨bs,rfl,hbs0,hbs1,H2⟩:=hrel;clear i2
    by_cases hbn:bs<n
    ·have t1:(bs:Int)<(n:Int):=by omega
     have H3:=Hd H2.out.go;obtain⟨b2,hb2⟩:∃ b2,Hid (b2=2*bs):=⟨_,rfl⟩;have e2:2*(bs:Int)=(b2:Int):=by rw[hb2.out];omega
     have e2':(bs:Int)*2=(b2:Int):=by rw[hb2.out];omega
     have b2b:b2<=2000000:=by rw[hb2.out];omega
     clear H2;go_wp2_with (fail);go_loopw [7,8] (fun av bv wr=>∃ (a b:Nat),av=.int .i64 a/\bv=.int .i64 b/\Hid (b=a+b2)/\a<=n/\Hid (Ph3 base g c cf l0 w bs a wr)) (fun av _ _=>n-(intOf av).toNat)
     case atStart=>exact⟨0,b2,rfl,rfl,by show b2=0+b2;omega,by omega,H3⟩
     case round =>
      obtain⟨wq,rfl⟩:∃ wq:World,wq=wr:=⟨_,rfl⟩;obtain⟨a',b',rfl,rfl,hab2,ha2,H4⟩:=hrel;clear H3
      by_cases hb3:b'<=n
      ·have t2:(b':Int)<=(n:Int):=by omega
       have hb4:a'+2*bs=b':=by rw[hab2.out,hb2.out]
       have TW:=H4.out.two hw.out eg hcmp.out hn.out hN.out (by omega) (by omega) (by omega);rw[hb4] at TW;obtain⟨am,ham⟩:∃ am,Hid (am=a'+bs):=⟨_,rfl⟩;rw[<-ham.out] at TW;have eam:(a':Int)+(bs:Int)=(am:Int):=by rw[ham.out];omega
       replace TW:=Hd TW;clear hb4 H4;go_wp2_with (fail);refine TW.out.mono ?_;rintro e w3 ⟨rfl,i3⟩;replace i3:=Hd i3;go_wp2_with (fail);go_roundw
       case rel=>exact⟨b',b'+b2,rfl,by first | rfl | go_num,rfl,hb3,i3⟩
       case measure=>simp[intOf];have:=hab2.out;have:=hb2.out;omega
      ·have t2:¬(b':Int)<=(n:Int):=by omega
       have hb4:a'+2*bs=b':=by rw[hab2.out,hb2.out]
       obtain⟨am,ham⟩:∃ am,Hid (am=a'+bs):=⟨_,rfl⟩;have eam:(a':Int)+(bs:Int)=(am:Int):=by rw[ham.out];omega
       by_cases hmn:am<n
       ·have t3:(am:Int)<(n:Int):=by omega
        have LA:=H4.out.last hw.out eg hcmp.out hn.out hN.out (by omega) (by omega) (by omega) (by rw[<-ham.out];exact hmn);rw[<-ham.out,<-hb2.out] at LA;replace LA:=Hd LA;clear hb4 H4;go_wp2_with (fail);refine LA.out.mono ?_;rintro e w3 ⟨rfl,i3⟩;replace i3:=Hd i3;go_wp2_with (fail);go_roundw
        case rel=>exact⟨b2,rfl,by rw[hb2.out];omega,by rw[hb2.out];omega,i3⟩
        case measure=>simp[intOf];have:=hb2.out;omega
       ·have t3:¬(am:Int)<(n:Int):=by omega
        have i3:=H4.out.none hN.out (by omega) (by omega) (by rw[<-ham.out];omega);rw[<-hb2.out] at i3;replace i3:=Hd i3;clear hb4 H4;go_wp2_with (fail);go_roundw
        case rel=>exact⟨b2,rfl,by rw[hb2.out];omega,by rw[hb2.out];omega,i3⟩
        case measure=>simp[intOf];have:=hb2.out;omega
    ·have t1:¬(bs:Int)<(n:Int):=by omega
     have FIN:=Hd (H2.out.done (by rw[hN.out];omega));clear H2;go_wp2_with (fail);go_end0;exact FIN.out
theorem Va (base g c:Nat)(f:Nat)(lb:Array Value)(cf:Nat->Nat->Int)(nn n:Nat)(l0:List Nat)(w:World)(hw:Weak (ltC cf))(eg:∀ args w,(callFunc f args).run Tryz.prog w=.ok (.enter f args) w)(hcmp:CmpOk f lb cf nn g w)
  (h:OwN w base g c l0) (hN:l0.length=n) (hr:l0.Pairwise (· < ·)) (hn:∀ x∈l0,x<nn) (hl:n<=1000000) :
  Calls Tryz.prog 265 #[.slice (some ⟨g,0,none⟩) n c,.func (.func f) #[] lb] w fun e w'=>e=.returned (.tuple #[])/\OwN w' base g c (Xz (ltC cf) l0)/\Mod (fun k=>k=g) w w':=by
 have ST:=Hd (ZbW base g c f lb cf nn n l0 w hw eg hcmp h hN hr hn hl);have hr':=Hd hr;have hw':=Hd hw;clear hcmp h hN hr hn hw;go_enter Tryz.func265,Tryz.ntmps265;go_wp2_with (fail);refine ST.out.mono ?_;rintro e w1 ⟨M,i1,rfl,o1,m1⟩;have e1:=ZeB hw'.out hr'.out i1;rw[List.nil_append,List.append_nil,e1] at o1;have FIN:=Hd (And.intro o1 m1);clear o1 m1 i1 e1;go_wp2_with (fail);go_end0;exact⟨rfl,FIN.out.1,FIN.out.2⟩
end Go.Proofs.YtmojhhlcocjoaaaGreatDoor
namespace Go.Proofs.YtmojhhlcocjoaaaGreatDoor
open Go.RowKit Go.ChangeShapes Go.WideShapes Go.ChangeAt Go.Deep
theorem Zfo (row:List Int)(hbd:∀ x∈row,0<=x/\x<=2147483647)(D:Option Addr)(d rb:Nat)(a b:Nat)(ha:a<row.length)(hb:b<row.length)(w:World)(B:w.cell? ⟨rb,0,none⟩=some (.slice D row.length d))(hD:RdI w D row) :
  Calls Tryz.prog 266 #[.int .i64 a,.int .i64 b,.pointer (some ⟨rb,0,none⟩)] w fun e w'=>e=.returned (.int .i64 (row.getD a 0-row.getD b 0))/\∃ q,w'=w.drewN q:=by
 obtain⟨cb,co,x,rfl,z1,c1,e1,_⟩:=hD.at ha;obtain⟨cb',co',y,hq,z2,c2,e2,_⟩:=hD.at hb;obtain⟨rfl,rfl⟩:cb=cb'/\co=co':=by simpa using hq
 have b1:=hbd x (List.mem_of_getElem? e1.out);have b2:=hbd y (List.mem_of_getElem? e2.out);rw[getD_some e1.out,getD_some e2.out];have hw:IntKind.i64.wrap (x-y)=x-y:=IntWalk.i64_in _ (by omega);have q1:(a:Int)<(row.length:Int):=by omega
 have q2:(b:Int)<(row.length:Int):=by omega
 clear e1 e2 b1 b2 hbd hD hq;go_enter Tryz.func266,Tryz.ntmps266;go_wp2_with (fail);go_quiet (fail);go_wp2_with (fail);go_ret;exact⟨rfl,_,rfl⟩
def cfR (row:List Int)(a b:Nat) : Int:=row.getD a 0-row.getD b 0
theorem Za2 (row:List Int) : Weak (ltC (cfR row)) where
 asym a b h:=by
  unfold ltC cfR at *;simp only[decide_eq_true_eq,decide_eq_false_iff_not] at *;omega
 neg a b c h:=by
  unfold ltC cfR at *;simp only[decide_eq_true_eq] at *;omega
def Wt (rows:List (List Int))(p:List Int) : List Int×Int :=
 match ZW rows.length p with
 | none=>([],1)
 | some m=>(Ze (Xz (ltC (cfR (rows.getD p.length []))) (Zc m)),0)
theorem Wn {i:Nat} : ∀ {l:List Nat},l.Pairwise (· < ·)->i∈l->(l.filter fun j=>decide (i≠j)).length+1=l.length
 | [],_,h=>by cases h
 | x::l,hp,h=>by
  have hp':=List.pairwise_cons.1 hp
  by_cases e:i=x
  ·subst e
   have:l.filter (fun j=>decide (i≠j))=l:=List.filter_eq_self.2 fun y hy=>by
    have:=hp'.1 y hy;simp;omega
   rw[List.filter_cons_of_neg (by simp),this];rfl
  ·rcases List.mem_cons.1 h with h | h
   ·exact absurd h e
   ·rw[List.filter_cons_of_pos (by simpa using e),List.length_cons,List.length_cons,Wn hp'.2 h]
theorem UR {n:Nat} : ∀ {p:List Int} {m q:Nat},SubN n m->ZV m p=some q->(Zc q).length+p.length=(Zc m).length
 | [],m,q,_,e=>by
  simp only[ZV,Option.some.injEq] at e;subst e;rfl
 | c::p,m,q,h,e=>by
  unfold ZV at e;split at e
  ·rename_i hc
   have h1:=UR (h.clr _) e;have h2:=Wn (Zu m) (Z1.2 ⟨by omega,hc.2.2⟩:c.toNat∈Zc m);rw[<-Xf h.1] at h2;rw[List.length_cons];omega
  ·cases e
theorem Yi {n:Nat}(h24:n<=24){p:List Int}{q:Nat}(e:ZW n p=some q) : (Zc q).length+p.length=n:=by
 unfold ZW at e;split at e
 ·cases e
 ·rw[UR (Yy h24) e,YI (by omega),List.length_range]
theorem Mod.heap {g:Nat}{w w':World}(h:Mod (fun k=>k=g) w w'){a:World}(x:Ext a w)(hg:a.heap.size<=g) : Ext a w':=x.mod h fun k hk e=>by omega
theorem RdI.modG {w w':World}{A:Option Addr}{xs:List Int}{g:Nat}(h:RdI w A xs)(k:Mod (fun k=>k=g) w w')(hb:∀ b,bl A=some b->b<g) : RdI w' A xs:=by
 rcases h with rfl | ⟨b,off,rfl,hlt,hc⟩
 ·exact .inl rfl
 ·refine .inr ⟨b,off,rfl,Nat.lt_of_lt_of_le hlt k.size,fun j x hj=>?_⟩
  have h1:=hb b rfl;rw[<-hc j x hj];exact World.cell?_of_block (k.block b hlt fun hs=>by omega)
theorem Zds {base g:Nat}{rows:List (List Int)}(P:Option Addr)(pc:Nat)(p:List Int)(w:World)(hT:Tab w)(H:KernA w base g rows)(ok:RowsOk rows)(hP:RdI w P p)(lp:p.length<=1000000000) :
  Calls Tryz.prog 261 #[.pointer (some ⟨g,0,none⟩),.slice P p.length pc] w (YF (Wt rows p).1 (Wt rows p).2 w):=by
 have FR:=fun(W:World) (x:Ext w W)=>ZaX P pc p W (H.ext x) ok.n1 ok.n2 (hP.ext x) lp
 have l1:=ok.n1;have l2:=ok.n2;obtain⟨C,cc,us,hB,_,hV,hR⟩:=H;have lus:Hid (us.length=rows.length):=hR.1;obtain⟨r,hr⟩:∃ r,Hid (ZW rows.length p=r):=⟨_,rfl⟩;rw[hr.out] at FR
 cases r with
 | none =>
  have e:Wt rows p=([],1):=by unfold Wt;rw[hr.out]
  rw[e];unfold JD setV at FR;replace FR:=Hd FR;go_enter Tryz.func261,Tryz.ntmps261;go_wp2_with (fail);refine(FR.out _ (Ext.rf w)).mono ?_;rintro e w1 ⟨rfl,x1⟩;have X:=Hd (x1.alloc (.cells #[.int .u64 0,.int .u64 0] 141));go_wp2_with (fail);go_ret2;exact⟨none,0,rfl,OwI.nil _ _,by have:=X.out;first | exact x1 | exact this⟩
 | some m =>
  obtain⟨hpl,hin,hS⟩:=Xt l2 hr.out;have hlen:=Yi l2 hr.out;have e:Wt rows p=(Ze (Xz (ltC (cfR (rows.getD p.length []))) (Zc m)),0):=by unfold Wt;rw[hr.out]
  rw[e];clear e;have LI:=Hd (fun(W:World) (hW:Tab W)=>QN m hS.1 (fun x hx=>by have:=hS.2 x hx;omega) W hW);have hsub:=Hd hS.2;have hsrt:=Hd (Zu m);unfold JD setV at FR;unfold setV at LI;replace FR:=Hd FR;clear hr hS hin;generalize Zc m=l at *;replace hP:=Hd hP;replace hV:=Hd hV;replace hR:=Hd hR;replace hT:=Hd hT;replace hB:=Hd hB
  cases l with
  | nil =>
   have e:Xz (ltC (cfR (rows.getD p.length []))) []=[]:=rfl;rw[e];clear e;go_enter Tryz.func261,Tryz.ntmps261;go_wp2_with (fail);refine(FR.out _ (Ext.rf w)).mono ?_;rintro e w1 ⟨rfl,x1⟩;have X2:=Hd (x1.alloc (.cells #[.int .u64 m,.int .u64 0] 141));clear x1;go_wp2_with (fail);refine(LI.out _ (hT.out.ext X2.out)).mono ?_;rintro e w3 ⟨A,c,rfl,o3,x3⟩;have X3:=Hd (X2.out.tr x3);have o3':=Hd (OwI.more o3 X2.out.size);clear x3 o3;go_wp2_with (fail);go_ret2;exact⟨A,c,rfl,o3'.out,X3.out⟩
  | cons i0 l =>
   have hne:0<(i0::l).length:=by simp
   generalize i0::l=l at *;have hkr:p.length<rows.length:=by omega
   have er:rows[p.length]?=some rows[p.length]:=List.getElem?_eq_getElem hkr;have eg:rows.getD p.length []=rows[p.length]:=by simp[List.getD,er]
   rw[eg];clear eg;obtain⟨D,d,hu,oD⟩:=hR.out.2 _ _ er;have hmem:rows[p.length]∈rows:=List.getElem_mem hkr;have lrow:=ok.row _ hmem;have nrow:=ok.num _ hmem;generalize rows[p.length]=row at *;replace lrow:=Hd lrow;replace oD:=Hd oD;replace nrow:=Hd nrow;have lz:(l.length:Int)>0:=by omega
   have lcc:rows.length<=cc:=by
    rcases hV.out.cases with⟨_,_,h,_⟩ | ⟨_,_,_,_,_,h,_⟩<;>omega
   clear er;go_enter Tryz.func261,Tryz.ntmps261;go_wp2_with (fail);refine(FR.out _ (Ext.rf w)).mono ?_;rintro e w1 ⟨rfl,x1⟩;have X2:=Hd (x1.alloc (.cells #[.int .u64 m,.int .u64 0] 141));clear x1;go_wp2_with (fail);refine(LI.out _ (hT.out.ext X2.out)).mono ?_;rintro e w3 ⟨A,c,rfl,o3,x3⟩;rcases OwI.cases o3 with⟨_,_,h0⟩ | ⟨gl,cur,rfl,hbg,_,_,_,_⟩
   ·exfalso
    have:=congrArg List.length h0;rw[Zm,List.length_nil] at this;omega
   rw[Zm] at *;have X3:=Hd (X2.out.tr x3);have zg:=(OwI.lt o3 gl rfl).2;have zgl:w.heap.size<=gl:=Nat.le_trans X2.out.size hbg;have z2:=X2.out.size;have o3':Hid (OwN w3 w.heap.size gl c l):=OwI.more o3 X2.out.size;obtain⟨ab,ao,vv,hC,zv,cv,ev⟩:=(hV.out.read.ext X3.out).at (j:=p.length) (by rw[lus.out];exact hkr);subst hC;obtain rfl:.slice D row.length d=vv:=by
    have h:=ev.out;rw[hu] at h;exact Option.some.inj h
   have cK:w3.cell? ⟨g,0,none⟩=some (.slice (some ⟨ab,ao,none⟩) rows.length cc):=(hB.out.ext X3.out).cell 0;have q1:(p.length:Int)<(rows.length:Int):=by omega
   have rb:Hid (Blk (w3.alloc (.cells #[.slice D row.length d] 22)) w3.heap.size 22 #[.slice D row.length d]):=.new rfl;have HCO:Hid (CmpOk 266 #[.pointer (some ⟨w3.heap.size,0,none⟩)] (cfR row) row.length gl (w3.alloc (.cells #[.slice D row.length d] 22))):=by
    intro W x y hx hy hm;have b2:=rb.out.mod hm (by show ¬w3.heap.size=gl;omega);refine Zfo row nrow.out D d w3.heap.size x y hx hy W (b2.cell 0) ?_;refine RdI.modG ((oD.out.read.ext X3.out).ext ((Ext.rf _).alloc _)) hm fun b hb=>?_
    have:=(oD.out.lt b hb).2;omega
   have SO:=Va w.heap.size gl c 266 #[.pointer (some ⟨w3.heap.size,0,none⟩)] (cfR row) row.length l.length l _ (Za2 row) (enters_of Tryz.func266 (by kernel_rfl) rfl) HCO.out (OwN.ext o3'.out ((Ext.rf _).alloc _)) rfl hsrt.out (fun x hx=>by rw[lrow.out];exact hsub.out x hx) (by omega);have X4:=Hd (X3.out.alloc (.cells #[.slice D row.length d] 22));replace SO:=Hd SO;clear o3 x3 hbg ev hu HCO rb;go_wp2_with (fail);refine SO.out.mono ?_;rintro e w5 ⟨rfl,o5,m5⟩;have FIN:Hid (OwI w5 w.heap.size (some ⟨gl,0,none⟩) c (Ze (Xz (ltC (cfR row)) l))/\Ext w w5):=⟨o5,m5.heap X4.out zgl⟩;have hll:Hid ((Ze (Xz (ltC (cfR row)) l)).length=l.length):=Hd (by rw[Zm,JE]);clear o5 m5;go_wp2_with (fail);go_ret2;refine⟨some ⟨gl,0,none⟩,c,?_,FIN.out.1,FIN.out.2⟩;rw[hll.out]
   rfl
def XQ : Int->List Int->Int
 | b,[]=>b
 | b,x::l=>XQ (if b<0 then x else if x<b then x else b) l
theorem US {B:Int} : ∀ {l:List Int} {b:Int},(∀ x∈l,0<=x/\x<=B)->b<=B->(0<=b\/l≠[])->0<=XQ b l/\XQ b l<=B
 | [],b,_,h1,h2=>by
  rcases h2 with h2 | h2
  ·exact⟨h2,h1⟩
  ·exact absurd rfl h2
 | x::l,b,h,h1,h2=>by
  have hx:=h x (by simp);unfold XQ;refine US (fun y hy=>h y (by simp[hy])) ?_ (.inl ?_)<;>split<;>(try split)<;>omega
theorem Vw : ∀ {l:List Int} {b:Int},(∀ x∈l,0<=x)->(∀ x∈l,XQ b l<=x)/\(0<=b->XQ b l<=b)
 | [],b,_=>⟨fun x hx=>absurd hx List.not_mem_nil,fun _=>Int.le_refl _⟩
 | x::l,b,h=>by
  have hx:=h x (by simp);have ih:=Vw (l:=l) (b:=if b<0 then x else if x<b then x else b) fun y hy=>h y (by simp[hy])
  unfold XQ;refine⟨fun y hy=>?_,fun hb=>?_⟩
  ·rcases List.mem_cons.1 hy with rfl | hy
   ·refine Int.le_trans (ih.2 ?_) ?_<;>split<;>(try split)<;>omega
   ·exact ih.1 y hy
  ·refine Int.le_trans (ih.2 ?_) ?_<;>split<;>(try split)<;>omega
theorem WJ (f:Nat->Int) : ∀ (l:List Nat) (b:Int),XQ b (l.map f)=Zt f b l
 | [],b=>rfl
 | x::l,b=>by
  show XQ _ (l.map f)=_;rw[WJ f l]
  rfl
def offs (ms:List (List Int)) : List Int:=ms.map (XQ (-1))
theorem Za3 {c:Nat}{B:Int} : ∀ {rows:List (List Int)} {off:List Int} {b:Int},(∀ (k:Nat) (x:List Int) (o:Int),rows[k]?=some x->off[k]?=some o->0<=x.getD c 0-o/\x.getD c 0-o<=B)->rows.length=off.length->b<=B->(0<=b\/rows≠[])->0<=XE c b rows off/\XE c b rows off<=B
 | [],off,b,_,_,h1,h2=>by
  rcases h2 with h2 | h2
  ·cases off<;>exact⟨h2,h1⟩
  ·exact absurd rfl h2
 | row::rows,[],b,_,hl,_,_=>by simp at hl
 | row::rows,o::off,b,h,hl,h1,h2=>by
  have hx:=h 0 row o rfl rfl;unfold XE;refine Za3 (fun k x o h3 h4=>h (k+1) x o h3 h4) (by simpa using hl) ?_ (.inl ?_)<;>split<;>(try split)<;>omega
theorem YG {m c x:Nat}(h:m<18446744073709551616) : x∈Zc (Zx m c)↔x∈Zc m/\x≠c:=by
 rw[Xf h,List.mem_filter]
 constructor
 ·rintro ⟨h1,h2⟩
  exact⟨h1,fun e=>by subst e;simp at h2⟩
 ·rintro ⟨h1,h2⟩
  exact⟨h1,by simp;exact fun e=>h2 e.symm⟩
theorem VU {n:Nat} : ∀ {p:List Int} {m q:Nat},SubN n m->ZV m p=some q->∃ l:List Nat,p=Ze l/\l.Nodup/\(∀ x∈l,x∈Zc m)/\∀ x,x∈Zc q↔x∈Zc m/\x∉l
 | [],m,q,_,e=>by
  simp only[ZV,Option.some.injEq] at e;subst e;exact⟨[],rfl,List.Pairwise.nil,by simp,by simp⟩
 | c::p,m,q,h,e=>by
  unfold ZV at e;split at e
  ·rename_i hc
   obtain⟨l,rfl,h1,h2,h3⟩:=VU (h.clr _) e;have hm:c.toNat∈Zc m:=Z1.2 ⟨by omega,hc.2.2⟩;have hnot:c.toNat∉l:=fun hl=>((YG h.1).1 (h2 _ hl)).2 rfl
   refine⟨c.toNat::l,?_,List.nodup_cons.2 ⟨hnot,h1⟩,?_,fun x=>?_⟩
   ·simp only[Ze,List.map_cons,List.cons.injEq,and_true]
    omega
   ·intro x hx
    rcases List.mem_cons.1 hx with rfl | hx
    ·exact hm
    ·exact((YG h.1).1 (h2 x hx)).1
   ·rw[h3 x,YG h.1]
    simp only[List.mem_cons,not_or];exact⟨fun⟨⟨a,b⟩,c⟩=>⟨a,b,c⟩,fun⟨a,b,c⟩=>⟨⟨a,b⟩,c⟩⟩
  ·cases e
theorem QX {n:Nat}(h24:n<=24){p:List Int}{q:Nat}(e:ZW n p=some q) : ∃ l:List Nat,p=Ze l/\l.Nodup/\(∀ x∈l,x<n)/\∀ x,x∈Zc q↔x<n/\x∉l:=by
 unfold ZW at e;split at e
 ·cases e
 ·obtain⟨l,h1,h2,h3,h4⟩:=VU (Yy h24) e
  have hm:∀ x,x∈Zc (2^n-1)↔x<n:=fun x=>by rw[YI (by omega),List.mem_range]
  exact⟨l,h1,h2,fun x hx=>(hm x).1 (h3 x hx),fun x=>by rw[h4 x,hm x]⟩
theorem XR {n:Nat}(h24:n<=24){p:List Int}{m c:Nat}(e:ZW n p=some m)(hc:c∈Zc m) : ZW n (p++[(c:Int)])=some (Zx m c):=by
 have hlen:=Yi h24 e;have hpos:0<(Zc m).length:=List.length_pos_of_mem hc;unfold ZW at e ⊢;rw[if_neg (by omega)] at e;rw[if_neg (by rw[List.length_append,List.length_singleton];omega)];have key:∀ {p:List Int} {m0:Nat},ZV m0 p=some m->ZV m0 (p++[(c:Int)])=some (Zx m c):=by
  intro p
  induction p with
  | nil =>
   intro m0 h;simp only[ZV,Option.some.injEq] at h;subst h;have:=Z1.1 hc;show ZV m0 ((c:Int)::[])=_;unfold ZV;rw[if_pos ⟨by omega,by omega,by rw[Int.toNat_natCast];exact this.2⟩,Int.toNat_natCast]
   rfl
  | cons d p ih =>
   intro m0 h;show ZV m0 (d::(p++[(c:Int)]))=_;unfold ZV at h ⊢;split at h
   ·rename_i hd
    rw[if_pos hd];exact ih h
   ·cases h
 exact key e
theorem JG : ∀ (rows:List (List Int)) (p q:List Int),Zs rows (p++q)=Zs rows p+Zs (rows.drop p.length) q
 | rows,[],q=>by cases rows<;>simp[Zs]
 | [],c::p,q=>by simp[Zs]
 | r::rows,c::p,q=>by
  have:=JG rows p q;simp only[List.cons_append,Zs,List.length_cons,List.drop_succ_cons];omega
theorem ZcL {c:Nat} : ∀ {rows:List (List Int)} {off:List Int} {b:Int},(∀ (k:Nat) (x:List Int) (o:Int),rows[k]?=some x->off[k]?=some o->0<=x.getD c 0-o)->(0<=b->XE c b rows off<=b)/\∀ (k:Nat) (x:List Int) (o:Int),rows[k]?=some x->off[k]?=some o->XE c b rows off<=x.getD c 0-o
 | [],off,b,_=>⟨fun _=>by cases off<;>exact Int.le_refl _,fun k x o h=>by simp at h⟩
 | row::rows,[],b,_=>⟨fun _=>Int.le_refl _,fun k x o _ h=>by simp at h⟩
 | row::rows,o::off,b,h=>by
  have hx:=h 0 row o rfl rfl;have ih:=ZcL (rows:=rows) (off:=off) (b:=if b<0 then row.getD c 0-o else if row.getD c 0-o<b then row.getD c 0-o else b) (fun k x o h1 h2=>h (k+1) x o h1 h2);unfold XE;refine⟨fun hb=>?_,fun k x o' h1 h2=>?_⟩
  ·refine Int.le_trans (ih.1 ?_) ?_<;>split<;>(try split)<;>omega
  ·cases k with
   | zero =>
    simp only[List.getElem?_cons_zero,Option.some.injEq] at h1 h2;subst h1 h2;refine Int.le_trans (ih.1 ?_) ?_<;>split<;>(try split)<;>omega
   | succ k=>exact ih.2 k x o' (by simpa using h1) (by simpa using h2)
theorem UT (row:List Int)(l:List Nat) : Zt (fun c=>row.getD c 0) (-1) l=XQ (-1) (l.map fun c=>row.getD c 0):=(WJ _ _ _).symm
theorem Zdt {rows:List (List Int)}{l q:List Nat}(hq:q.Perm l)(hl:rows.length=l.length)(num:∀ row∈rows,∀ c∈l,0<=row.getD c 0) : Yn rows l<=Zs rows (Ze q):=by
 have ho:∀ (k:Nat) (x:List Int) (o:Int),rows[k]?=some x->(Wr rows l)[k]?=some o->∀ c∈l,0<=x.getD c 0-o:=fun k x o h1 h2 c hc=>by
  unfold Wr at h2;rw[List.getElem?_map,h1] at h2;obtain rfl:=Option.some.inj h2;have hx:=List.mem_of_getElem? h1;have h3:=(Vw (l:=l.map fun c=>x.getD c 0) (b:=-1) fun y hy=>by
   obtain⟨c',hc',rfl⟩:=List.mem_map.1 hy;exact num x hx c' hc').1 (x.getD c 0) (List.mem_map.2 ⟨c,hc,rfl⟩)
  show 0<=x.getD c 0-Zt (fun c=>x.getD c 0) (-1) l;rw[UT];omega
 have h:=QJ (F:=fun c=>XE c (-1) rows (Wr rows l)) (rows:=rows) (off:=Wr rows l) (q:=q) (by rw[hq.length_eq];exact hl) (by simp[Wr,hq.length_eq,hl]) fun k c x o h1 h2 h3=>by
  have hc:c∈l:=hq.mem_iff.1 (List.mem_of_getElem? h3);have:=(ZcL (c:=c) (b:=-1) (rows:=rows) (off:=Wr rows l) fun k x o a b=>ho k x o a b c hc).2 k x o h1 h2;omega
 have e:=YL (hq.map fun c=>XE c (-1) rows (Wr rows l));unfold Yn;omega
theorem Up {l:List Int}(h:∀ x∈l,0<=x) : 0<=Zj l:=YK h
theorem ZbX {rows:List (List Int)}{l:List Nat}(hl:l≠[])(hr:rows≠[])(num:∀ row∈rows,∀ c∈l,0<=row.getD c 0/\row.getD c 0<=2147483647) : 0<=Yn rows l:=by
 have ho:∀ x∈Wr rows l,0<=x/\x<=2147483647:=fun x hx=>by
  obtain⟨row,h,rfl⟩:=List.mem_map.1 hx;rw[UT];refine US (fun y hy=>?_) (by omega) (.inr (by simpa using hl));obtain⟨c,hc,rfl⟩:=List.mem_map.1 hy;exact num row h c hc
 have hc:∀ x∈l.map (fun c=>XE c (-1) rows (Wr rows l)),0<=x:=fun x hx=>by
  obtain⟨c,hc,rfl⟩:=List.mem_map.1 hx;refine(Za3 (B:=2147483647) (fun k x o h1 h2=>?_) (by simp[Wr]) (by omega) (.inr hr)).1;have hx:=List.mem_of_getElem? h1;have hob:=ho o (List.mem_of_getElem? h2);unfold Wr at h2;rw[List.getElem?_map,h1] at h2;obtain rfl:=Option.some.inj h2;have h3:=(Vw (l:=l.map fun c=>x.getD c 0) (b:=-1) fun y hy=>by
   obtain⟨c',hc',rfl⟩:=List.mem_map.1 hy;exact(num x hx c' hc').1).1 (x.getD c 0) (List.mem_map.2 ⟨c,hc,rfl⟩)
  have h4:=num x hx c hc;simp only[UT] at hob ⊢;omega
 have h1:=Up fun x hx=>(ho x hx).1
 have h2:=Up hc;unfold Yn;omega
def YN (rows:List (List Int))(n:Nat) : Nat->List Int->Int
 | 0,p=>Zs rows p
 | f+1,p=>ZK (fun x=>YN rows n f (p++[x])) (-1) (match ZW n p with | none=>[] | some m=>Ze (Zc m))
theorem Vx {f:Int->Int} : ∀ {l:List Int} {b:Int},(∀ x∈l,0<=f x)->(0<=b\/l≠[])->(ZK f b l=b/\0<=b)\/∃ x∈l,ZK f b l=f x
 | [],b,_,h=>by
  rcases h with h | h
  ·exact .inl ⟨rfl,h⟩
  ·exact absurd rfl h
 | x::l,b,h,_=>by
  have hx:=h x (by simp);have ih:=Vx (f:=f) (l:=l) (b:=if b<0 then f x else if f x<b then f x else b) (fun y hy=>h y (by simp[hy])) (.inl (by split<;>(try split)<;>omega));unfold ZK;rcases ih with⟨e,_⟩ | ⟨y,hy,e⟩
  ·rw[e]
   split
   ·exact .inr ⟨x,by simp,rfl⟩
   ·split
    ·exact .inr ⟨x,by simp,rfl⟩
    ·exact .inl ⟨rfl,by omega⟩
  ·exact .inr ⟨y,by simp[hy],e⟩
theorem Vy {rows:List (List Int)}(h24:rows.length<=24)(num:∀ row∈rows,∀ c,c<rows.length->0<=row.getD c 0) : ∀ (f:Nat) (p:List Int) (m:Nat),ZW rows.length p=some m->f=rows.length-p.length->∃ q:List Nat,q.Perm (Zc m)/\YN rows rows.length f p=Zs rows (p++Ze q)
 | 0,p,m,hp,hf=>by
  have hlen:=Yi h24 hp;refine⟨[],?_,by simp[YN,Ze]⟩;rw[List.eq_nil_of_length_eq_zero (show (Zc m).length=0 by omega)]
 | f+1,p,m,hp,hf=>by
  have hlen:=Yi h24 hp;have hsub:=(Xt h24 hp).2.2;have ih:∀ c∈Zc m,∃ q:List Nat,q.Perm (Zc (Zx m c))/\YN rows rows.length f (p++[(c:Int)])=Zs rows (p++[(c:Int)]++Ze q):=fun c hc =>
   Vy h24 num f _ _ (XR h24 hp hc) (by rw[List.length_append,List.length_singleton];omega)
  have hpos:∀ x∈Ze (Zc m),0<=YN rows rows.length f (p++[x]):=fun x hx=>by
   obtain⟨c,hc,rfl⟩:=List.mem_map.1 hx;obtain⟨q,h1,h2⟩:=ih c hc;rw[h2];have hin:=(Xt h24 hp).2.1;have:∀ (rs:List (List Int)) (l:List Int),(∀ row∈rs,row∈rows)->(∀ x∈l,0<=x/\x<rows.length)->0<=Zs rs l:=by
    intro rs
    induction rs with
    | nil=>intro l _ _;simp[Zs]
    | cons r rs ihr =>
     intro l h3 h4
     cases l with
     | nil=>simp[Zs]
     | cons d l =>
      have h5:=h4 d (by simp);have h6:=num r (h3 r (by simp)) d.toNat (by omega);have h7:=ihr l (fun y hy=>h3 y (by simp[hy])) (fun y hy=>h4 y (by simp[hy]));simp only[Zs];omega
   refine this rows _ (fun _ h=>h) fun y hy=>?_
   rcases List.mem_append.1 hy with hy | hy
   ·rcases List.mem_append.1 hy with hy | hy
    ·exact hin y hy
    ·obtain rfl:=List.mem_singleton.1 hy
     have:=hsub.2 c hc;omega
   ·obtain⟨d,hd,rfl⟩:=List.mem_map.1 hy
    have:=hsub.2 d (((YG hsub.1).1 (h1.mem_iff.1 hd)).1);omega
  have hne:Zc m≠[]:=by
   intro e;rw[e] at hlen;simp at hlen;omega
  have e:YN rows rows.length (f+1) p=ZK (fun x=>YN rows rows.length f (p++[x])) (-1) (Ze (Zc m)):=by
   show ZK _ (-1) (match ZW rows.length p with | none=>[] | some m=>Ze (Zc m))=_;rw[hp]
  rcases Vx (b:=-1) hpos (.inr (by simpa [Ze] using hne)) with⟨_,h⟩ | ⟨x,hx,h⟩
  ·omega
  ·obtain⟨c,hc,rfl⟩:=List.mem_map.1 hx
   obtain⟨q,h1,h2⟩:=ih c hc;refine⟨c::q,?_,?_⟩
   ·refine(h1.cons c).trans ?_
    refine(List.perm_ext_iff_of_nodup ?_ ((Zu m).imp fun h=>Nat.ne_of_lt h)).2 fun x=>?_
    ·refine List.nodup_cons.2 ⟨fun h=>((YG hsub.1).1 h).2 rfl,(Zu _).imp fun h=>Nat.ne_of_lt h⟩
    ·rw[List.mem_cons,YG hsub.1]
     constructor
     ·rintro (rfl | ⟨h,_⟩)
      ·exact hc
      ·exact h
     ·intro h
      by_cases e:x=c
      ·exact .inl e
      ·exact .inr ⟨h,e⟩
   ·rw[e,h,h2]
    simp[Ze]
theorem WK {rows:List (List Int)}(ok:RowsOk rows){p:List Int}{m:Nat}(hp:ZW rows.length p=some m) : 0<=(Ys rows p).1/\(Ys rows p).1<=YN rows rows.length (rows.length-p.length) p/\(Ys rows p).2=0:=by
 have h24:=ok.n2;have hlen:=Yi h24 hp;obtain⟨hpl,hin,hsub⟩:=Xt h24 hp;have num:∀ row∈rows,∀ c,c<rows.length->0<=row.getD c 0:=fun row hr c hc=>(ok.get hr hc).1
 obtain⟨q,h1,h2⟩:=Vy h24 num _ p m hp rfl;have hb:Ys rows p=(Zs rows p+(if p.length<rows.length then Yn (rows.drop p.length) (Zc m) else 0),0):=by unfold Ys;rw[hp]
 have hc:=(QT (B:=2147483647) (rows:=rows) (p:=p) (by omega) fun row hr c hc=>by
  have:=hin c hc;exact ok.get hr (by omega)).1
 rw[hb,h2,JG];simp only
 by_cases hlt:p.length<rows.length
 ·rw[if_pos hlt]
  have h3:=Zdt (rows:=rows.drop p.length) h1 (by rw[List.length_drop];omega) fun row hr c hc=>num row (List.mem_of_mem_drop hr) c (hsub.2 c hc)
  have h4:=ZbX (rows:=rows.drop p.length) (l:=Zc m) (by intro e;rw[e] at hlen;simp at hlen;omega) (by intro e;have:=congrArg List.length e;rw[List.length_drop] at this;simp at this;omega) fun row hr c hc=>ok.get (List.mem_of_mem_drop hr) (hsub.2 c hc)
  exact⟨by omega,by omega,trivial⟩
 ·rw[if_neg hlt]
  have:q=[]:=List.eq_nil_of_length_eq_zero (by rw[h1.length_eq];omega);subst this;have e:Zs (rows.drop p.length) (Ze [])=0:=by cases rows.drop p.length<;>rfl
  rw[e];exact⟨by omega,by omega,trivial⟩
theorem ZbY {n:Nat}(h24:n<=24){p:List Int}{m:Nat}(hp:ZW n p=some m)(hl:p.length=n) : ∃ l:List Nat,p=Ze l/\l.Perm (List.range n):=by
 obtain⟨l,h1,h2,h3,h4⟩:=QX h24 hp;have hlen:=Yi h24 hp;have he:Zc m=[]:=List.eq_nil_of_length_eq_zero (by omega);refine⟨l,h1,(List.perm_ext_iff_of_nodup h2 List.nodup_range).2 fun x=>?_⟩;rw[List.mem_range];refine⟨h3 x,fun hx=>?_⟩
 by_cases hxl:x∈l
 ·exact hxl
 ·exfalso
  have:=(h4 x).2 ⟨hx,hxl⟩;rw[he] at this
  cases this
def Zy (rows:List (List Int)) : Nat->List Nat->Int
 | last,[]=>Zb rows last 0
 | last,u::q=>Zb rows last u+Zy rows u q
section
variable {rows:List (List Int)}
theorem QY {p:List Int}{m:Nat}(hp:ZW rows.length p=some m) : ∃ l:List Nat,(Wt rows p).1=Ze l/\l.Perm (Zc m)/\(Wt rows p).2=0:=by
 refine⟨Xz (ltC (cfR (rows.getD p.length []))) (Zc m),?_,ZP _ _ _,?_⟩<;>(unfold Wt;rw[hp])
theorem Xg {n:Nat} : ZW n []=some (2^n-1):=by
 unfold ZW;rw[if_neg (by simp)]
 rfl
end
end Go.Proofs.YtmojhhlcocjoaaaGreatDoor
namespace Go.Proofs.YtmojhhlcocjoaaaGreatDoor
def Y8 (rows:List (List Int))(m last:Nat)(cost:Int) : List Int->Option (Nat×Nat×Int)
 | []=>some (m,last,cost)
 | c::p=>if 0<=c/\c<64/\m.testBit c.toNat=true then Y8 rows (Zx m c.toNat) c.toNat (cost+Zb rows last c.toNat) p else none
def Z8 (rows:List (List Int))(p:List Int) : Option (Nat×Nat×Int):=if rows.length-1<p.length then none else Y8 rows (Zx (2^rows.length-1) 0) 0 0 p
def Wu (rows:List (List Int))(p:List Int) : List Int×Int :=
 match Z8 rows p with
 | none=>([],1)
 | some (m,last,_)=>(Ze (Xz (ltC (cfR (rows.getD last []))) (Zc m)),0)
def Yc (us:List Nat)(last src:Nat) : List Nat:=if src=last then us else 0::us.filter fun x=>decide (src≠x)
def Z5 (rows:List (List Int))(us:List Nat)(last src:Nat) : Int:=max (Zt (fun dst=>Zb rows src dst) (-1) (Yc us last src)) 0
def We (rows:List (List Int))(us:List Nat)(last dst:Nat) : Int:=Zt (fun src=>Zb rows src dst-Z5 rows us last src) (-1) ((last::us).filter fun src=>decide (dst∈Yc us last src))
def ZS (rows:List (List Int))(us:List Nat)(last:Nat) : Int:=Zj ((last::us).map fun src=>Z5 rows us last src)+Zj ((0::us).map fun dst=>max (We rows us last dst) 0)
def Xu (p:Int×Int)(n:Int) : Int×Int:=if n<p.1 then(n,p.1) else if n<p.2 then(p.1,n) else p
def ZJ (rows:List (List Int))(us:List Nat)(last u:Nat) : Int×Int :=
 (us.filter fun x=>decide (u≠x)).foldl (fun p v=>Xu p (Zb rows u v)) (min (Zb rows u last) (Zb rows u 0),max (Zb rows u last) (Zb rows u 0))
def WV (rows:List (List Int))(us:List Nat)(last:Nat) : Int :=
 Zj (us.map fun u=>(ZJ rows us last u).1+(ZJ rows us last u).2)+Zt (fun u=>Zb rows last u) (-1) us+Zt (fun u=>Zb rows u 0) (-1) us
def Yt (rows:List (List Int))(mirror:Bool)(p:List Int) : Int×Int :=
 match Z8 rows p with
 | none=>(0,1)
 | some (m,last,c)=>(c+(if Zc m=[] then Zb rows last 0 else if mirror=true then max (ZS rows (Zc m) last) ((WV rows (Zc m) last+1) / 2) else ZS rows (Zc m) last),0)
theorem Vz {f:Nat->Int} : ∀ {l:List Nat} {b:Int},(∀ x∈l,0<=f x)->(∀ x∈l,Zt f b l<=f x)/\(0<=b->Zt f b l<=b):=fun {l b} h=>by
 have h1:=Vw (l:=l.map f) (b:=b) fun y hy=>by
  obtain⟨x,hx,rfl⟩:=List.mem_map.1 hy;exact h x hx
 rw[WJ] at h1;exact⟨fun x hx=>h1.1 (f x) (List.mem_map.2 ⟨x,hx,rfl⟩),h1.2⟩
theorem QZ {f:Nat->Int}{B:Int}{l:List Nat}(h:∀ x∈l,0<=f x/\f x<=B)(hl:l≠[])(hB:0<=B) : 0<=Zt f (-1) l/\Zt f (-1) l<=B:=by
 rw[<-WJ];refine US (fun y hy=>?_) (by omega) (.inr (by simpa using hl));obtain⟨x,hx,rfl⟩:=List.mem_map.1 hy;exact h x hx
section
variable {rows:List (List Int)} {us:List Nat} {last:Nat}
theorem Zf3 {B:Int}(num:∀ a b,(a=last\/a∈us)->(b=0\/b∈us)->0<=Zb rows a b/\Zb rows a b<=B){src dst:Nat}(hs:src∈last::us)(hd:dst∈Yc us last src) : Z5 rows us last src+max (We rows us last dst) 0<=Zb rows src dst:=by
 have hcol:∀ {s d:Nat},d∈Yc us last s->d=0\/d∈us:=fun {s d} h=>by
  unfold Yc at h;split at h
  ·exact .inr h
  ·rcases List.mem_cons.1 h with h | h
   ·exact .inl h
   ·exact .inr (List.mem_filter.1 h).1
 have hsrc:∀ {s:Nat},s∈last::us->s=last\/s∈us:=fun {s} h=>List.mem_cons.1 h
 have hoff:∀ s∈last::us,∀ d∈Yc us last s,Z5 rows us last s<=Zb rows s d/\0<=Z5 rows us last s:=fun s h1 d h2=>by
  have h3:=(Vz (f:=fun dst=>Zb rows s dst) (l:=Yc us last s) (b:=-1) fun x hx=>(num s x (hsrc h1) (hcol hx)).1).1 d h2;have h4:=(num s d (hsrc h1) (hcol h2)).1;unfold Z5;omega
 have h1:=hoff src hs dst hd;have h2:=(Vz (f:=fun src=>Zb rows src dst-Z5 rows us last src) (l:=(last::us).filter fun src=>decide (dst∈Yc us last src)) (b:=-1) fun x hx=>by
  have h3:=List.mem_filter.1 hx;have h4:=hoff x h3.1 dst (of_decide_eq_true h3.2);omega).1 src (List.mem_filter.2 ⟨hs,decide_eq_true hd⟩)
 unfold We;omega
theorem ZcM {F G:Nat->Int} : ∀ (q:List Nat) (s:Nat),(∀ a b,(a,b)∈(s::q).zip (q++[0])->F a+G b<=Zb rows a b)->Zj ((s::q).map F)+Zj ((q++[0]).map G)<=Zy rows s q
 | [],s,h=>by
  have:=h s 0 (by simp);simp only[List.map_cons,List.map_nil,List.nil_append,Zj,Zy];omega
 | u::q,s,h=>by
  have h1:=h s u (by simp);have h2:=ZcM q u fun a b hab=>h a b (by
   simp only[List.cons_append,List.zip_cons_cons,List.mem_cons];exact .inr hab)
  simp only[List.map_cons,List.cons_append,Zj,Zy] at h2 ⊢;omega
theorem ZcN : ∀ (q:List Nat) (s a b:Nat),(a,b)∈(s::q).zip (q++[0])->(s::q).Nodup->a∈s::q/\(b=0\/b∈q)/\(a=s->q=[]\/b∈q)/\(b∈q->a≠b\/b=0)
 | [],s,a,b,h,_=>by
  simp at h;obtain⟨rfl,rfl⟩:=h;exact⟨by simp,.inl rfl,fun _=>.inl rfl,fun h=>by cases h⟩
 | u::q,s,a,b,h,hn=>by
  have hn':=List.nodup_cons.1 hn;simp only[List.cons_append,List.zip_cons_cons,List.mem_cons,Prod.mk.injEq] at h;rcases h with⟨rfl,rfl⟩ | h
  ·exact⟨by simp,.inr (by simp),fun _=>.inr (by simp),fun _=>.inl fun e=>hn'.1 (by simp[e])⟩
  ·have ih:=ZcN q u a b h hn'.2
   refine⟨List.mem_cons_of_mem _ ih.1,?_,fun e=>?_,fun hb=>?_⟩
   ·rcases ih.2.1 with h | h
    ·exact .inl h
    ·exact .inr (by simp[h])
   ·subst e
    exact absurd ih.1 hn'.1
   ·rcases List.mem_cons.1 hb with rfl | hb
    ·rcases ih.2.1 with h0 | h0
     ·exact .inr h0
     ·exact absurd h0 (List.nodup_cons.1 hn'.2).1
    ·exact ih.2.2.2 hb
theorem ZbZ {B:Int}(num:∀ a b,(a=last\/a∈us)->(b=0\/b∈us)->0<=Zb rows a b/\Zb rows a b<=B)(hn:(last::us).Nodup)(hu:us≠[])(h0:0∉us){q:List Nat}(hq:q.Perm us) : ZS rows us last<=Zy rows last q:=by
 have hnq:(last::q).Nodup:=(hq.cons last).nodup_iff.2 hn;have h:=ZcM (rows:=rows) (F:=fun src=>Z5 rows us last src) (G:=fun dst=>max (We rows us last dst) 0) q last fun a b hab=>by
  obtain⟨z1,z2,z3,z4⟩:=ZcN q last a b hab hnq;refine Zf3 num ((hq.cons last).mem_iff.1 z1) ?_;unfold Yc
  by_cases e:a=last
  ·rw[if_pos e]
   rcases z3 e with h | h
   ·exfalso
    rw[h] at hq;exact hu (List.Perm.eq_nil (hq.symm))
   ·exact hq.mem_iff.1 h
  ·rw[if_neg e]
   rcases z2 with rfl | h
   ·simp
   ·refine List.mem_cons_of_mem _ (List.mem_filter.2 ⟨hq.mem_iff.1 h,decide_eq_true ?_⟩)
    rcases z4 h with h' | h'
    ·exact h'
    ·subst h'
     exact absurd (hq.mem_iff.1 h) h0
 have e1:=YL (((hq.cons last)).map fun src=>Z5 rows us last src);have e2:Zj ((q++[0]).map fun dst=>max (We rows us last dst) 0)=Zj ((0::us).map fun dst=>max (We rows us last dst) 0) :=
  YL (((List.perm_append_comm (l₁:=q) (l₂:=[0])).trans (hq.cons 0)).map _)
 unfold ZS;rw[<-e1,<-e2];exact h
def Two (p:Int×Int)(l:List Int) : Prop:=p.1<=p.2/\(∀ x∈l,p.1<=x)/\l.Pairwise fun x y=>p.1+p.2<=x+y
theorem Two.put {p:Int×Int}{l:List Int}(h:Two p l)(n:Int) : Two (Xu p n) (l++[n]):=by
 obtain⟨h1,h2,h3⟩:=h;have key:∀ {q:Int×Int},q.1<=q.2->q.1<=p.1->q.1<=n->q.1+q.2<=p.1+p.2->(∀ x∈l,q.1+q.2<=x+n)->Two q (l++[n]):=by
  intro q k1 k2 k3 k4 k5;refine⟨k1,fun x hx=>?_,List.pairwise_append.2 ⟨h3.imp fun hxy=>by omega,List.pairwise_singleton _ _,fun x hx y hy=>?_⟩⟩
  ·rcases List.mem_append.1 hx with hx | hx
   ·have:=h2 x hx;omega
   ·obtain rfl:=List.mem_singleton.1 hx;exact k3
  ·obtain rfl:=List.mem_singleton.1 hy
   exact k5 x hx
 unfold Xu;split
 ·exact key (by simp only;omega) (by simp only;omega) (by simp only;omega) (by simp only;omega) fun x hx=>by have:=h2 x hx;simp only;omega
 ·split
  ·exact key (by simp only;omega) (by simp only;omega) (by simp only;omega) (by simp only;omega) fun x hx=>by have:=h2 x hx;simp only;omega
  ·exact key (by omega) (by omega) (by omega) (by omega) fun x hx=>by have:=h2 x hx;omega
theorem Za4 (f:Nat->Int) : ∀ (vs:List Nat) (p:Int×Int) (l:List Int),Two p l->Two (vs.foldl (fun p v=>Xu p (f v)) p) (l++vs.map f)
 | [],p,l,h=>by simpa using h
 | v::vs,p,l,h=>by
  have:=Za4 f vs (Xu p (f v)) (l++[f v]) (h.put (f v))
  simpa using this
theorem Zdu (rows:List (List Int))(us:List Nat)(last u:Nat) : Two (ZJ rows us last u) ([Zb rows u last,Zb rows u 0]++(us.filter fun x=>decide (u≠x)).map fun v=>Zb rows u v):=by
 refine Za4 (fun v=>Zb rows u v) _ _ _ ⟨by simp only;omega,fun x hx=>?_,?_⟩
 ·simp at hx
  rcases hx with rfl | rfl<;>(simp only;omega)
 ·simp only[List.pairwise_cons,List.mem_singleton,forall_eq,List.not_mem_nil,false_imp_iff,implies_true,List.Pairwise.nil,and_true]
  omega
theorem ZcO {u a b:Nat}(hu:us.Nodup)(ha:a=last\/(a∈us/\u≠a))(hb:b=0\/(b∈us/\u≠b))(hab:a∈us->b∈us->a≠b)(hl:last∉us)(h0:0∉us) : (ZJ rows us last u).1+(ZJ rows us last u).2<=Zb rows u a+Zb rows u b:=by
 obtain⟨_,_,h3⟩:=Zdu rows us last u;rw[List.pairwise_append] at h3;obtain⟨k1,k2,k3⟩:=h3;have m:∀ {x:Nat},x∈us->u≠x->Zb rows u x∈(us.filter fun x=>decide (u≠x)).map fun v=>Zb rows u v:=fun {x} h1 h2=>List.mem_map.2 ⟨x,List.mem_filter.2 ⟨h1,decide_eq_true h2⟩,rfl⟩
 rcases ha with rfl | ⟨a1,a2⟩
 ·rcases hb with rfl | ⟨b1,b2⟩
  ·simp only[List.pairwise_cons,List.mem_singleton,forall_eq] at k1
   exact k1.1
  ·exact k3 _ (by simp) _ (m b1 b2)
 ·rcases hb with rfl | ⟨b1,b2⟩
  ·have:=k3 (Zb rows u 0) (by simp) _ (m a1 a2)
   omega
  ·have hne:=hab a1 b1
   rw[List.pairwise_map] at k2;have hfn:(us.filter fun x=>decide (u≠x)).Nodup:=List.Pairwise.filter _ hu;obtain⟨i,hi,ei⟩:=List.mem_iff_getElem.1 (List.mem_filter.2 ⟨a1,decide_eq_true a2⟩:a∈us.filter fun x=>decide (u≠x));obtain⟨j,hj,ej⟩:=List.mem_iff_getElem.1 (List.mem_filter.2 ⟨b1,decide_eq_true b2⟩:b∈us.filter fun x=>decide (u≠x));rcases Nat.lt_trichotomy i j with h | h | h
   ·have:=List.pairwise_iff_getElem.1 k2 i j hi hj h
    rw[ei,ej] at this;exact this
   ·subst h
    exact absurd (ei.symm.trans ej) hne
   ·have:=List.pairwise_iff_getElem.1 k2 j i hj hi h
    rw[ei,ej] at this;omega
end
end Go.Proofs.YtmojhhlcocjoaaaGreatDoor
namespace Go.Proofs.YtmojhhlcocjoaaaGreatDoor
section
variable {rows:List (List Int)} {us:List Nat} {last:Nat}
def Za5 (rows:List (List Int))(us:List Nat)(last u:Nat) : Int:=(ZJ rows us last u).1+(ZJ rows us last u).2
def ZeD (rows:List (List Int))(us:List Nat)(last:Nat) : Nat->List Nat->Prop
 | _,[]=>True
 | s,[u]=>Za5 rows us last u<=Zb rows s u+Zb rows u 0
 | s,u::v::q=>Za5 rows us last u<=Zb rows s u+Zb rows u v/\ZeD rows us last u (v::q)
theorem JH : ∀ (q:List Nat) (s u:Nat),ZeD rows us last s (u::q)->Zj ((u::q).map (Za5 rows us last))+Zb rows s u+Zb rows ((u::q).getLast (by simp)) 0<=2*Zy rows s (u::q)
 | [],s,u,h=>by
  simp only[ZeD] at h;simp only[List.map_cons,List.map_nil,Zj,List.getLast_singleton,Zy];omega
 | v::q,s,u,h=>by
  simp only[ZeD] at h;have ih:=JH q u v h.2;have e:(u::v::q).getLast (by simp)=(v::q).getLast (by simp):=List.getLast_cons (by simp);rw[e];simp only[List.map_cons,Zj,Zy] at ih ⊢;omega
theorem ZcP (sym:∀ a b,(a=last\/a∈us)->(b=last\/b∈us)->Zb rows a b=Zb rows b a)(hu:us.Nodup)(hl:last∉us)(h0:0∉us) : ∀ (q:List Nat) (s:Nat),q.Nodup->(∀ x∈q,x∈us)->s∉q->(s=last\/s∈us)->ZeD rows us last s q
 | [],_,_,_,_,_=>trivial
 | [u],s,_,hq,hs,hsl=>by
  have huu:=hq u (by simp);have hne:u≠s:=fun e=>hs (by simp[e])
  have:=ZcO (rows:=rows) (us:=us) (last:=last) (u:=u) (a:=s) (b:=0) hu (hsl.imp id fun h=>⟨h,hne⟩) (.inl rfl) (fun _ h=>absurd h h0) hl h0;rw[sym u s (.inr huu) hsl] at this;exact this
 | u::v::q,s,hn,hq,hs,hsl=>by
  have huu:=hq u (by simp);have hvv:=hq v (by simp);have hne:u≠s:=fun e=>hs (by simp[e])
  have hn':=List.nodup_cons.1 hn;have huv:u≠v:=fun e=>hn'.1 (by simp[e])
  have hsv:s≠v:=fun e=>hs (by simp[e])
  have:=ZcO (rows:=rows) (us:=us) (last:=last) (u:=u) (a:=s) (b:=v) hu (hsl.imp id fun h=>⟨h,hne⟩) (.inr ⟨hvv,huv⟩) (fun _ _=>hsv) hl h0;rw[sym u s (.inr huu) hsl] at this;exact⟨this,ZcP sym hu hl h0 (v::q) u hn'.2 (fun x hx=>hq x (by simp[hx])) hn'.1 (.inr huu)⟩
theorem ZeE (num:∀ a b,(a=last\/a∈us)->(b=0\/b∈us)->0<=Zb rows a b)(sym:∀ a b,(a=last\/a∈us)->(b=last\/b∈us)->Zb rows a b=Zb rows b a)(hu:us.Nodup)(hl:last∉us)(h0:0∉us){q:List Nat}(hq:q.Perm us)(hne:us≠[]) : WV rows us last<=2*Zy rows last q:=by
 match q,hq with
 | [],hq=>exact absurd (List.Perm.eq_nil hq.symm) hne
 | u::q,hq =>
  have hsub:∀ x∈u::q,x∈us:=fun x hx=>hq.mem_iff.1 hx
  have h1:=JH q last u (ZcP sym hu hl h0 (u::q) last (hq.nodup_iff.2 hu) hsub (fun h=>hl (hsub _ h)) (.inl rfl));have h2:=(Vz (f:=fun u=>Zb rows last u) (l:=us) (b:=-1) fun x hx=>num last x (.inl rfl) (.inr hx)).1 u (hsub u (by simp));have h3:=(Vz (f:=fun u=>Zb rows u 0) (l:=us) (b:=-1) fun x hx=>num x 0 (.inr hx) (.inl rfl)).1 _ (hsub _ (List.getLast_mem (l:=u::q) (by simp)));have e:=YL (hq.map (Za5 rows us last));have e2:Zj (us.map (Za5 rows us last))=Zj (us.map fun u=>(ZJ rows us last u).1+(ZJ rows us last u).2):=rfl;unfold WV;rw[<-e2,<-e];omega
end
def Vb : Nat->List Int->Nat
 | s,[]=>s
 | _,c::p=>Vb c.toNat p
def Vc (rows:List (List Int)) : Nat->List Int->Int
 | _,[]=>0
 | s,c::p=>Zb rows s c.toNat+Vc rows c.toNat p
theorem Za6 (rows:List (List Int)) : ∀ (p:List Int) (m last:Nat) (cost:Int),Y8 rows m last cost p=(ZV m p).map fun q=>(q,Vb last p,cost+Vc rows last p)
 | [],m,last,cost=>by simp[Y8,ZV,Vb,Vc]
 | c::p,m,last,cost=>by
  unfold Y8 ZV;split
  ·rw[Za6 rows p]
   cases ZV (Zx m c.toNat) p with
   | none=>rfl
   | some q =>
    simp only[Option.map_some,Vb,Vc,Option.some.injEq,Prod.mk.injEq,true_and];omega
  ·rfl
theorem VB : ∀ (l:List Nat) (s:Nat),Vb s (Ze l)=s\/Vb s (Ze l)∈l
 | [],s=>.inl rfl
 | c::l,s=>by
  have ih:=VB l c;simp only[Ze,List.map_cons,Vb,Int.toNat_natCast] at ih ⊢;rcases ih with h | h
  ·right;rw[h];simp
  ·right;simp[h]
theorem UU (rows:List (List Int)) : ∀ (l q:List Nat) (s:Nat),Zy rows s (l++q)=Vc rows s (Ze l)+Zy rows (Vb s (Ze l)) q
 | [],q,s=>by simp[Vc,Ze,Vb]
 | c::l,q,s=>by
  have:=UU rows l q c;simp only[List.cons_append,Zy,Ze,List.map_cons,Vc,Vb,Int.toNat_natCast] at this ⊢;omega
def WW (n:Nat) : Nat:=Zx (2^n-1) 0
theorem JI {n:Nat}(h:n<=24) : SubN n (WW n):=(Yy h).clr 0
theorem VD {n:Nat}(h:n<=24){x:Nat} : x∈Zc (WW n)↔x<n/\x≠0:=by
 unfold WW;rw[YG (Yy h).1,YI (by omega),List.mem_range]
theorem Zdv {n:Nat}(h1:1<=n)(h:n<=24) : (Zc (WW n)).length=n-1:=by
 have h2:=Wn (Zu (2^n-1)) (i:=0) (by rw[YI (by omega)];simp;omega);rw[<-Xf (Yy h).1,YI (by omega),List.length_range] at h2;unfold WW;omega
structure WalkOk (rows:List (List Int))(p:List Int)(m last:Nat)(cost:Int)(l:List Nat) : Prop where
 eq:p=Ze l
 nodup:l.Nodup
 inn:∀ x∈l,x<rows.length/\x≠0
 rest:∀ x,x∈Zc m↔(x<rows.length/\x≠0)/\x∉l
 len:(Zc m).length+l.length=rows.length-1
 sub:SubN rows.length m
 last:last=Vb 0 (Ze l)
 cost:cost=Vc rows 0 (Ze l)
theorem YV {rows:List (List Int)}(h1:1<=rows.length)(h24:rows.length<=24){p:List Int}{m last:Nat}{cost:Int}(h:Z8 rows p=some (m,last,cost)) : ∃ l,WalkOk rows p m last cost l:=by
 unfold Z8 at h;split at h
 ·cases h
 ·rw[Za6] at h
  cases hf:ZV (Zx (2^rows.length-1) 0) p with
  | none=>rw[hf] at h;cases h
  | some q =>
   rw[hf] at h;simp only[Option.map_some,Option.some.injEq,Prod.mk.injEq] at h;obtain⟨rfl,rfl,rfl⟩:=h;have hs:=JI h24;obtain⟨l,rfl,a1,a2,a3⟩:=VU hs hf;have a4:=UR hs hf;rw[Zdv h1 h24,Zm] at a4;exact⟨l,rfl,a1,fun x hx=>(VD h24).1 (a2 x hx),fun x=>by rw[a3 x,VD h24],a4,UO hs hf,rfl,by omega⟩
theorem Q0 (rows:List (List Int)){c:Nat}(hc64:c<64) : ∀ {p:List Int} {m0 m s last:Nat} {c0 cost:Int},Y8 rows m0 s c0 p=some (m,last,cost)->m.testBit c=true->Y8 rows m0 s c0 (p++[(c:Int)])=some (Zx m c,c,cost+Zb rows last c)
 | [],m0,m,s,last,c0,cost,h,hb=>by
  simp only[Y8,Option.some.injEq,Prod.mk.injEq] at h;obtain⟨rfl,rfl,rfl⟩:=h;show Y8 rows m0 s c0 ((c:Int)::[])=_;unfold Y8;rw[if_pos ⟨by omega,by omega,by rw[Int.toNat_natCast];exact hb⟩,Int.toNat_natCast]
  rfl
 | d::p,m0,m,s,last,c0,cost,h,hb=>by
  show Y8 rows m0 s c0 (d::(p++[(c:Int)]))=_;unfold Y8 at h ⊢;split at h
  ·rename_i hd
   rw[if_pos hd];exact Q0 rows hc64 h hb
  ·cases h
theorem WM {rows:List (List Int)}(h1:1<=rows.length)(h24:rows.length<=24){p:List Int}{m last:Nat}{cost:Int}(h:Z8 rows p=some (m,last,cost)){c:Nat}(hc:c∈Zc m) : Z8 rows (p++[(c:Int)])=some (Zx m c,c,cost+Zb rows last c):=by
 obtain⟨l,W⟩:=YV h1 h24 h;have hpos:0<(Zc m).length:=List.length_pos_of_mem hc;have hlen:=W.len;have hpl:p.length=l.length:=by rw[W.eq,Zm]
 have hb:=Z1.1 hc;unfold Z8 at h ⊢;rw[if_neg (by omega)] at h;rw[if_neg (by rw[List.length_append,List.length_singleton];omega)];exact Q0 rows hb.1 h hb.2
def YW (rows:List (List Int)) : Nat->List Int->Int
 | 0,p=>Zy rows 0 (p.map Int.toNat)
 | f+1,p=>ZK (fun x=>YW rows f (p++[x])) (-1) (match Z8 rows p with | none=>[] | some (m,_,_)=>Ze (Zc m))
theorem Yf : ∀ l:List Nat,(Ze l).map Int.toNat=l
 | []=>rfl
 | c::l=>by
  have:=Yf l;simp only[Ze,List.map_cons,Int.toNat_natCast] at this ⊢;rw[this]
theorem VE {rows:List (List Int)}(num:∀ a b,a<rows.length->b<rows.length->0<=Zb rows a b) : ∀ (q:List Nat) (s:Nat),s<rows.length->(∀ x∈q,x<rows.length)->0<=Zy rows s q
 | [],s,hs,_=>num s 0 hs (by omega)
 | u::q,s,hs,h=>by
  have h1:=num s u hs (h u (by simp));have h2:=VE num q u (h u (by simp)) fun x hx=>h x (by simp[hx])
  simp only[Zy];omega
theorem WN {rows:List (List Int)}(h1:1<=rows.length)(h24:rows.length<=24)(num:∀ a b,a<rows.length->b<rows.length->0<=Zb rows a b) : ∀ (f:Nat) (p:List Int) (m last:Nat) (cost:Int) (l:List Nat),Z8 rows p=some (m,last,cost)->WalkOk rows p m last cost l->f=rows.length-1-p.length->∃ q:List Nat,q.Perm (Zc m)/\YW rows f p=Zy rows 0 (l++q)
 | 0,p,m,last,cost,l,hp,W,hf=>by
  have hlen:=W.len;have hpl:p.length=l.length:=by rw[W.eq,Zm]
  refine⟨[],?_,by rw[List.append_nil];show Zy rows 0 (p.map Int.toNat)=_;rw[W.eq,Yf]⟩;rw[List.eq_nil_of_length_eq_zero (show (Zc m).length=0 by omega)]
 | f+1,p,m,last,cost,l,hp,W,hf=>by
  have hlen:=W.len;have hpl:p.length=l.length:=by rw[W.eq,Zm]
  have ih:∀ c∈Zc m,∃ q:List Nat,q.Perm (Zc (Zx m c))/\YW rows f (p++[(c:Int)])=Zy rows 0 ((l++[c])++q):=fun c hc=>by
   have hs:=WM h1 h24 hp hc;obtain⟨l',W'⟩:=YV h1 h24 hs;have e:l'=l++[c]:=by
    have:=W'.eq;rw[W.eq] at this;have h2:=congrArg (List.map Int.toNat) this;rw[Yf] at h2;rw[<-h2,List.map_append,Yf]
    rfl
   subst e;exact WN h1 h24 num f _ _ _ _ _ hs W' (by rw[List.length_append,List.length_singleton];omega)
  have hpos:∀ x∈Ze (Zc m),0<=YW rows f (p++[x]):=fun x hx=>by
   obtain⟨c,hc,rfl⟩:=List.mem_map.1 hx;obtain⟨q,a1,a2⟩:=ih c hc;rw[a2];refine VE num _ _ (by omega) fun y hy=>?_
   rcases List.mem_append.1 hy with hy | hy
   ·rcases List.mem_append.1 hy with hy | hy
    ·exact(W.inn y hy).1
    ·obtain rfl:=List.mem_singleton.1 hy
     exact((W.rest y).1 hc).1.1
   ·exact((W.rest y).1 ((YG W.sub.1).1 (a1.mem_iff.1 hy)).1).1.1
  have hne:Zc m≠[]:=by
   intro e;rw[e] at hlen;simp at hlen;omega
  have e:YW rows (f+1) p=ZK (fun x=>YW rows f (p++[x])) (-1) (Ze (Zc m)):=by
   show ZK _ (-1) (match Z8 rows p with | none=>[] | some (m,_,_)=>Ze (Zc m))=_;rw[hp]
  rcases Vx (b:=-1) hpos (.inr (by simpa [Ze] using hne)) with⟨_,h⟩ | ⟨x,hx,h⟩
  ·omega
  ·obtain⟨c,hc,rfl⟩:=List.mem_map.1 hx
   obtain⟨q,a1,a2⟩:=ih c hc;refine⟨c::q,?_,?_⟩
   ·refine(a1.cons c).trans ?_
    refine(List.perm_ext_iff_of_nodup ?_ ((Zu m).imp fun h=>Nat.ne_of_lt h)).2 fun x=>?_
    ·refine List.nodup_cons.2 ⟨fun h=>((YG W.sub.1).1 h).2 rfl,(Zu _).imp fun h=>Nat.ne_of_lt h⟩
    ·rw[List.mem_cons,YG W.sub.1]
     constructor
     ·rintro (rfl | ⟨h,_⟩)
      ·exact hc
      ·exact h
     ·intro h
      by_cases e:x=c
      ·exact .inl e
      ·exact .inr ⟨h,e⟩
   ·rw[e,h,a2]
    simp
theorem Uq {rows:List (List Int)}{mirror:Bool}(h1:1<=rows.length)(h24:rows.length<=24)(num:∀ a b,a<rows.length->b<rows.length->0<=Zb rows a b/\Zb rows a b<=2147483647)(sym:mirror=true->∀ a b,a<rows.length->b<rows.length->Zb rows a b=Zb rows b a){p:List Int}{m last:Nat}{cost:Int}(hp:Z8 rows p=some (m,last,cost)) :
  0<=(Yt rows mirror p).1/\(Yt rows mirror p).1<=YW rows (rows.length-1-p.length) p/\(Yt rows mirror p).2=0:=by
 obtain⟨l,W⟩:=YV h1 h24 hp;obtain⟨q,a1,a2⟩:=WN h1 h24 (fun a b x y=>(num a b x y).1) _ p m last cost l hp W rfl;have hll:last<rows.length:=by
  rw[W.last];rcases VB l 0 with h | h
  ·rw[h];omega
  ·exact(W.inn _ h).1
 have hus:∀ x∈Zc m,x<rows.length:=fun x hx=>((W.rest x).1 hx).1.1
 have h0:0∉Zc m:=fun h=>((W.rest 0).1 h).1.2 rfl
 have hnl:last∉Zc m:=fun h=>by
  have h2:=(W.rest last).1 h;rcases VB l 0 with h3 | h3
  ·exact h2.1.2 (by rw[W.last,h3])
  ·exact h2.2 (by rw[W.last];exact h3)
 have hnd:(Zc m).Nodup:=(Zu m).imp fun h=>Nat.ne_of_lt h
 have hA:∀ a,(a=last\/a∈Zc m)->a<rows.length:=fun a h=>h.elim (fun e=>by rw[e];exact hll) (hus a)
 have num':∀ a b,(a=last\/a∈Zc m)->(b=0\/b∈Zc m)->0<=Zb rows a b/\Zb rows a b<=2147483647:=fun a b ha hb=>num a b (hA a ha) (hb.elim (fun e=>by omega) (hus b))
 have hway:0<=cost:=by
  rw[W.cost];have key:∀ (l:List Nat) (s:Nat),s<rows.length->(∀ x∈l,x<rows.length)->0<=Vc rows s (Ze l):=by
   intro l
   induction l with
   | nil=>intro s _ _;simp[Vc,Ze]
   | cons c l ih =>
    intro s hs h;have h2:=(num s c hs (h c (by simp))).1;have h3:=ih c (h c (by simp)) fun x hx=>h x (by simp[hx])
    simp only[Ze,List.map_cons,Vc,Int.toNat_natCast] at h3 ⊢;omega
  exact key l 0 (by omega) fun x hx=>(W.inn x hx).1
 have hb:Yt rows mirror p=(cost+(if Zc m=[] then Zb rows last 0 else if mirror=true then max (ZS rows (Zc m) last) ((WV rows (Zc m) last+1) / 2) else ZS rows (Zc m) last),0):=by unfold Yt;rw[hp]
 rw[hb,a2,UU,<-W.last,<-W.cost];simp only
 by_cases he:Zc m=[]
 ·rw[if_pos he]
  have:q=[]:=List.Perm.eq_nil (he ▸ a1);subst this;have:=(num' last 0 (.inl rfl) (.inl rfl)).1;exact⟨by omega,by simp only[Zy];omega,trivial⟩
 ·rw[if_neg he]
  have r1:=ZbZ num' (List.nodup_cons.2 ⟨hnl,hnd⟩) he h0 a1;have r0:0<=ZS rows (Zc m) last:=by
   have k1:0<=Zj ((last::Zc m).map fun src=>Z5 rows (Zc m) last src):=Up fun x hx=>by
    obtain⟨y,_,rfl⟩:=List.mem_map.1 hx;unfold Z5;omega
   have k2:0<=Zj ((0::Zc m).map fun dst=>max (We rows (Zc m) last dst) 0):=Up fun x hx=>by
    obtain⟨y,_,rfl⟩:=List.mem_map.1 hx;omega
   unfold ZS;omega
  cases hm:mirror with
  | false=>exact⟨by simp only[if_neg (show ¬(false=true) by simp)];omega,by simp only[if_neg (show ¬(false=true) by simp)];omega,trivial⟩
  | true =>
   have r2:=ZeE (fun a b x y=>(num' a b x y).1) (fun a b ha hb=>sym hm a b (hA a ha) (hA b hb)) hnd hnl h0 a1 he;simp only[if_true];refine⟨by omega,by omega,trivial⟩
end Go.Proofs.YtmojhhlcocjoaaaGreatDoor
namespace Go.Proofs.YtmojhhlcocjoaaaGreatDoor
section
variable {rows:List (List Int)} {us:List Nat} {last:Nat}
end
section
variable {rows:List (List Int)}
theorem Q1 {p:List Int}{m last:Nat}{cost:Int}(hp:Z8 rows p=some (m,last,cost)) : ∃ l:List Nat,(Wu rows p).1=Ze l/\l.Perm (Zc m)/\(Wu rows p).2=0:=by
 refine⟨Xz (ltC (cfR (rows.getD last []))) (Zc m),?_,ZP _ _ _,?_⟩<;>(unfold Wu;rw[hp])
theorem JJ (h1:1<=rows.length)(h24:rows.length<=24){p:List Int}{m last:Nat}{cost:Int}(h:Z8 rows p=some (m,last,cost)) : (Zc m).length+p.length=rows.length-1:=by
 obtain⟨l,W⟩:=YV h1 h24 h;have:=W.len;rw[W.eq,Zm];exact this
theorem Xh : Z8 rows []=some (WW rows.length,0,0):=by
 unfold Z8;rw[if_neg (by simp)]
 rfl
end
end Go.Proofs.YtmojhhlcocjoaaaGreatDoor
namespace Go.Proofs.YtmojhhlcocjoaaaGreatDoor
open Go.RowKit Go.ChangeShapes Go.WideShapes Go.ChangeAt Go.Deep
theorem Ur (m i:Nat)(hm:m<18446744073709551616)(hi:i<64)(w:World) : Calls Tryz.prog 139 #[setV m,.int .i64 i] w fun e w'=>e=.returned (setV (m ||| 2^i))/\Ext w w':=by
 unfold setV;have K:=bits_or_u64_nat m (2^i) hm (Nat.pow_lt_pow_right (by omega) hi);have sh:=Uk i hi;generalize 2^i=b2 at *;generalize m ||| b2=z at *
 replace K:=Hd K;replace sh:=Hd sh;have B1':Blk ((w.alloc (.cells #[.int .u64 m,.int .u64 0] 141)).alloc (.cells #[.int .u64 0,.int .u64 0] 141)) w.heap.size 141 #[.int .u64 m,.int .u64 0]:=.alloc (.new rfl) _;have B2:Blk ((w.alloc (.cells #[.int .u64 m,.int .u64 0] 141)).alloc (.cells #[.int .u64 0,.int .u64 0] 141)) (w.heap.size+1) 141 #[.int .u64 0,.int .u64 0]:=.new (by simp);have B1:Blk (w.alloc (.cells #[.int .u64 m,.int .u64 0] 141)) w.heap.size 141 #[.int .u64 m,.int .u64 0]:=.new rfl;go_enter Tryz.func139,Tryz.ntmps139;go_wp2_with (fail);refine(Yq _ _).mono ?_;rintro e w1 ⟨rfl,x1⟩;have e1:(decide (0<=(i:Int))&&decide ((i:Int)<128))=true:=by simp;omega
 rw[e1];have c0:w1.cell? ⟨w.heap.size,0,none⟩=some (.int .u64 m):=(B1'.ext x1).cell 0;have c1:w1.cell? ⟨w.heap.size,1,none⟩=some (.int .u64 0):=(B1'.ext x1).cell 1;have f0:=(B1'.ext x1).free 0;have r0:w1.cell? ⟨w.heap.size+1,0,none⟩=some (.int .u64 0):=(B2.ext x1).cell 0;have r1:w1.cell? ⟨w.heap.size+1,1,none⟩=some (.int .u64 0):=(B2.ext x1).cell 1;have g0:=(B2.ext x1).free 0;have g1:=(B2.ext x1).free 1;have X1:=Hd (Ext.tr (a:=w) (by(repeat (first | assumption | exact Ext.rf _ | apply Ext.drew | apply Ext.drewN | apply Ext.alloc))) x1);replace K:=K.out;replace sh:=sh.out;have wz:IntKind.i64.wrap 0=0:=by decide
 have q1:(i:Int) / 64=0:=by omega
 have q2:(i:Int).tmod 64=(i:Int):=by rw[Int.tmod_eq_emod_of_nonneg (by omega)];omega
 have bA:=B1'.ext x1;have bR:=B2.ext x1;clear x1 B1' B2 e1 c1 f0 r0 r1 g0 g1;have bA2:=Hd (bA.set 0 (.int .u64 z));have bR2:=Hd (bR.far (p:=⟨w.heap.size,0,none⟩) (by simp) (.int .u64 z));have X2:=Hd (X1.out.setNew (p:=⟨w.heap.size,0,none⟩) (Nat.le_refl _) (.int .u64 z));have fA:w1.frozen? ⟨w.heap.size,0,none⟩=false:=bA.free 0;go_upto_region 2 with(fail);refine wp_region_any (by kernel_rfl) ?_
 change wpAny _ _ _ _ _ _ _ (World.drew _)
 refine Za (i:=0) (op:=Op.move (Operand.tmp 1)) (t:=3) (d:=some 7) (v:=?_) rfl (by decide +kernel) (by decide +kernel) (by decide +kernel) (fun _ _ _ h=>h) ?_ ?_
 case refine_2=>(intro _;unfold Zd;go_simp;try with_reducible rfl)
 try simp only[lay]
 refine Za (i:=1) (op:=Op.binOp BinOp.quo 3 (Operand.tmp 7) (Operand.const (Value.int IntKind.i64 64)) 3) (t:=3) (d:=some 8) (v:=?_) rfl (by decide +kernel) (by decide +kernel) (by decide +kernel) (fun _ _ _ h=>h) ?_ ?_
 case refine_2=>(intro _;unfold Zd;go_simp;try with_reducible rfl)
 try simp only[lay]
 refine Za (i:=2) (op:=Op.indexAddr 141 (Operand.tmp 2) (Operand.tmp 8)) (t:=0) (d:=some 9) (v:=?_) rfl (by decide +kernel) (by decide +kernel) (by decide +kernel) (fun _ _ _ h=>h) ?_ ?_
 case refine_2=>(intro _;unfold Zd;go_simp;try with_reducible rfl)
 try simp only[lay]
 refine Za (i:=4) (op:=Op.move (Operand.tmp 1)) (t:=3) (d:=some 11) (v:=?_) rfl (by decide +kernel) (by decide +kernel) (by decide +kernel) (fun _ _ _ h=>h) ?_ ?_
 case refine_2=>(intro _;unfold Zd;go_simp;try with_reducible rfl)
 try simp only[lay]
 refine Za (i:=5) (op:=Op.binOp BinOp.rem 3 (Operand.tmp 11) (Operand.const (Value.int IntKind.i64 64)) 3) (t:=3) (d:=some 12) (v:=?_) rfl (by decide +kernel) (by decide +kernel) (by decide +kernel) (fun _ _ _ h=>h) ?_ ?_
 case refine_2=>(intro _;unfold Zd;go_simp;try with_reducible rfl)
 try simp only[lay]
 refine Za (i:=6) (op:=Op.binOp BinOp.shl 53 (Operand.const (Value.int IntKind.u64 1)) (Operand.tmp 12) 3) (t:=53) (d:=some 13) (v:=?_) rfl (by decide +kernel) (by decide +kernel) (by decide +kernel) (fun _ _ _ h=>h) ?_ ?_
 case refine_2=>(intro _;unfold Zd;go_simp;try with_reducible rfl)
 try simp only[lay]
 refine Zi 3 (by decide +kernel) (Zp (T:=53) (x:=Operand.tmp 9) (t:=53) (d:=some 10) rfl (.pointer (some ⟨w.heap.size,0,none⟩)) (by kernel_rfl) (.int .u64 m) (by go_simp) ?_)
 try simp only[lay]
 refine Za (i:=7) (op:=Op.binOp BinOp.or 53 (Operand.tmp 10) (Operand.tmp 13) 53) (t:=53) (d:=some 14) (v:=?_) rfl (by decide +kernel) (by decide +kernel) (by decide +kernel) (fun _ _ _ h=>h) ?_ ?_
 case refine_2=>(intro _;unfold Zd;go_simp;try with_reducible rfl)
 try simp only[lay]
 refine Za (i:=8) (op:=Op.indexAddr 141 (Operand.tmp 2) (Operand.tmp 8)) (t:=0) (d:=some 15) (v:=?_) rfl (by decide +kernel) (by decide +kernel) (by decide +kernel) (fun _ _ _ h=>h) ?_ ?_
 case refine_2=>(intro _;unfold Zd;go_simp;try with_reducible rfl)
 try simp only[lay]
 refine Zi 9 (by decide +kernel) (Yl rfl (.pointer (some ⟨w.heap.size,0,none⟩)) (.int .u64 z) (by kernel_rfl) (by kernel_rfl) (by go_simp;rfl) ?_);refine wpAny_done (by kernel_rfl) ?_ _;clear c0 fA bA bR X1 hm K sh;generalize w1.setCell ⟨w.heap.size,0,none⟩ (.int .u64 z)=w2 at *;clear w1;have c0:=bA2.out.c0;have c1:=bA2.out.c1;have r0:=bR2.out.c0;have r1:=bR2.out.c1;have g0:=bR2.out.free 0;have g1:=bR2.out.free 1;go_simp;go_wp2_with (fail);refine bodyPost_ret (v:=.agg #[.int .u64 z,.int .u64 0]) (by simp[results,Tryz.results139,go_sem, *]) rfl ⟨rfl,?_⟩;exact((X2.out.setNew (p:=⟨w.heap.size+1,0,none⟩) (by simp) _).setNew (p:=⟨w.heap.size+1,1,none⟩) (by simp) _).drew
theorem Za7 {m:Nat}(h:m<18446744073709551616){i:Nat}(hi:i<64) : m ||| 2^i<18446744073709551616:=by
 have h1:m<2^64:=h;have h2:2^i<2^64:=Nat.pow_lt_pow_right (by omega) hi;exact Nat.or_lt_two_pow h1 h2
theorem Q2 {m:Nat}(h0:0∉Zc m) : Zc (m ||| 2^0)=0::Zc m:=by
 have e:List.range 64=0::(List.range 63).map (· + 1):=List.range_succ_eq_map;have hb:m.testBit 0=false:=by
  cases h:m.testBit 0 with
  | false=>rfl
  | true=>exact absurd (Z1.2 ⟨by omega,h⟩) h0
 unfold Zc;rw[e,List.filter_cons_of_pos (by simp),List.filter_cons_of_neg (by simp[hb])]
 congr 1
 refine List.filter_congr fun j hj=>?_
 obtain⟨k,_,rfl⟩:=List.mem_map.1 hj;rw[Nat.testBit_or,Nat.testBit_two_pow];simp
abbrev Us (m last:Nat)(cost:Int) : Value:=.agg #[.int .u64 m,.int .u64 0,.int .i64 last,.int .i64 cost]
def Zdw : Option (Nat×Nat×Int)->Value
 | none=>.tuple #[Us 0 0 0,.bool false]
 | some (m,last,cost)=>.tuple #[Us m last cost,.bool true]
theorem Zb0 (rows:List (List Int))(m last:Nat)(cost c:Int)(p:List Int) : Y8 rows m last cost (c::p)=if 0<=c/\c<64/\m.testBit c.toNat=true then Y8 rows (Zx m c.toNat) c.toNat (cost+Zb rows last c.toNat) p else none:=rfl
theorem JK {base g:Nat}{rows:List (List Int)}{mi:Bool}(P:Option Addr)(pc:Nat)(p:List Int)(w:World)(H:KernT w base g rows mi)(ok:RowsOk rows)(hP:RdI w P p)(lp:p.length<=1000000000) :
  Calls Tryz.prog 279 #[.pointer (some ⟨g,0,none⟩),.slice P p.length pc] w fun e w'=>e=.returned (Zdw (Z8 rows p))/\Ext w w':=by
 have h1:=ok.n1;have h24:=ok.n2;have DE:=Hd (fun(W:World) (x:Ext w W)=>QR W (H.ext x) h1 h24);have FU:=Hd (fun(W:World)=>W6 rows.length (by omega) W);have UF:=JI h24;have WO0:=fun(W:World)=>Xs (2^rows.length-1) 0 (Yy h24).1 (by omega) W
 obtain⟨r,hr⟩:∃ r,Hid (Z8 rows p=r):=⟨_,rfl⟩;rw[hr.out];obtain⟨C,cc,us,hB,_,hV,hR⟩:=H;have lus:Hid (us.length=rows.length):=hR.1;replace hV:=Hd hV;replace hR:=Hd hR;replace hB:=Hd hB;unfold Z8 at hr;replace hP:=Hd hP;have B1:Hid (Blk (w.alloc (.cells #[.int .u64 0,.int .u64 0,.int .i64 0,.int .i64 0] 308)) w.heap.size 308 #[.int .u64 0,.int .u64 0,.int .i64 0,.int .i64 0]):=.new rfl
 by_cases hlen:rows.length-1<p.length
 ·have hr2:Hid (r=none):=by
   have h:=hr.out;rw[if_pos hlen] at h;exact h.symm
  have hlb:decide ((rows.length:Int)-1<(p.length:Int))=true:=decide_eq_true (by omega);rw[hr2.out];unfold Zdw;clear hr hr2 FU WO0 UF;go_enter Tryz.func279,Tryz.ntmps279;go_wp2_with (fail);refine(DE.out _ (by(repeat (first | assumption | exact Ext.rf _ | apply Ext.drew | apply Ext.drewN | apply Ext.alloc)))).mono ?_;rintro e w1 ⟨rfl,x1⟩;have X1:=Hd (Ext.tr (a:=w) (by(repeat (first | assumption | exact Ext.rf _ | apply Ext.drew | apply Ext.drewN | apply Ext.alloc))) x1);have b1:=B1.out.ext x1;have c0:=b1.c0;have c1:=b1.c1;have c2:=b1.c2;have c3:=b1.c3;have f0:=b1.free 0;have f1:=b1.free 1;have f2:=b1.free 2;have f3:=b1.free 3;clear x1 b1;go_wp2_with (fail);refine bodyPost_ret (v:=.tuple #[Us 0 0 0,.bool false]) (by simp[results,Tryz.results279,go_sem, *]) rfl ⟨rfl,?_⟩;exact(((X1.out.setNew (p:=⟨w.heap.size,0,none⟩) (Nat.le_refl _) _).setNew (p:=⟨w.heap.size,1,none⟩) (Nat.le_refl _) _).setNew (p:=⟨w.heap.size,2,none⟩) (Nat.le_refl _) _).setNew (p:=⟨w.heap.size,3,none⟩) (Nat.le_refl _) _
 ·have hr2:Hid (Y8 rows (WW rows.length) 0 0 p=r):=by
   have h:=hr.out;rw[if_neg hlen] at h;exact h
  have hlb:decide ((rows.length:Int)-1<(p.length:Int))=false:=decide_eq_false (by omega);have hpl:p.length<=24:=by omega
  replace WO0:=fun(W:World)=>(show Calls Tryz.prog 268 #[setV (2^rows.length-1),.int .i64 ((0:Nat):Int)] W fun e w'=>e=.returned (setV (WW rows.length))/\Ext W w' from WO0 W)
  generalize WW rows.length=m0 at *;generalize 2^rows.length-1=mf at *;unfold setV at FU WO0;replace WO0:=Hd WO0;clear hr;go_enter Tryz.func279,Tryz.ntmps279;go_wp2_with (fail);refine(DE.out _ (by(repeat (first | assumption | exact Ext.rf _ | apply Ext.drew | apply Ext.drewN | apply Ext.alloc)))).mono ?_;rintro e w1 ⟨rfl,x1⟩;have X1:=Hd (Ext.tr (a:=w) (by(repeat (first | assumption | exact Ext.rf _ | apply Ext.drew | apply Ext.drewN | apply Ext.alloc))) x1);have b1:=Hd (B1.out.ext x1);have cK:w1.cell? ⟨g,0,none⟩=some (.slice C rows.length cc):=(hB.out.ext X1.out).cell 0;clear x1;go_wp2_with (fail);refine(FU.out _).mono ?_;rintro e w2 ⟨rfl,x2⟩;have X2:=Hd (X1.out.tr x2);have b2:=Hd (b1.out.ext x2);clear x2 b1 cK;go_wp2_with (fail);refine(WO0.out _).mono ?_;rintro e w3 ⟨rfl,x3⟩;have z12:=x3.size;have zw1:=b2.out.lt;have X3:Ext w (w3.alloc (.cells #[.int .u64 m0,.int .u64 0,.int .i64 0,.int .i64 0] 308)):=(X2.out.tr x3).alloc _;have b3:Blk (w3.alloc (.cells #[.int .u64 m0,.int .u64 0,.int .i64 0,.int .i64 0] 308)) w.heap.size 308 #[.int .u64 0,.int .u64 0,.int .i64 0,.int .i64 0]:=(b2.out.ext x3).alloc _;have s3:Blk (w3.alloc (.cells #[.int .u64 m0,.int .u64 0,.int .i64 0,.int .i64 0] 308)) w3.heap.size 308 #[.int .u64 m0,.int .u64 0,.int .i64 0,.int .i64 0]:=.new rfl;have START:=Hd (And.intro X3 (And.intro b3 s3));obtain⟨sb,hsb⟩:∃ sb,Hid (sb=w3.heap.size):=⟨_,rfl⟩;have zsb:w.heap.size<sb:=by rw[hsb.out];omega
  clear X3 b3 s3 x3 b2 FU WO0;go_wp2_with (fail);rw[<-hsb.out] at START ⊢;go_loopw [29] (fun v wr=>∃ (k m last:Nat) (cost:Int),v=.int .i64 k/\k<=p.length/\Hid (Y8 rows m last cost (p.drop k)=r)/\Hid (SubN rows.length m)/\Hid (last<rows.length/\0<=cost/\cost<=2147483647*(k:Int))/\Hid (Ext w wr/\Blk wr w.heap.size 308 #[.int .u64 0,.int .u64 0,.int .i64 0,.int .i64 0]/\Blk wr sb 308 #[.int .u64 m,.int .u64 0,.int .i64 last,.int .i64 cost])) (fun v _=>p.length-(intOf v).toNat)
  case atStart=>exact⟨0,m0,0,0,rfl,by omega,hr2,UF,by exact(show 0<rows.length/\(0:Int)<=0/\(0:Int)<=2147483647*((0:Nat):Int) from⟨by omega,by omega,by omega⟩),START⟩
  case round =>
   obtain⟨wo,rfl⟩:∃ wo:World,wo=wr:=⟨_,rfl⟩;clear START;obtain⟨k,m,last,cost,rfl,hk,HF,HU,HL,HH⟩:=hrel;obtain⟨Y,b1,bs⟩:=HH.out;have c0:=bs.c0;have c1:=bs.c1;have c2:=bs.c2;have c3:=bs.c3;replace Y:=Hd Y;replace b1:=Hd b1;replace bs:=Hd bs;clear HH
   by_cases hlt:k<p.length
   ·obtain⟨pb,po,c,rfl,zp,cp,ep,dp⟩:=(hP.out.ext Y.out).at hlt
    have HF2:Hid (r=if 0<=c/\c<64/\m.testBit c.toNat=true then Y8 rows (Zx m c.toNat) c.toNat (cost+Zb rows last c.toNat) (p.drop (k+1)) else none):=by
     have h:=HF.out;rw[dp.out,Zb0] at h;exact h.symm
    have HA:=Hd (fun(W:World)=>Zaj m c HU.out.1 W);unfold setV at HA;clear HF ep dp;go_wp2_with (fail);refine(HA.out _).mono ?_;rintro e w3 ⟨rfl,x3⟩;have Y3:=Hd (Y.out.tr x3);have b13:=Hd (b1.out.ext x3);have bs3:=Hd (bs.out.ext x3);clear x3 c0 c1 c2 c3 cp
    by_cases hin:0<=c/\c<64/\m.testBit c.toNat=true
    ·have e1:(decide (0<=c/\c<64)&&m.testBit c.toNat)=true:=by rw[decide_eq_true ⟨hin.1,hin.2.1⟩,hin.2.2];rfl
     rw[e1];have HF3:Hid (Y8 rows (Zx m c.toNat) c.toNat (cost+Zb rows last c.toNat) (p.drop (k+1))=r):=by
      have h:=HF2.out;rw[if_pos hin] at h;exact h.symm
     obtain⟨i,rfl⟩:∃ i:Nat,c=(i:Int):=⟨c.toNat,by omega⟩;rw[Int.toNat_natCast] at HF3 hin;have hic:i<rows.length:=HU.out.2 i (Z1.2 ⟨by omega,hin.2.2⟩);have WO:=Hd (fun(W:World)=>Xs m i HU.out.1 (by omega) W);have HU2:=Hd (HU.out.clr i);generalize Zx m i=m2 at *;unfold setV at WO;have hla:=HL.out.1;have er:rows[last]?=some rows[last]:=List.getElem?_eq_getElem hla;obtain⟨D,d,hu,oD⟩:=hR.out.2 _ _ er;have hmem:rows[last]∈rows:=List.getElem_mem hla;have lrow:=ok.row _ hmem;have nrow:=ok.num _ hmem;have ecost:Zb rows last i=(rows[last]).getD i 0:=by unfold Zb;rw[getD_some er]
     generalize rows[last]=row at *;obtain⟨ab,ao,vv,hC,zv,cv,ev⟩:=(hV.out.read.ext Y3.out).at (j:=last) (by rw[lus.out];exact hla);subst hC;obtain rfl:.slice D row.length d=vv:=by
      have h:=ev.out;rw[hu] at h;exact Option.some.inj h
     obtain⟨rb,ro,x,rfl,zx,cx,ex,_⟩:=(oD.read.ext Y3.out).at (k:=i) (by omega);rw[getD_some ex.out] at ecost;rw[ecost] at HF3;have nx:=nrow x (List.mem_of_getElem? ex.out);have HL2:Hid (i<rows.length/\0<=cost+x/\cost+x<=2147483647*((k+1:Nat):Int)):=by
      have h:=HL.out;have:i<rows.length/\0<=cost+x/\cost+x<=2147483647*((k+1:Nat):Int):=⟨hic,by omega,by omega⟩;exact this
     have hw:IntKind.i64.wrap (cost+x)=cost+x:=IntWalk.i64_in _ (by have:=HL2.out;omega);have cK:w3.cell? ⟨g,0,none⟩=some (.slice (some ⟨ab,ao,none⟩) rows.length cc):=(hB.out.ext Y3.out).cell 0;have c2:=bs3.out.c2;have c3:=bs3.out.c3;have f3:w3.frozen? ⟨sb,3,none⟩=false:=bs3.out.free 3;have q1:(last:Int)<(rows.length:Int):=by omega
     have q2:(i:Int)<(row.length:Int):=by omega
     have NB:Hid (Blk (w3.setCell ⟨sb,3,none⟩ (.int .i64 (cost+x))) sb 308 #[.int .u64 m,.int .u64 0,.int .i64 last,.int .i64 (cost+x)]):=bs3.out.set 3 (.int .i64 (cost+x));have NY:Hid (Ext w (w3.setCell ⟨sb,3,none⟩ (.int .i64 (cost+x)))):=Y3.out.setNew (p:=⟨sb,3,none⟩) (Nat.le_of_lt zsb) _;have NZ:Hid (Blk (w3.setCell ⟨sb,3,none⟩ (.int .i64 (cost+x))) w.heap.size 308 #[.int .u64 0,.int .u64 0,.int .i64 0,.int .i64 0]):=b13.out.far (p:=⟨sb,3,none⟩) (Nat.ne_of_lt zsb) _;clear hin e1 HF2 HA er hu oD hmem lrow nrow ecost ev ex nx hla;go_upto_region 9 with(fail);refine wp_region_any (by kernel_rfl) ?_
     change wpAny _ _ _ _ _ _ _ (World.drew _)
     refine Za (i:=0) (op:=Op.fieldAddr 308 (Operand.tmp 6) 2) (t:=0) (d:=some 39) (v:=?_) rfl (by decide +kernel) (by decide +kernel) (by decide +kernel) (fun _ _ _ h=>h) ?_ ?_
     case refine_2=>(intro _;unfold Zd;go_simp;try with_reducible rfl)
     try simp only[lay]
     refine Za (i:=2) (op:=Op.move (Operand.tmp 0)) (t:=79) (d:=some 41) (v:=?_) rfl (by decide +kernel) (by decide +kernel) (by decide +kernel) (fun _ _ _ h=>h) ?_ ?_
     case refine_2=>(intro _;unfold Zd;go_simp;try with_reducible rfl)
     try simp only[lay]
     refine Za (i:=3) (op:=Op.nilCheck (Operand.tmp 41)) (t:=0) (d:=some 42) (v:=?_) rfl (by decide +kernel) (by decide +kernel) (by decide +kernel) (fun _ _ _ h=>h) ?_ ?_
     case refine_2=>(intro _;unfold Zd;go_simp;try with_reducible rfl)
     try simp only[lay]
     refine Za (i:=4) (op:=Op.fieldAddr 123 (Operand.tmp 42) 0) (t:=0) (d:=some 43) (v:=?_) rfl (by decide +kernel) (by decide +kernel) (by decide +kernel) (fun _ _ _ h=>h) ?_ ?_
     case refine_2=>(intro _;unfold Zd;go_simp;try with_reducible rfl)
     try simp only[lay]
     refine Za (i:=6) (op:=Op.fieldAddr 308 (Operand.tmp 6) 1) (t:=0) (d:=some 45) (v:=?_) rfl (by decide +kernel) (by decide +kernel) (by decide +kernel) (fun _ _ _ h=>h) ?_ ?_
     case refine_2=>(intro _;unfold Zd;go_simp;try with_reducible rfl)
     try simp only[lay]
     refine Za (i:=10) (op:=Op.move (Operand.tmp 8)) (t:=3) (d:=some 49) (v:=?_) rfl (by decide +kernel) (by decide +kernel) (by decide +kernel) (fun _ _ _ h=>h) ?_ ?_
     case refine_2=>(intro _;unfold Zd;go_simp;try with_reducible rfl)
     try simp only[lay]
     refine YJ (n:=2) [(1,some 40),(5,some 44),(7,some 46),(8,some 47),(9,some 48),(11,some 50),(12,some 51),(13,some 52)] (fun | 1=>.int .i64 cost | 5=>.slice (some ⟨ab,ao,none⟩) rows.length cc | 7=>.int .i64 last | 8=>.pointer (some ⟨ab,ao+last,none⟩) | 9=>.slice (some ⟨rb,ro,none⟩) row.length d | 11=>.pointer (some ⟨rb,ro+i,none⟩) | 12=>.int .i64 x | 13=>.int .i64 (cost+x) | _=>undef) #[true,true,true,true,true,true,true,true,true,true,true,true,true,true,false,false] (by decide +kernel) ?_ ?_
     ·intro pS hpm uS hD K hK
      simp only[List.mem_cons,List.not_mem_nil,or_false] at hpm;rcases hpm with rfl | rfl | rfl | rfl | rfl | rfl | rfl | rfl
      ·exact Zp (T:=3) (x:=Operand.tmp 39) (t:=3) (d:=some 40) rfl (.pointer (some ⟨sb,3,none⟩)) (by kernel_rfl) (.int .i64 cost) (by go_simp) hK
      ·exact Zp (T:=23) (x:=Operand.tmp 43) (t:=23) (d:=some 44) rfl (.pointer (some ⟨g,0,none⟩)) (by kernel_rfl) (.slice (some ⟨ab,ao,none⟩) rows.length cc) (by go_simp) hK
      ·exact Zp (T:=3) (x:=Operand.tmp 45) (t:=3) (d:=some 46) rfl (.pointer (some ⟨sb,2,none⟩)) (by kernel_rfl) (.int .i64 last) (by go_simp) hK
      ·exact Z2 (T:=23) (x:=Operand.tmp 44) (y:=Operand.tmp 46) (t:=0) (d:=some 47) rfl (.slice (some ⟨ab,ao,none⟩) rows.length cc) (.int .i64 last) (Eq.trans (b:=uS 5) (by kernel_rfl) (hD 5 (Zn (by kernel_rfl)))) (Eq.trans (b:=uS 7) (by kernel_rfl) (hD 7 (Zn (by kernel_rfl)))) (.pointer (some ⟨ab,ao+last,none⟩)) (by go_simp) hK
      ·exact Zp (T:=22) (x:=Operand.tmp 47) (t:=22) (d:=some 48) rfl (.pointer (some ⟨ab,ao+last,none⟩)) (Eq.trans (b:=uS 8) (by kernel_rfl) (hD 8 (Zn (by kernel_rfl)))) (.slice (some ⟨rb,ro,none⟩) row.length d) (by go_simp) hK
      ·exact Z2 (T:=22) (x:=Operand.tmp 48) (y:=Operand.tmp 49) (t:=0) (d:=some 50) rfl (.slice (some ⟨rb,ro,none⟩) row.length d) (.int .i64 i) (Eq.trans (b:=uS 9) (by kernel_rfl) (hD 9 (Zn (by kernel_rfl)))) (by kernel_rfl) (.pointer (some ⟨rb,ro+i,none⟩)) (by go_simp) hK
      ·exact Zp (T:=3) (x:=Operand.tmp 50) (t:=3) (d:=some 51) rfl (.pointer (some ⟨rb,ro+i,none⟩)) (Eq.trans (b:=uS 11) (by kernel_rfl) (hD 11 (Zn (by kernel_rfl)))) (.int .i64 x) (by go_simp) hK
      ·(have e1:uS 1=.int .i64 cost:=hD 1 (Zn (by kernel_rfl));have e12:uS 12=.int .i64 x:=hD 12 (Zn (by kernel_rfl));exact ZM (op:=Op.binOp BinOp.add 3 (Operand.tmp 40) (Operand.tmp 51) 3) (t:=3) (d:=some 52) rfl (.int .i64 (cost+x)) (by simp only[Zk,Act.put,List.setIfInBounds_toArray,List.set_cons_zero,List.set_cons_succ];unfold Zd;go_simp;try simp only[e1,e12];try go_simp) hK)
     simp only[Zk,Act.put,List.setIfInBounds_toArray,List.set_cons_zero,List.set_cons_succ];refine Za (i:=14) (op:=Op.fieldAddr 308 (Operand.tmp 6) 2) (t:=0) (d:=some 53) (v:=?_) rfl (by decide +kernel) (by decide +kernel) (by decide +kernel) (fun _ _ _ h=>h) ?_ ?_
     case refine_2=>(intro _;unfold Zd;go_simp;try with_reducible rfl)
     try simp only[lay]
     refine Zi 15 (by decide +kernel) (Yl rfl (.pointer (some ⟨sb,3,none⟩)) (.int .i64 (cost+x)) (by kernel_rfl) (by kernel_rfl) (by go_simp;rfl) ?_);refine wpAny_done (by kernel_rfl) ?_ _;clear c2 c3 cK cv cx f3 Y3 b13 bs3;generalize w3.setCell ⟨sb,3,none⟩ (.int .i64 (cost+x))=w4 at *;have d0:=NB.out.c0;have d1:=NB.out.c1;have d2:=NB.out.c2;have f2:w4.frozen? ⟨sb,2,none⟩=false:=NB.out.free 2;have MB:Hid (Blk (w4.setCell ⟨sb,2,none⟩ (.int .i64 i)) sb 308 #[.int .u64 m,.int .u64 0,.int .i64 i,.int .i64 (cost+x)]):=NB.out.set 2 (.int .i64 i);have MY:Hid (Ext w (w4.setCell ⟨sb,2,none⟩ (.int .i64 i))):=NY.out.setNew (p:=⟨sb,2,none⟩) (Nat.le_of_lt zsb) _;have MZ:Hid (Blk (w4.setCell ⟨sb,2,none⟩ (.int .i64 i)) w.heap.size 308 #[.int .u64 0,.int .u64 0,.int .i64 0,.int .i64 0]):=NZ.out.far (p:=⟨sb,2,none⟩) (Nat.ne_of_lt zsb) _;go_simp;go_wp2_with (fail);refine(WO.out _).mono ?_;rintro e w5 ⟨rfl,x5⟩;have bs5:=MB.out.drew.ext x5;have b15:=MZ.out.drew.ext x5;have k0:=bs5.c0;have k1:=bs5.c1;have g0:=bs5.free 0;have g1:=bs5.free 1;have NEW:Hid (Ext w ((w5.setCell ⟨sb,0,none⟩ (.int .u64 m2)).setCell ⟨sb,1,none⟩ (.int .u64 0))/\Blk ((w5.setCell ⟨sb,0,none⟩ (.int .u64 m2)).setCell ⟨sb,1,none⟩ (.int .u64 0)) w.heap.size 308 #[.int .u64 0,.int .u64 0,.int .i64 0,.int .i64 0]/\Blk ((w5.setCell ⟨sb,0,none⟩ (.int .u64 m2)).setCell ⟨sb,1,none⟩ (.int .u64 0)) sb 308 #[.int .u64 m2,.int .u64 0,.int .i64 i,.int .i64 (cost+x)]) :=
      ⟨((MY.out.drew.tr x5).setNew (p:=⟨sb,0,none⟩) (Nat.le_of_lt zsb) _).setNew (p:=⟨sb,1,none⟩) (Nat.le_of_lt zsb) _,(b15.far (p:=⟨sb,0,none⟩) (Nat.ne_of_lt zsb) _).far (p:=⟨sb,1,none⟩) (Nat.ne_of_lt zsb) _,(bs5.set 0 (.int .u64 m2)).set 1 (.int .u64 0)⟩
     clear bs5 b15 x5 d0 d1 d2;go_wp2_with (fail);go_roundw
     case rel=>exact⟨k+1,m2,i,cost+x,by go_num,by omega,HF3,HU2,HL2,NEW⟩
     case measure=>simp[intOf];omega
    ·have e1:(decide (0<=c/\c<64)&&m.testBit c.toNat)=false:=by
      by_cases h2:0<=c/\c<64
      ·cases h3:m.testBit c.toNat with
       | false=>simp
       | true=>exact absurd ⟨h2.1,h2.2,h3⟩ hin
      ·rw[decide_eq_false h2];rfl
     rw[e1];have HF3:Hid (r=none):=by
      have h:=HF2.out;rw[if_neg hin] at h;exact h
     have d0:=b13.out.c0;have d1:=b13.out.c1;have d2:=b13.out.c2;have d3:=b13.out.c3;have f0:=b13.out.free 0;have f1:=b13.out.free 1;have f2:=b13.out.free 2;have f3:=b13.out.free 3;clear hin e1 HF2 HA;go_wp2_with (fail);refine bodyPost_ret (v:=.tuple #[Us 0 0 0,.bool false]) (by simp[results,Tryz.results279,go_sem, *]) rfl ⟨by rw[HF3.out];rfl,?_⟩;exact(((Y3.out.setNew (p:=⟨w.heap.size,0,none⟩) (Nat.le_refl _) _).setNew (p:=⟨w.heap.size,1,none⟩) (Nat.le_refl _) _).setNew (p:=⟨w.heap.size,2,none⟩) (Nat.le_refl _) _).setNew (p:=⟨w.heap.size,3,none⟩) (Nat.le_refl _) _
   ·obtain rfl:k=p.length:=by omega
    have HF3:Hid (r=some (m,last,cost)):=by
     have h:=HF.out;rw[List.drop_length] at h;exact h.symm
    have d0:=b1.out.c0;have d1:=b1.out.c1;have d2:=b1.out.c2;have d3:=b1.out.c3;have f0:=b1.out.free 0;have f1:=b1.out.free 1;have f2:=b1.out.free 2;have f3:=b1.out.free 3;go_wp2_with (fail);refine bodyPost_ret (v:=.tuple #[Us m last cost,.bool true]) (by simp[results,Tryz.results279,go_sem, *]) rfl ⟨by rw[HF3.out];rfl,?_⟩;exact(((Y.out.setNew (p:=⟨w.heap.size,0,none⟩) (Nat.le_refl _) _).setNew (p:=⟨w.heap.size,1,none⟩) (Nat.le_refl _) _).setNew (p:=⟨w.heap.size,2,none⟩) (Nat.le_refl _) _).setNew (p:=⟨w.heap.size,3,none⟩) (Nat.le_refl _) _
theorem JL {rows:List (List Int)}(h1:1<=rows.length){p:List Int}{m last:Nat}{cost:Int}{l:List Nat}(h:WalkOk rows p m last cost l) : last<rows.length:=by
 rw[h.last];rcases VB l 0 with e | e
 ·rw[e];exact h1
 ·exact(h.inn _ e).1
theorem Jm (cm:Value)(w:World) : Calls Tryz.prog 271 #[.slice none 0 0,.int .i64 0,.int .i64 0,cm] w fun e w'=>e=.returned (.tuple #[])/\Ext w w':=by
 go_enter Tryz.func271,Tryz.ntmps271;go_wp2_with (fail);go_loopw [8] (fun iv wr=>iv=.int .i64 1/\Hid (Ext w wr)) (fun _ _=>0)
 case atStart=>exact⟨by first | rfl | go_num,Ext.rf _⟩
 case round =>
  obtain⟨rfl,X⟩:=hrel;go_wp2_with (fail);go_end0;exact⟨rfl,X.out⟩
theorem Zb1 (cm:Value)(w:World) : Calls Tryz.prog 270 #[.slice none 0 0,.int .i64 0,cm] w fun e w'=>e=.returned (.tuple #[])/\Ext w w':=by
 go_enter Tryz.func270,Tryz.ntmps270;go_wp2_with (fail);go_loopw [7,8] (fun av bv wr=>av=.int .i64 0/\bv=.int .i64 20/\Hid (Ext w wr)) (fun _ _ _=>0)
 case atStart=>exact⟨rfl,rfl,Ext.rf _⟩
 case round =>
  obtain⟨wo,rfl⟩:∃ wo:World,wo=wr:=⟨_,rfl⟩;obtain⟨rfl,rfl,X⟩:=hrel;go_wp2_with (fail);refine(Jm cm _).mono ?_;rintro e w1 ⟨rfl,x1⟩;have X1:=Hd (X.out.tr x1);go_wp2_with (fail);go_loopw [6] (fun v wr=>v=.int .i64 20/\Hid (Ext w wr)) (fun _ _=>0)
  case atStart=>exact⟨rfl,X1⟩
  case round =>
   obtain⟨rfl,X2⟩:=hrel;go_wp2_with (fail);go_end0;exact⟨rfl,X2.out⟩
theorem Q3 (cm:Value)(w:World) : Calls Tryz.prog 265 #[.slice none 0 0,cm] w fun e w'=>e=.returned (.tuple #[])/\Ext w w':=by
 go_enter Tryz.func265,Tryz.ntmps265;go_wp2_with (fail);refine(Zb1 cm _).mono ?_;rintro e w1 ⟨rfl,x1⟩;go_wp2_with (fail);go_end0;exact⟨rfl,by(repeat (first | assumption | exact Ext.rf _ | apply Ext.drew | apply Ext.drewN | apply Ext.alloc))⟩
theorem ZeF (row:List Int)(hbd:∀ x∈row,0<=x/\x<=2147483647)(D:Option Addr)(d rb:Nat)(a b:Nat)(ha:a<row.length)(hb:b<row.length)(w:World)(B:w.cell? ⟨rb,0,none⟩=some (.slice D row.length d))(hD:RdI w D row) :
  Calls Tryz.prog 282 #[.int .i64 a,.int .i64 b,.pointer (some ⟨rb,0,none⟩)] w fun e w'=>e=.returned (.int .i64 (row.getD a 0-row.getD b 0))/\∃ q,w'=w.drewN q:=by
 obtain⟨cb,co,x,rfl,z1,c1,e1,_⟩:=hD.at ha;obtain⟨cb',co',y,hq,z2,c2,e2,_⟩:=hD.at hb;obtain⟨rfl,rfl⟩:cb=cb'/\co=co':=by simpa using hq
 have b1:=hbd x (List.mem_of_getElem? e1.out);have b2:=hbd y (List.mem_of_getElem? e2.out);rw[getD_some e1.out,getD_some e2.out];have hw:IntKind.i64.wrap (x-y)=x-y:=IntWalk.i64_in _ (by omega);have q1:(a:Int)<(row.length:Int):=by omega
 have q2:(b:Int)<(row.length:Int):=by omega
 clear e1 e2 b1 b2 hbd hD hq;go_enter Tryz.func282,Tryz.ntmps282;go_wp2_with (fail);go_quiet (fail);go_wp2_with (fail);go_ret;exact⟨rfl,_,rfl⟩
theorem Zdx {base g:Nat}{rows:List (List Int)}{mi:Bool}(P:Option Addr)(pc:Nat)(p:List Int)(w:World)(hT:Tab w)(H:KernT w base g rows mi)(ok:RowsOk rows)(hP:RdI w P p)(lp:p.length<=1000000000) :
  Calls Tryz.prog 278 #[.pointer (some ⟨g,0,none⟩),.slice P p.length pc] w (YF (Wu rows p).1 (Wu rows p).2 w):=by
 have FR:=fun(W:World) (x:Ext w W)=>JK P pc p W (H.ext x) ok (hP.ext x) lp
 have l1:=ok.n1;have l2:=ok.n2;obtain⟨C,cc,us,hB,_,hV,hR⟩:=H;have lus:Hid (us.length=rows.length):=hR.1;obtain⟨r,hr⟩:∃ r,Hid (Z8 rows p=r):=⟨_,rfl⟩;rw[hr.out] at FR
 cases r with
 | none =>
  have e:Wu rows p=([],1):=by unfold Wu;rw[hr.out]
  rw[e];simp only[Zdw,Us] at FR;replace FR:=Hd FR;go_enter Tryz.func278,Tryz.ntmps278;go_wp2_with (fail);refine(FR.out _ (Ext.rf w)).mono ?_;rintro e w1 ⟨rfl,x1⟩;have X:=Hd (x1.alloc (.cells #[.int .u64 0,.int .u64 0,.int .i64 0,.int .i64 0] 308));go_wp2_with (fail);go_ret2;exact⟨none,0,rfl,OwI.nil _ _,by have:=X.out;first | exact x1 | exact this⟩
 | some s =>
  obtain⟨m,last,cost⟩:=s;obtain⟨pl,WO⟩:=YV l1 l2 hr.out;have hS:=WO.sub;have hlast:=JL l1 WO;have hlen:(Zc m).length<=24:=by have:=WO.len;omega
  have e:Wu rows p=(Ze (Xz (ltC (cfR (rows.getD last []))) (Zc m)),0):=by unfold Wu;rw[hr.out]
  rw[e];clear e;have LI:=Hd (fun(W:World) (hW:Tab W)=>QN m hS.1 (fun x hx=>by have:=hS.2 x hx;omega) W hW);have hsub:=Hd hS.2;have hsrt:=Hd (Zu m);simp only[Zdw,Us] at FR;unfold setV at LI;replace FR:=Hd FR;clear hr hS WO;generalize Zc m=l at *;replace hP:=Hd hP;replace hV:=Hd hV;replace hR:=Hd hR;replace hT:=Hd hT;replace hB:=Hd hB;have hkr:last<rows.length:=hlast;have er:rows[last]?=some rows[last]:=List.getElem?_eq_getElem hkr;have eg:rows.getD last []=rows[last]:=by simp[List.getD,er]
  rw[eg];clear eg;obtain⟨D,d,hu,oD⟩:=hR.out.2 _ _ er;have hmem:rows[last]∈rows:=List.getElem_mem hkr;have lrow:=ok.row _ hmem;have nrow:=ok.num _ hmem;generalize rows[last]=row at *;replace lrow:=Hd lrow;replace oD:=Hd oD;replace nrow:=Hd nrow;have lcc:rows.length<=cc:=by
   rcases hV.out.cases with⟨_,_,h,_⟩ | ⟨_,_,_,_,_,h,_⟩<;>omega
  clear er;go_enter Tryz.func278,Tryz.ntmps278;go_wp2_with (fail);refine(FR.out _ (Ext.rf w)).mono ?_;rintro e w1 ⟨rfl,x1⟩;have X2:=Hd (x1.alloc (.cells #[.int .u64 m,.int .u64 0,.int .i64 last,.int .i64 cost] 308));clear x1;go_wp2_with (fail);refine(LI.out _ (hT.out.ext X2.out)).mono ?_;rintro e w3 ⟨A,c,rfl,o3,x3⟩;have X3:=Hd (X2.out.tr x3);have z2:=X2.out.size;have o3':Hid (OwI w3 w.heap.size A c (Ze l)):=OwI.more o3 X2.out.size;have o4':Hid (OwI w3 (w1.alloc (.cells #[.int .u64 m,.int .u64 0,.int .i64 last,.int .i64 cost] 308)).heap.size A c (Ze l)):=o3;obtain⟨ab,ao,vv,hC,zv,cv,ev⟩:=(hV.out.read.ext X3.out).at (j:=last) (by rw[lus.out];exact hkr);subst hC;obtain rfl:.slice D row.length d=vv:=by
   have h:=ev.out;rw[hu] at h;exact Option.some.inj h
  have cK:w3.cell? ⟨g,0,none⟩=some (.slice (some ⟨ab,ao,none⟩) rows.length cc):=(hB.out.ext X3.out).cell 0;have q1:(last:Int)<(rows.length:Int):=by omega
  have zg0:g<w3.heap.size:=(hB.out.ext X3.out).lt;have zab:ab<w3.heap.size:=zv;have bW:Hid (Blk w3 w1.heap.size 308 #[.int .u64 m,.int .u64 0,.int .i64 last,.int .i64 cost]):=(Blk.new rfl).ext x3;have zsb:=bW.out.lt;have cL:=bW.out.c2;clear x3 ev hu;clear o3 o4';go_upto_region 5 with(fail);refine wp_region_any (by kernel_rfl) ?_
  change wpAny _ _ _ _ _ _ _ (World.drew _)
  refine Za (i:=0) (op:=Op.move (Operand.tmp 0)) (t:=79) (d:=some 21) (v:=?_) rfl (by decide +kernel) (by decide +kernel) (by decide +kernel) (fun _ _ _ h=>h) ?_ ?_
  case refine_2=>(intro _;unfold Zd;go_simp;try with_reducible rfl)
  try simp only[lay]
  refine Za (i:=1) (op:=Op.nilCheck (Operand.tmp 21)) (t:=0) (d:=some 22) (v:=?_) rfl (by decide +kernel) (by decide +kernel) (by decide +kernel) (fun _ _ _ h=>h) ?_ ?_
  case refine_2=>(intro _;unfold Zd;go_simp;try with_reducible rfl)
  try simp only[lay]
  refine Za (i:=2) (op:=Op.fieldAddr 123 (Operand.tmp 22) 0) (t:=0) (d:=some 23) (v:=?_) rfl (by decide +kernel) (by decide +kernel) (by decide +kernel) (fun _ _ _ h=>h) ?_ ?_
  case refine_2=>(intro _;unfold Zd;go_simp;try with_reducible rfl)
  try simp only[lay]
  refine Za (i:=4) (op:=Op.fieldAddr 308 (Operand.tmp 6) 1) (t:=0) (d:=some 25) (v:=?_) rfl (by decide +kernel) (by decide +kernel) (by decide +kernel) (fun _ _ _ h=>h) ?_ ?_
  case refine_2=>(intro _;unfold Zd;go_simp;try with_reducible rfl)
  try simp only[lay]
  generalize w1.heap.size=sb at *;refine WC (n:=1) [(3,some 24),(5,some 26),(6,some 27),(7,some 28),(8,some 9)] (Ext w3)
   (VF (fun | 3=>some (.slice (some ⟨ab,ao,none⟩) rows.length cc) | 5=>some (.int .i64 last) | 6=>some (.pointer (some ⟨ab,ao+last,none⟩)) | 7=>some (.slice D row.length d) | _=>none)
    (fun i v W=>i=8->∃ q,v=.pointer (some ⟨q,0,none⟩)/\Blk W q 22 #[.slice none 0 0]/\w3.heap.size<=q))
   Ext #[true,true,true,true,true,true,true,true,true,false] (by kernel_rfl) (VF.stab ?_) ?_ ?_ ((Ext.rf _).drew)
  ·intro j v W W' _ g8 hx h
   obtain⟨q,q1,q2,q3⟩:=g8 h;exact⟨q,q1,q2.ext hx,q3⟩
  ·intro pq hpm u w4 hR4 hD K hK
   have r0:=(hR4.cells.1 _ 0 zg0).trans cK;have r1:=(hR4.cells.1 _ 2 zsb).trans cL;have r2:=(hR4.cells.1 _ (ao+last) zab).trans cv;simp only[List.mem_cons,List.not_mem_nil,or_false] at hpm;rcases hpm with rfl | rfl | rfl | rfl | rfl
   ·exact Zp (T:=23) rfl (.pointer (some ⟨g,0,none⟩)) (by kernel_rfl) (.slice (some ⟨ab,ao,none⟩) rows.length cc) (by go_simp) (hK _ _ (VF.mk rfl) hR4 (Ext.rf _))
   ·exact Zp (T:=3) rfl (.pointer (some ⟨sb,2,none⟩)) (by kernel_rfl) (.int .i64 last) (by go_simp) (hK _ _ (VF.mk rfl) hR4 (Ext.rf _))
   ·have h3:=(hD 3 (Zn (by kernel_rfl))).k rfl
    have h5:=(hD 5 (Zn (by kernel_rfl))).k rfl;exact Z2 (T:=23) rfl _ _ (Eq.trans (b:=u 3) (by kernel_rfl) h3) (Eq.trans (b:=u 5) (by kernel_rfl) h5) (.pointer (some ⟨ab,ao+last,none⟩)) (by go_simp) (hK _ _ (VF.mk rfl) hR4 (Ext.rf _))
   ·have h6:=(hD 6 (Zn (by kernel_rfl))).k rfl
    exact Zp (T:=22) rfl _ (Eq.trans (b:=u 6) (by kernel_rfl) h6) (.slice D row.length d) (by go_simp) (hK _ _ (VF.mk rfl) hR4 (Ext.rf _))
   ·exact ZM (op:=.alloc 22) rfl (.pointer (some ⟨w4.heap.size,0,none⟩)) (w':=w4.alloc (.cells #[.slice none 0 0] 22)) (by unfold Zd;go_simp) (hK _ _ (VF.mg rfl fun _=>⟨_,rfl,.new rfl,hR4.size⟩) (hR4.alloc _) ((Ext.rf _).alloc _))
  intro u w4 hR4 hV4;have h3:=(hV4 (3,some 24) (by simp)).k rfl;have h5:=(hV4 (5,some 26) (by simp)).k rfl;have h6:=(hV4 (6,some 27) (by simp)).k rfl;have h7:=(hV4 (7,some 28) (by simp)).k rfl;obtain⟨q,h8,hq,hqz⟩:=((hV4 (8,some 9) (by simp)).g rfl) rfl;simp only[Zk,h3,h5,h6,h7,h8];clear h3 h5 h6 h7 h8 hV4;have cq:=hq.c0;have fq:=hq.free 0;have rb:Hid (Blk (w4.setCell ⟨q,0,none⟩ (.slice D row.length d)) q 22 #[.slice D row.length d]):=hq.set 0 (.slice D row.length d);have X5:Hid (Ext w3 (w4.setCell ⟨q,0,none⟩ (.slice D row.length d))):=hR4.setNew (p:=⟨q,0,none⟩) hqz _;refine Zi 9 (by decide +kernel) (Yl rfl (.pointer (some ⟨q,0,none⟩)) (.slice D row.length d) (by kernel_rfl) (by kernel_rfl) (by go_simp;rfl) ?_);refine wpAny_done (by kernel_rfl) ?_ _;clear cq fq hq hR4 cK cL cv;generalize w4.setCell ⟨q,0,none⟩ (.slice D row.length d)=w5 at *;clear w4;have X4:=Hd (X3.out.tr X5.out);rcases OwI.cases o3'.out with⟨rfl,rfl,h0⟩ | ⟨gl,cur,rfl,hbg,_,_,_,_⟩
  ·obtain rfl:l=[]:=by
    have h:=congrArg List.length h0;rw[Zm,List.length_nil] at h;exact List.eq_nil_of_length_eq_zero h
   have e0:Xz (ltC (cfR row)) []=[]:=rfl;rw[e0];clear e0 h0 o3';go_simp;go_wp2_with (fail);refine(Q3 _ _).mono ?_;rintro e w6 ⟨rfl,x6⟩;have X6:=X4.out.tr x6;clear x6;go_wp2_with (fail);go_ret2;exact⟨none,0,rfl,OwI.nil _ _,X6⟩
  ·rw[Zm] at *
   have zgl:w.heap.size<=gl:=hbg;have zg:=(OwI.lt o3'.out gl rfl).2;have oN:Hid (OwN w3 w.heap.size gl c l):=o3'.out;have HCO:Hid (CmpOk 282 #[.pointer (some ⟨q,0,none⟩)] (cfR row) row.length gl w5):=by
    intro W x y hx hy hm;have b2:=rb.out.mod hm (by show ¬q=gl;omega);refine ZeF row nrow.out D d q x y hx hy W (b2.cell 0) ?_;refine RdI.modG ((oD.out.read.ext X3.out).ext X5.out) hm fun b hb=>?_
    have:=(oD.out.lt b hb).2;omega
   have SO:=Va w.heap.size gl c 282 #[.pointer (some ⟨q,0,none⟩)] (cfR row) row.length l.length l _ (Za2 row) (enters_of Tryz.func282 (by kernel_rfl) rfl) HCO.out (OwN.ext oN.out X5.out) rfl hsrt.out (fun x hx=>by rw[lrow.out];exact hsub.out x hx) (by omega);replace SO:=Hd SO;clear HCO rb;go_simp;go_wp2_with (fail);refine SO.out.mono ?_;rintro e w6 ⟨rfl,o5,m5⟩;have FIN:Hid (OwI w6 w.heap.size (some ⟨gl,0,none⟩) c (Ze (Xz (ltC (cfR row)) l))/\Ext w w6):=⟨o5,m5.heap X4.out zgl⟩;have hll:Hid ((Ze (Xz (ltC (cfR row)) l)).length=l.length):=Hd (by rw[Zm,JE]);clear o5 m5;go_wp2_with (fail);go_ret2;refine⟨some ⟨gl,0,none⟩,c,?_,FIN.out.1,FIN.out.2⟩;rw[hll.out]
   rfl
end Go.Proofs.YtmojhhlcocjoaaaGreatDoor
namespace Go.Proofs.YtmojhhlcocjoaaaGreatDoor
open Go
section
variable {P:Program} {ops:Array Oper} {Q:Exit->Act->World->Prop}
theorem YX (rem:List (Nat×Option Tmp))(f:Nat->Value){listed0:Array Bool}(listed1:Array Bool)(hok:Wz ops listed0 listed1 rem=true){a0:Act}{w:World}{n:Nat}
  (step:∀ p∈rem,∀ u:Nat->Value,(∀ j∈Xx ops rem p.1,u j=f j)->∀ K:Act->World->Prop,K ((Zk a0 rem u).put p.2 (f p.1)) w->wpOp P ops Q p.1 K (Zk a0 rem u) w)
  (done:wpAny P .any ops Q n listed1 (Zk a0 rem f) w):wpAny P .any ops Q (rem.length+n) listed0 a0 w:=by
 refine Z3 rem (fun w'=>w'=w) (fun i v _=>v=f i) (fun _ _=>True) listed1 hok (fun _ _ _ _ h _=>h) ?_ n ?_ rfl
 ·rintro p hp u w' rfl hD K hK
  exact step p hp u hD K (hK _ _ rfl rfl trivial)
 ·rintro u w' rfl hV
  have:∀ qs:List (Nat×Option Tmp),(∀ p∈qs,u p.1=f p.1)->Zk a0 qs u=Zk a0 qs f:=by
   intro qs
   induction qs with
   | nil=>intro _;rfl
   | cons q qs ih =>
    intro h;simp only[Zk,ih (fun p hp=>h p (List.mem_cons_of_mem _ hp)),h q List.mem_cons_self]
  rw[this rem hV];exact done
end
end Go.Proofs.YtmojhhlcocjoaaaGreatDoor
namespace Go.Proofs.YtmojhhlcocjoaaaGreatDoor
open Go
def Vd (K:Act->World->Prop) : Exit->Act->World->Prop
 | .normal,a,w=>K a w
 | _,_,_=>False
theorem VV {K:Act->World->Prop}{a:Act}{w:World}(h:K a w) : Vd K .normal a w:=h
theorem Ut {K:Act->World->Prop}(h:LetsOut (Vd K)) : False:=by
 obtain⟨a,w,h⟩:=h;exact h
section
variable {F:Fence} {n:Nat} {P:Program} {ops:Array Oper} {Q:Exit->Act->World->Prop} {K:Act->World->Prop}
theorem Ve (h1:∀ f,F.fn f)(h2:F.depth=none)(h3:F.alive=false)(m:Machine) : m.fenced P F:=by
 intro g _;refine⟨fun h=>?_,Or.inl (h1 _),fun _ _=>h1 _,fun _ h=>?_⟩
 ·rw[h3] at h;cases h
 ·rw[h2] at h;cases h
theorem YY (h1:∀ f,F.fn f)(h2:F.depth=none)(h3:F.alive=false){f:FuncId}{args:Array Value}{w:World}{R:Ending->World->Prop}(h:Calls P f args w R) : CallsIn F n P f args w R:=by
 refine⟨h1 _,fun cs _=>?_⟩;obtain⟨e,w',fr,r,s,x⟩:=h cs;refine⟨e,w',fr,r,?_,x⟩
 cases e with
 | returned v=>exact(StepsIn.of_steps s).mono fun m _=>Ve h1 h2 h3 m
 | panicked chain=>exact(StepsIn.of_steps s).mono fun m _=>Ve h1 h2 h3 m
 | outgrown=>exact s
theorem Za8 (h1:∀ f,F.fn f)(h2:F.depth=none)(h3:F.alive=false){row:String}{args:Array Value}{w:World}{R:Value->World->Prop}(h:Rows P row args w R) : RowsIn F n P row args w R:=by
 intro c cs _;obtain⟨v,w',r,s⟩:=h c cs;exact⟨v,w',r,(StepsIn.of_steps s).mono fun m _=>Ve h1 h2 h3 m⟩
theorem Zb2 {o:Oper}{a:Act}{w:World}{K1 K2:Act->World->Prop}(hd:∀ c,o.op≠.defer c)(h1:∀ f,F.fn f)(h2:F.depth=none)(h3:F.alive=false)(hK:∀ a w,K1 a w->K2 a w)
  (h:o.wp P a w K1 (Vd K)):o.wpIn F n P a w K2 Q:=by
 unfold Oper.wpIn;refine⟨fun f _=>h1 f,?_⟩;rw[Oper.semAt_eq _ _ _ hd];unfold Oper.wp at h;generalize (execOp a.eval o).run P w=r at *
 cases r with
 | ok x w' =>
  cases x<;>simp only[Oper.upon] at h<;>simp only[Oper.uponIn]
  case value=>exact hK _ _ h
  case skip=>exact hK _ _ h
  case defer=>exact hK _ _ h
  case enter f args =>
   refine⟨fun h=>(by rw[h2] at h;cases h),(YY h1 h2 h3 h).mono fun e w'' he=>?_⟩
   cases e with
   | returned v=>exact hK _ _ he
   | panicked chain=>exact he.elim
   | outgrown=>exact(Ut he).elim
  case row row args =>
   exact⟨fun h=>(by rw[h2] at h;cases h),(Za8 h1 h2 h3 h).mono fun v w'' he=>hK _ _ he⟩
 | halt x w' =>
  cases x<;>simp only[Oper.upon] at h
  exact h.elim
theorem YA {md:Region.Mode}(hd:∀ (i:Nat) (o:Oper),ops[i]?=some o->∀ c,o.op≠.defer c)(h1:∀ f,F.fn f)(h2:F.depth=none)(h3:F.alive=false) :
  ∀ (fuel:Nat) (listed:Array Bool) (a:Act) (w:World),wpAny P md ops (Vd (Q .normal)) fuel listed a w->wpAnyIn F n P md ops Q fuel listed a w
 | 0,_,_,_,h=>⟨h.1,h.2⟩
 | fuel+1,_,_,_,h=>by
  refine⟨fun h0=>h.1 h0,fun i hi=>?_⟩;have h4:=h.2 i hi;unfold wpOp at h4;unfold wpOpIn;split
  ·rename_i ho
   simp only[ho] at h4;exact YA hd h1 h2 h3 fuel _ _ _ h4
  ·rename_i o ho
   simp only[ho] at h4;split
   ·rename_i hw
    simp only[hw,if_true] at h4;rcases h4 with h4 | h4
    ·exact Zb2 (hd i o ho) h1 h2 h3 (fun a w h=>YA hd h1 h2 h3 fuel _ a w h) h4
    ·exact(Ut h4.2).elim
   ·rename_i hw
    simp only[hw] at h4;exact⟨fun f _=>h1 f,YA hd h1 h2 h3 fuel _ _ _ h4⟩
theorem Xi {id:Nat}{a:Act}{w:World}{l:List Oper}(hm:P.follows .mixedOrders=true)(hd:l.all (fun o => !Qs o)=true)(h1:∀ f,F.fn f)(h2:F.depth=none)(h3:F.alive=false)
  (h:wpAny P .any l.toArray (Vd (Q .normal)) l.toArray.size (Array.replicate l.toArray.size false) a w.drew):(Code.region id l.toArray true).wpIn F n P Q a w:=by
 refine wpIn_region_any hm (YA ?_ h1 h2 h3 _ _ _ _ h);intro i o ho c hc;have h1:o∈l:=by
  have h2:l[i]?=some o:=by simpa using ho
  exact List.mem_of_getElem? h2
 have h3:=List.all_eq_true.1 hd o h1;obtain⟨dst,op,ty,pos,af,gu⟩:=o;simp only at hc;subst hc;simp[Qs] at h3
end
end Go.Proofs.YtmojhhlcocjoaaaGreatDoor
