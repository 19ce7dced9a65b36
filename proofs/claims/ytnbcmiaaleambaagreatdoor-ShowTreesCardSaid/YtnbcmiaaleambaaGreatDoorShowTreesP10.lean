/- parts, packed by a program -/
import Derived.Test.YtnbcmiaaleambaaGreatDoorShowTreesP9
import Derived.ChangeMaps5
import Derived.LaidMore
import Derived.Lay
import Derived.SevenTiedAt
import Derived.Stop.Joined
import Derived.Stop.LaidErr
import Derived.Lib.LaidTab
import Derived.Test.YtnbcmiaaleambaaGreatDoorRows
set_option maxRecDepth 100000
set_option maxHeartbeats 16000000
set_option linter.all false
namespace Go.Proofs.YtnbcmiaaleambaaGreatDoor
open Go.ChangeAt Go.ChangeShapes Go.Deep Go.RowKit Go.WideShapes
section
theorem Zhn (i:InstP)(us:List Value)(P:Option Addr)(c:Nat)(p:List Int)(w:World)(H:RInst w us i)(ok:KnapOk i)(hP:RdI w P p)(lp:p.length<=1000000000) :
  Calls Tryz.prog 50 #[.agg (List.toArray us),.slice P p.length c] w (ZdE (XG i.cap (wsP i) (vsP i) p).1 (XG i.cap (wsP i) (vsP i) p).2 w):=by
 have K:=kok ok;have lN:=Wm ok;have ST:=fun(W:World) (x:Ext w W)=>Zbo i us P c p W (H.ext x) ok (hP.ext x) lp
 have LM:∀ k q,(Yw i)[k]?=some q->q<i.weight.length:=fun k q h=>by
  have h1:=VD h;have:=ok.w;have:=ok.v;omega
 have EW:∀ k q x,(Yw i)[k]?=some q->i.weight[q]?=some x->(wsP i)[k]?=some x:=fun k q x h1 h2=>WC h1 h2
 have K2:=K.l64;have K3:=K.lw;generalize Yw i=l at *;generalize wsP i=ws at *;generalize vsP i=vs at *;clear K ok;obtain⟨kind,nn,cap,xw,xv,co⟩:=i;obtain⟨A,a,B,b,D,d,rfl,⟨rA,iA,lA,mA⟩,-,-⟩:=H;simp only at *;obtain⟨n,rfl⟩:∃ n:Nat,nn=(n:Int):=⟨nn.toNat,by omega⟩;have hn:l.length=n:=by omega
 clear lN;have hn2:n<=64:=by omega
 replace ST:=Hd ST;replace LM:=Hd LM;replace EW:=Hd EW;replace K3:=Hd K3;replace rA:=Hd rA;replace iA:=Hd iA;replace mA:=Hd mA;replace hn:=Hd hn;have B1:Hid (Blk (w.alloc (.cells #[.int .i64 kind,.int .i64 n,.int .i64 cap,.slice A xw.length a,.slice B xv.length b,.slice D co.length d] 25)) w.heap.size 25 #[.int .i64 kind,.int .i64 n,.int .i64 cap,.slice A xw.length a,.slice B xv.length b,.slice D co.length d]):=.new rfl;obtain⟨ks,hks⟩:∃ ks,Hid (XG cap ws vs p=ks):=⟨_,rfl⟩;rw[hks.out];have HK:∀ o,stP cap 0 ws vs p=o->ks=(match o with
  | none=>([],1)
  | some (room,_)=>match ws.drop p.length with
   | []=>([],0)
   | u::_=>if u<=room then([1,0],0) else([0],0)):=fun o ho=>by subst ho;exact hks.out.symm
 have HL:Hid (∀ q,stP cap 0 ws vs p=some q->p.length<=n):=fun q hq=>by
  by_cases h:ws.length<p.length
  ·rw[Wv h] at hq;cases hq
  ·have h3:=K3.out;have h4:=hn.out;omega
 replace HK:=Hd HK;obtain⟨st,hst⟩:∃ st,Hid (stP cap 0 ws vs p=st):=⟨_,rfl⟩;rw[hst.out] at ST;have HK2:=HK.out _ hst.out;clear HK hks;rcases st with _ | ⟨room,out⟩
 ·simp only at HK2
  subst HK2;go_enter Tryz.func50,Tryz.ntmps50;go_wp2_with (fail);refine(ST.out _ XI).mono ?_;rintro e w1 ⟨x1,rfl⟩;have X1:=Ext.tr (a:=w) XI x1;go_wp2;go_ret2;exact⟨none,0,rfl,.inl rfl,by simp,by omega,X1⟩
 ·have hle:=HL.out _ hst.out
  simp only at HK2
  by_cases hpl:p.length=n
  ·have hd:ws.drop p.length=[]:=List.drop_of_length_le (by have h3:=K3.out;have h4:=hn.out;omega)
   rw[hd] at HK2;simp only at HK2;subst HK2;have hpl':((p.length:Int)==(n:Int))=true:=by rw[beq_iff_eq];omega
   clear hd hpl;go_enter Tryz.func50,Tryz.ntmps50;go_wp2_with (fail);refine(ST.out _ XI).mono ?_;rintro e w1 ⟨x1,LA,lc,rfl,rL⟩;have X1:=Ext.tr (a:=w) XI x1;have d1:w1.cell? ⟨w.heap.size,1,none⟩=some (.int .i64 n):=(B1.out.ext x1).cell 1;go_wp2;go_ret2;exact⟨none,0,rfl,.inl rfl,by simp,by omega,X1⟩
  ·have hpn:p.length<n:=by omega
   have hpl':((p.length:Int)==(n:Int))=false:=by rw[beq_eq_false_iff_ne];omega
   have hkl:p.length<l.length:=by rw[hn.out];exact hpn
   obtain⟨q,hq0⟩:∃ q,Hid (l[p.length]?=some q):=⟨l[p.length],List.getElem?_eq_getElem hkl⟩;have hqw:=LM.out _ q hq0.out;obtain⟨wb,wo,u,rfl,zu,cu,eu,_⟩:=rA.out.at hqw;have du:ws.drop p.length=u::ws.drop (p.length+1):=by
    obtain⟨h1,h2⟩:=List.getElem?_eq_some_iff.1 (EW.out _ q u hq0.out eu.out);rw[List.drop_eq_getElem_cons h1,h2]
   rw[du] at HK2;simp only at HK2;have qi1:(q:Int)<(xw.length:Int):=by omega
   have qi3:(p.length:Int)<(l.length:Int):=by omega
   clear du hpl eu;have step:∀ (W:World),W.cell? ⟨w.heap.size,1,none⟩=some (.int .i64 n)->True:=fun _ _=>trivial
   clear step
   by_cases hu:u<=room
   ·rw[if_pos hu] at HK2
    subst HK2;go_enter Tryz.func50,Tryz.ntmps50;go_wp2_with (fail);refine(ST.out _ XI).mono ?_;rintro e w1 ⟨x1,LA,lc,rfl,rL⟩;have X1:=Ext.tr (a:=w) XI x1;have d1:w1.cell? ⟨w.heap.size,1,none⟩=some (.int .i64 n):=(B1.out.ext x1).cell 1;have d3:w1.cell? ⟨w.heap.size,3,none⟩=some (.slice (some ⟨wb,wo,none⟩) xw.length a):=(B1.out.ext x1).cell 3;obtain⟨qb,qo,qi,rfl,zq,cq,eq,_⟩:=rL.at (k:=p.length) (by rw[ZT];exact hkl);obtain rfl:qi=(q:Int):=by
     have h1:=ZaN hq0.out;rw[eq.out] at h1;exact Option.some.inj h1
    have ku:=Zd X1 zu cu;clear eq rL;go_wp2_with (go_quiet (fail))
    all_goals go_ret2
    all_goals exact⟨some ⟨w1.heap.size,0,none⟩,2,rfl,.blk (by(first | exact .new (by simp) | exact .drew (.new (by simp)) | exact .alloc (.new (by simp)) _ | exact .drew (.alloc (.new (by simp)) _) | exact .alloc (.alloc (.new (by simp)) _) _ | exact .drew (.alloc (.alloc (.new (by simp)) _) _) | (repeat (first | assumption | (refine Blk.new ?_;(focus (simp;done))) | apply Blk.drew | apply Blk.drewN | apply Blk.alloc)))) rfl,by simp,by omega,by(repeat (first | assumption | exact Ext.rf _ | apply Ext.drew | apply Ext.drewN | apply Ext.alloc))⟩
   ·rw[if_neg hu] at HK2
    subst HK2;go_enter Tryz.func50,Tryz.ntmps50;go_wp2_with (fail);refine(ST.out _ XI).mono ?_;rintro e w1 ⟨x1,LA,lc,rfl,rL⟩;have X1:=Ext.tr (a:=w) XI x1;have d1:w1.cell? ⟨w.heap.size,1,none⟩=some (.int .i64 n):=(B1.out.ext x1).cell 1;have d3:w1.cell? ⟨w.heap.size,3,none⟩=some (.slice (some ⟨wb,wo,none⟩) xw.length a):=(B1.out.ext x1).cell 3;obtain⟨qb,qo,qi,rfl,zq,cq,eq,_⟩:=rL.at (k:=p.length) (by rw[ZT];exact hkl);obtain rfl:qi=(q:Int):=by
     have h1:=ZaN hq0.out;rw[eq.out] at h1;exact Option.some.inj h1
    have ku:=Zd X1 zu cu;clear eq rL;go_wp2_with (go_quiet (fail))
    all_goals go_ret2
    all_goals exact⟨some ⟨w1.heap.size,0,none⟩,1,rfl,.blk (by(first | exact .new (by simp) | exact .drew (.new (by simp)) | exact .alloc (.new (by simp)) _ | exact .drew (.alloc (.new (by simp)) _) | exact .alloc (.alloc (.new (by simp)) _) _ | exact .drew (.alloc (.alloc (.new (by simp)) _) _) | (repeat (first | assumption | (refine Blk.new ?_;(focus (simp;done))) | apply Blk.drew | apply Blk.drewN | apply Blk.alloc)))) rfl,by simp,by omega,by(repeat (first | assumption | exact Ext.rf _ | apply Ext.drew | apply Ext.drewN | apply Ext.alloc))⟩
theorem ZfU (i:InstP)(us:List Value)(P:Option Addr)(c:Nat)(p:List Int)(w:World)(H:RInst w us i)(ok:KnapOk i)(hP:RdI w P p)(lp:p.length<=1000000000) :
  Calls Tryz.prog 86 #[.agg (List.toArray us),.slice P p.length c] w fun e w'=>e=.returned (ZdF (Ym i.cap (wsP i) (vsP i) p))/\Ext w w':=by
 have K:=kok ok;have lN:=Wm ok;have ST:=fun(W:World) (x:Ext w W)=>Zbo i us P c p W (H.ext x) ok (hP.ext x) lp
 have LM:∀ k q,(Yw i)[k]?=some q->q<i.weight.length/\q<i.value.length:=fun k q h=>by
  have h1:=VD h;have:=ok.w;have:=ok.v;omega
 have EW:∀ k q x,(Yw i)[k]?=some q->i.weight[q]?=some x->(wsP i)[k]?=some x:=fun k q x h1 h2=>WC h1 h2
 have EV:∀ k q x,(Yw i)[k]?=some q->i.value[q]?=some x->(vsP i)[k]?=some x:=fun k q x h1 h2=>WC h1 h2
 have K1:=K.cap;have K2:=K.l64;have K3:=K.lw;have K4:=K.lv;have K5:=K.sw;have K6:=K.sv;generalize Yw i=l at *;generalize wsP i=ws at *;generalize vsP i=vs at *;clear K ok;obtain⟨kind,nn,cap,xw,xv,co⟩:=i;obtain⟨A,a,B,b,D,d,rfl,⟨rA,iA,lA,mA⟩,⟨rB,iB,lB,mB⟩,-⟩:=H;simp only at *;obtain⟨n,rfl⟩:∃ n:Nat,nn=(n:Int):=⟨nn.toNat,by omega⟩;have hn:l.length=n:=by omega
 clear lN;have hn2:n<=64:=by omega
 replace ST:=Hd ST;replace LM:=Hd LM;replace EW:=Hd EW;replace EV:=Hd EV;replace K3:=Hd K3;replace K4:=Hd K4;replace K5:=Hd K5;replace K6:=Hd K6;replace rA:=Hd rA;replace rB:=Hd rB;replace iA:=Hd iA;replace iB:=Hd iB;replace mA:=Hd mA;replace mB:=Hd mB;replace hn:=Hd hn;have B1:Hid (Blk (w.alloc (.cells #[.int .i64 kind,.int .i64 n,.int .i64 cap,.slice A xw.length a,.slice B xv.length b,.slice D co.length d] 25)) w.heap.size 25 #[.int .i64 kind,.int .i64 n,.int .i64 cap,.slice A xw.length a,.slice B xv.length b,.slice D co.length d]):=.new rfl;obtain⟨bd,hbd⟩:∃ bd,Hid (Ym cap ws vs p=bd):=⟨_,rfl⟩;rw[hbd.out];have HK:∀ o,stP cap 0 ws vs p=o->bd=(match o with
  | none=>(0,1)
  | some (room,out)=>(out+Zg (vs.drop p.length)-Zq room (ws.drop p.length) (vs.drop p.length),0)):=fun o ho=>by subst ho;exact hbd.out.symm
 have HL:Hid (∀ q,stP cap 0 ws vs p=some q->p.length<=n):=fun q hq=>by
  by_cases h:ws.length<p.length
  ·rw[Wv h] at hq;cases hq
  ·have h3:=K3.out;have h4:=hn.out;omega
 replace HK:=Hd HK;obtain⟨st,hst⟩:∃ st,Hid (stP cap 0 ws vs p=st):=⟨_,rfl⟩;rw[hst.out] at ST;have HK2:=HK.out _ hst.out;clear HK hbd;rcases st with _ | ⟨room,out⟩
 ·simp only at HK2
  subst HK2;go_enter Tryz.func86,Tryz.ntmps86;go_wp2_with (fail);refine(ST.out _ XI).mono ?_;rintro e w1 ⟨x1,rfl⟩;have X1:=Ext.tr (a:=w) XI x1;go_wp2;go_ret2;exact⟨rfl,X1⟩
 ·simp only at HK2
  have hle:=HL.out _ hst.out;have bR:=VE (fun x hx=>(K5.out x hx).1) K1.1 hst.out;have bO:=QK K6.out hst.out;obtain⟨T,hT⟩:∃ T,Hid (T=Zg (vs.drop p.length)):=⟨_,rfl⟩;obtain⟨G,hG⟩:∃ G,Hid (G=Zq room (ws.drop p.length) (vs.drop p.length)):=⟨_,rfl⟩;rw[<-hT.out,<-hG.out] at HK2;subst HK2;have bT:=Zah K6.out p.length;have b0:0<=G:=by
   rw[hG.out];exact XH bR.1 (fun x hx=>(K5.out x (List.mem_of_mem_drop hx)).1) (fun x hx=>(K6.out x (List.mem_of_mem_drop hx)).1)
  have b9:G<=T:=by
   rw[hG.out,hT.out];exact W8 bR.1 (fun x hx=>(K5.out x (List.mem_of_mem_drop hx)).1) (fun x hx=>(K6.out x (List.mem_of_mem_drop hx)).1)
  have bT2:T<=137438953408:=by
   have h3:=K4.out;have h4:=hn.out;rw[<-hT.out] at bT;have:=bT.2;omega
  clear bT;obtain⟨bR1,bR2⟩:=bR;obtain⟨bO1,bO2⟩:=bO;obtain⟨kc1,kc2⟩:=K1;go_enter Tryz.func86,Tryz.ntmps86;go_wp2_with (fail);refine(ST.out _ XI).mono ?_;rintro e w1 ⟨x1,LA,lc,rfl,rL⟩;have X1:=Hd (Ext.tr (a:=w) XI x1);have BB:=Hd (B1.out.ext x1);have d1:=BB.out.c1;have d3:=BB.out.c3;have d4:=BB.out.c4;have zb:=BB.out.lt;replace rL:=Hd rL;clear x1;go_wp2_with (fail);go_loopw [7,10,11,12,13] (fun r t u m i wr=>∃ (k:Nat) (rm rest up:Int) (more:Bool),i=.int .i64 k/\r=.int .i64 rm/\t=.int .i64 rest/\u=.int .i64 up/\m=.bool more/\k<=n/\0<=rm/\rm<=2147483647/\0<=rest/\rest<=2147483647*(k:Int)/\0<=up/\up<=rest /\
    Hid (T=rest+Zg (vs.drop k))/\Hid (if more=true then G=up+Zq rm (ws.drop k) (vs.drop k) else G=up)/\Ext w1 wr) (fun _ _ _ _ i _=>n-(intOf i).toNat)
  case atStart=>exact⟨p.length,room,0,0,true,rfl,rfl,rfl,rfl,rfl,hle,bR1,by omega,by omega,by omega,by omega,by omega,by rw[Int.zero_add];exact hT,by
   have h:G=0+Zq room (ws.drop p.length) (vs.drop p.length):=by rw[Int.zero_add];exact hG.out
   exact h,Ext.rf _⟩
  case round =>
   obtain⟨wo,rfl⟩:=Wq wr;obtain⟨k,rm,rest,up,more,rfl,rfl,rfl,rfl,rfl,hk,q1,q2,q3,q4,q5,q6,HT,HG,Y⟩:=hrel;have e1:=Zd Y zb d1
   by_cases hlt:k<n
   ·have hkl:k<l.length:=by rw[hn.out];exact hlt
    obtain⟨q,hq0⟩:∃ q,Hid (l[k]?=some q):=⟨l[k],List.getElem?_eq_getElem hkl⟩;obtain⟨qb,qo,qi,rfl,zq,cq,eq,_⟩:=(rL.out.ext Y).at (k:=k) (by rw[ZT];exact hkl);obtain rfl:qi=(q:Int):=by
     have h1:=ZaN hq0.out;rw[eq.out] at h1;exact Option.some.inj h1
    obtain⟨hqw,hqv⟩:=LM.out k q hq0.out;obtain⟨wb,wo',u,rfl,zu,cu,eu,_⟩:=(rA.out.ext (X1.out.tr Y)).at hqw;obtain⟨vb,vo',v,rfl,zv,cv,ev,_⟩:=(rB.out.ext (X1.out.tr Y)).at hqv;have du:Hid (ws.drop k=u::ws.drop (k+1)):=by
     obtain⟨h1,h2⟩:=List.getElem?_eq_some_iff.1 (EW.out k q u hq0.out eu.out);exact(by rw[List.drop_eq_getElem_cons h1,h2]:ws.drop k=u::ws.drop (k+1))
    have dv:Hid (vs.drop k=v::vs.drop (k+1)):=by
     obtain⟨h1,h2⟩:=List.getElem?_eq_some_iff.1 (EV.out k q v hq0.out ev.out);exact(by rw[List.drop_eq_getElem_cons h1,h2]:vs.drop k=v::vs.drop (k+1))
    have bu:=K5.out.get (EW.out k q u hq0.out eu.out);have bv:=K6.out.get (EV.out k q v hq0.out ev.out);have e3:=Zd Y zb d3;have e4:=Zd Y zb d4;have qi1:(q:Int)<(xw.length:Int):=by omega
    have qi2:(q:Int)<(xv.length:Int):=by omega
    have qi3:(k:Int)<(l.length:Int):=by omega
    have HT2:Hid (T=(rest+v)+Zg (vs.drop (k+1))):=by
     have h:=HT.out;rw[dv.out] at h;simp only[Zg] at h;have h2:T=(rest+v)+Zg (vs.drop (k+1)):=by omega
     exact h2
    clear HT eu ev eq
    cases more with
    | false =>
     have hG2:(if (false:Bool)=true then G=up+Zq rm (ws.drop (k+1)) (vs.drop (k+1)) else G=up):=by
      have h:=HG.out;rw[if_neg (by decide)] at h ⊢;exact h
     have HG2:=Hd hG2;clear hG2 HG du dv;go_wp2_with (go_quiet (fail));go_roundw
     case rel=>exact⟨k+1,rm,rest+v,up,false,by go_num,rfl,rfl,rfl,rfl,by omega,by omega,by omega,by omega,by omega,by omega,by omega,HT2,HG2,by repeat (first | exact Y | apply Ext.drewN)⟩
     case measure=>simp[intOf];omega
    | true =>
     have hG1:G=up+Zq rm (u::ws.drop (k+1)) (v::vs.drop (k+1)):=by
      have h:=HG.out;rw[if_pos rfl,du.out,dv.out] at h;exact h
     replace hG1:=Hd hG1;clear HG du dv
     by_cases hle2:u<=rm
     ·have hG2:(if (true:Bool)=true then G=(up+v)+Zq (rm-u) (ws.drop (k+1)) (vs.drop (k+1)) else G=up+v):=by
       have h:=hG1.out;rw[Zq,if_neg (by omega),<-Int.add_assoc] at h;rw[if_pos rfl];exact h
      have HG2:=Hd hG2;clear hG2;go_wp2_with (go_quiet (fail));go_roundw
      case rel=>exact⟨k+1,rm-u,rest+v,up+v,true,by go_num,rfl,rfl,rfl,rfl,by omega,by omega,by omega,by omega,by omega,by omega,by omega,HT2,HG2,by repeat (first | exact Y | apply Ext.drewN)⟩
      case measure=>simp[intOf];omega
     ·have hm:=Uh bv.1 bv.2 q1 q2
      have hpos:0<u:=by omega
      have hqv2:v*rm / u<=v:=by
       have h1:v*rm<=v*u:=Int.mul_le_mul_of_nonneg_left (by omega) bv.1;have h2:v*rm / u<=v*u / u:=Int.ediv_le_ediv hpos h1
       rwa [Int.mul_ediv_cancel _ (by omega)] at h2
      have hq0':0<=v*rm / u:=Int.ediv_nonneg hm.1 (by omega);have hG2:(if (false:Bool)=true then G=(up+v*rm / u)+Zq rm (ws.drop (k+1)) (vs.drop (k+1)) else G=up+v*rm / u):=by
       have h:=hG1.out;rw[Zq,if_pos (by omega)] at h;rw[if_neg (by decide)];exact h
      have HG2:=Hd hG2;clear hG2;obtain⟨z,hz⟩:∃ z,Hid (z=v*rm / u):=⟨_,rfl⟩;rw[<-hz.out] at hqv2 hq0' HG2;have w1':wrap64 (v*rm)=v*rm:=IntWalk.wrap64_in _ ⟨by omega,by omega⟩;have w2':(v*rm).tdiv u=z:=by rw[Int.tdiv_eq_ediv_of_nonneg hm.1,hz.out]
      have w3':v*rm / u=z:=hz.out.symm;clear hm;go_wp2_with (go_quiet (fail));go_roundw
      case rel=>exact⟨k+1,rm,rest+v,up+z,false,by go_num,rfl,rfl,rfl,rfl,by omega,by omega,by omega,by omega,by omega,by omega,by omega,HT2,HG2,by repeat (first | exact Y | apply Ext.drewN)⟩
      case measure=>simp[intOf];omega
   ·obtain rfl:k=n:=by omega
    have HT2:Hid (rest=T):=by
     have h:=HT.out;rw[List.drop_of_length_le (l:=vs) (i:=k) (by have h3:=K4.out;have h4:=hn.out;omega)] at h;simp only[Zg] at h;have h2:rest=T:=by omega
     exact h2
    have HG2:Hid (up=G):=by
     have h:=HG.out;rw[List.drop_of_length_le (l:=ws) (i:=k) (by have h3:=K3.out;have h4:=hn.out;omega)] at h;have h0:Zq rm [] (vs.drop k)=0:=by cases vs.drop k<;>rfl
     rw[h0,Int.add_zero] at h;have h2:up=G:=by
      cases more with
      | true=>rw[if_pos rfl] at h;exact h.symm
      | false=>rw[if_neg (by decide)] at h;exact h.symm
     exact h2
    obtain rfl:=HT2.out;obtain rfl:=HG2.out;clear HT HG hT hG HT2 HG2;go_wp2_with (fail);go_ret2;exact⟨rfl,X1.out.tr Y⟩
def Vl (l:List Int)(w:World)(e:Ending)(w':World) : Prop:=∃ (A:Option Addr) (c:Nat) (er:Int),e=.returned (.tuple #[.slice A l.length c,.int .i64 er])/\RdI w' A l/\Ext w w'
theorem Zc5 (i:InstP)(us:List Value)(w:World)(H:RInst w us i)(hc:Zk i=0) :
  Calls Tryz.prog 23 #[.agg (List.toArray us)] w fun e w'=>e=.returned (.int .i64 (Zo i))/\Ext w w':=by
 have hn:1<=i.n/\i.n<=64:=by
  rcases ZL hc with h | h | h
  ·have ok:=Yj hc h;exact⟨ok.n1,ok.n2⟩
  ·have sq:=Zt hc (by omega);exact⟨sq.n1,by have:=sq.n2;omega⟩
  ·have sq:=Zt hc (by omega);exact⟨sq.n1,by have:=sq.n2;omega⟩
 have hd:Hid ((Zo i:Int)=if i.kind=3 then i.n-1 else i.n):=Hd (by
  unfold Zo;split<;>omega)
 obtain⟨D,hD⟩:∃ D:Int,Hid ((Zo i:Int)=D):=⟨_,rfl⟩;rw[hD.out] at hd ⊢;clear hc hD;obtain⟨kind,nn,cap,xw,xv,co⟩:=i;obtain⟨A,a,B,b,Dd,d,rfl,-,-,-⟩:=H;simp only at *
 by_cases hk:kind=3
 ·subst hk
  have E:Hid (nn-1=D):=by
   have h:=hd.out;rw[if_pos rfl] at h;exact h.symm
  clear hd;go_enter Tryz.func23,Tryz.ntmps23;go_wp2_with (fail);go_ret;exact⟨Z3 E.out,XI⟩
 ·have hk1:(kind==3)=false:=by simpa using hk
  have E:Hid (nn=D):=by
   have h:=hd.out;rw[if_neg hk] at h;exact h.symm
  clear hd;go_enter Tryz.func23,Tryz.ntmps23;go_wp2_with (fail);go_ret;exact⟨Z3 E.out,XI⟩
theorem Zho (i:InstP)(us:List Value)(P:Option Addr)(c:Nat)(p:List Int)(w:World)(H:RInst w us i)(hc:Zk i=0)(hk:i.kind=1)(hP:RdI w P p)(lp:p.length<=1000000000) :
  Calls Tryz.prog 24 #[.agg (List.toArray us),.slice P p.length c] w (Vl (YO i p) w):=by
 have e:YO i p=(XG i.cap (wsP i) (vsP i) p).1:=by unfold YO;rw[if_pos hk]
 have KI:Hid (∀ W,Ext w W->Calls Tryz.prog 50 #[.agg (List.toArray us),.slice P p.length c] W (Vl (YO i p) W)):=fun W x=>by
  refine(Zhn i us P c p W (H.ext x) (Yj hc hk) (hP.ext x) lp).mono ?_;intro e1 w1 h;unfold ZdE at h;obtain⟨A1,c1,rfl,r1,-,-,x1⟩:=h;exact⟨A1,c1,_,by rw[e],by rw[e];exact r1,x1⟩
 unfold Vl at KI ⊢;clear e hc;generalize YO i p=l at *;obtain⟨kind,nn,cap,xw,xv,co⟩:=i;obtain⟨A,a,B,b,D,d,rfl,-,-,-⟩:=H;simp only at *;subst hk;go_enter Tryz.func24,Tryz.ntmps24;go_wp2_with (fail);refine(KI.out _ XI).mono ?_;rintro e w1 ⟨A1,c1,er,rfl,r1,x1⟩;have X1:=Hd (Ext.tr (a:=w) XI x1);replace r1:=Hd r1;clear x1 KI;go_wp2_with (fail);go_ret2;exact⟨A1,c1,er,rfl,r1.out.ext XI,X1.out.tr XI⟩
theorem Zhp (i:InstP)(us:List Value)(P:Option Addr)(c:Nat)(p:List Int)(w:World)(H:RInst w us i)(hc:Zk i=0)(hk:i.kind=2)(hP:RdI w P p)(lp:p.length<=1000000000) :
  Calls Tryz.prog 24 #[.agg (List.toArray us),.slice P p.length c] w (Vl (YO i p) w):=by
 have e:YO i p=(Xs i.cost p).1:=by unfold YO;rw[if_neg (by omega),if_pos hk]
 have KI:Hid (∀ W,Ext w W->Calls Tryz.prog 51 #[.agg (List.toArray us),.slice P p.length c] W (Vl (YO i p) W)):=fun W x=>by
  refine(ZdP i us P c p W (H.ext x) (Zt hc (by omega)) (hP.ext x) lp).mono ?_;intro e1 w1 h;unfold Ys at h;obtain⟨A1,c1,rfl,r1,x1⟩:=h;replace r1:=r1.read;exact⟨A1,c1,_,by rw[e],by rw[e];exact r1,x1⟩
 unfold Vl at KI ⊢;clear e hc;generalize YO i p=l at *;obtain⟨kind,nn,cap,xw,xv,co⟩:=i;obtain⟨A,a,B,b,D,d,rfl,-,-,-⟩:=H;simp only at *;subst hk;go_enter Tryz.func24,Tryz.ntmps24;go_wp2_with (fail);refine(KI.out _ XI).mono ?_;rintro e w1 ⟨A1,c1,er,rfl,r1,x1⟩;have X1:=Hd (Ext.tr (a:=w) XI x1);replace r1:=Hd r1;clear x1 KI;go_wp2_with (fail);go_ret2;exact⟨A1,c1,er,rfl,r1.out.ext XI,X1.out.tr XI⟩
theorem Zhq (i:InstP)(us:List Value)(P:Option Addr)(c:Nat)(p:List Int)(w:World)(H:RInst w us i)(hc:Zk i=0)(hk:i.kind=3)(hP:RdI w P p)(lp:p.length<=1000000000) :
  Calls Tryz.prog 24 #[.agg (List.toArray us),.slice P p.length c] w (Vl (YO i p) w):=by
 have e:YO i p=(Xu i.cost p).1:=by unfold YO;rw[if_neg (by omega),if_neg (by omega)]
 have KI:Hid (∀ W,Ext w W->Calls Tryz.prog 52 #[.agg (List.toArray us),.slice P p.length c] W (Vl (YO i p) W)):=fun W x=>by
  refine(Zd3 i us P c p W (H.ext x) (Zt hc (by omega)) (hP.ext x) lp).mono ?_;intro e1 w1 h;unfold Ys at h;obtain⟨A1,c1,rfl,r1,x1⟩:=h;replace r1:=r1.read;exact⟨A1,c1,_,by rw[e],by rw[e];exact r1,x1⟩
 unfold Vl at KI ⊢;clear e hc;generalize YO i p=l at *;obtain⟨kind,nn,cap,xw,xv,co⟩:=i;obtain⟨A,a,B,b,D,d,rfl,-,-,-⟩:=H;simp only at *;subst hk;go_enter Tryz.func24,Tryz.ntmps24;go_wp2_with (fail);refine(KI.out _ XI).mono ?_;rintro e w1 ⟨A1,c1,er,rfl,r1,x1⟩;have X1:=Hd (Ext.tr (a:=w) XI x1);replace r1:=Hd r1;clear x1 KI;go_wp2_with (fail);go_ret2;exact⟨A1,c1,er,rfl,r1.out.ext XI,X1.out.tr XI⟩
theorem ZeC (i:InstP)(us:List Value)(P:Option Addr)(c:Nat)(p:List Int)(w:World)(H:RInst w us i)(hc:Zk i=0)(hP:RdI w P p)(lp:p.length<=1000000000) :
  Calls Tryz.prog 24 #[.agg (List.toArray us),.slice P p.length c] w (Vl (YO i p) w):=by
 rcases ZL hc with h | h | h
 ·exact Zho i us P c p w H hc h hP lp
 ·exact Zhp i us P c p w H hc h hP lp
 ·exact Zhq i us P c p w H hc h hP lp
section
variable {w w':World} {B:Nat} {us:List Value} {W q:List (List Int)} {p:List Int} {A:Option Addr}
theorem RowsO.len (h:RowsO w B us W) : us.length=W.length:=h.1
theorem RowsO.last (h:RowsO w B us (q++[p])) : ∃ A c,us[q.length]?=some (.slice A p.length c)/\OwI w B A c p:=h.2 q.length p (by simp)
theorem RowsO.init (h:RowsO w B us (q++[p])) : RowsO w B (us.take q.length) q:=by
 refine⟨by have:=h.1;simp at this;simp;omega,fun i r hi=>?_⟩;have hlt:=(List.getElem?_eq_some_iff.1 hi).1;obtain⟨A',c',h1,h2⟩:=h.2 i r (by rw[List.getElem?_append_left hlt];exact hi);exact⟨A',c',by rw[List.getElem?_take,if_pos hlt];exact h1,h2⟩
end
end
section
theorem ZiM (u:World) : (Instr.buildSlice 22 0 #[]).run Tryz.prog u=.ok (.slice (some ⟨u.heap.size,0,none⟩) 0 0) (u.alloc (.cells #[] 3)):=by go_simp
theorem ZiN (u:World)(x:Int) : (Instr.buildSlice 22 1 #[(0,.int .i64 x)]).run Tryz.prog u=.ok (.slice (some ⟨u.heap.size,0,none⟩) 1 1) (u.alloc (.cells #[.int .i64 x] 3)):=by go_simp
theorem ZiO (u:World)(A:Option Addr)(n c:Nat) : (Instr.buildSlice 23 1 #[(0,.slice A n c)]).run Tryz.prog u=.ok (.slice (some ⟨u.heap.size,0,none⟩) 1 1) (u.alloc (.cells #[.slice A n c] 22)):=by go_simp
theorem ZfV : (Tryz.prog.info? 22).map (fun i=>(i.zero,i.size,i.bytes))=some (some (.slice none 0 0),1,24):=by kernel_rfl
def WaitS (base:Nat)(w:World)(A:Option Addr)(n c:Nat)(S:List (List Int)) : Prop:=∃ us,OwV w base 22 1 A n c us/\RowsO w base us S.reverse
theorem WaitS.ext {base n c:Nat}{w w':World}{A:Option Addr}{S:List (List Int)}(h:WaitS base w A n c S)(x:Ext w w') : WaitS base w' A n c S:=by
 obtain⟨us,h1,h2⟩:=h;exact⟨us,h1.ext x,h2.ext x⟩
theorem WaitS.len {base n c:Nat}{w:World}{A:Option Addr}{S:List (List Int)}(h:WaitS base w A n c S) : n=S.length/\n<=c:=by
 obtain⟨us,h1,h2⟩:=h;have e:=h1.len;have e2:=h2.1;rw[List.length_reverse] at e2;exact⟨by omega,h1.le.1⟩
theorem WaitS.first {base:Nat}{w:World}{g b:Nat}(hg:Blk w g 22 #[.slice (some ⟨b,0,none⟩) 0 0])(hb:Blk w b 3 #[])(h1:base<=g)(h2:base<=b) : WaitS base w (some ⟨g,0,none⟩) 1 1 [[]] :=
 ⟨_,OwV.full hg h1 rfl (by simp[maxLen]),(RowsO.nil w base).snoc (OwI.empty hb h2)⟩
theorem WaitS.top {base n c:Nat}{w:World}{A:Option Addr}{S:List (List Int)}{p:List Int}(h:WaitS base w A n c (p::S)) : ∃ (g:Nat) (PA:Option Addr) (pc:Nat) (us:List Value),n=S.length+1/\A=some ⟨g,0,none⟩/\w.cell? ⟨g,S.length,none⟩=some (.slice PA p.length pc)/\OwI w base PA pc p/\RdC w A (us.take S.length)/\(us.take S.length).length=S.length/\RowsO w base (us.take S.length) S.reverse/\∀ u∈us.take S.length,Value.oneCell' u=true:=by
 obtain⟨us,h1,h2⟩:=h;have e:=h1.len;have e2:=h2.1;rw[List.length_reverse] at e2;simp only[List.length_cons] at e2;rw[List.reverse_cons] at h2;obtain⟨PA,pc,k1,k2⟩:=h2.last;have k3:=h2.init;rw[List.length_reverse] at k1 k3;rcases h1.cases with⟨_,_,h0,_⟩ | ⟨g,cur,rfl,_⟩
 ·omega
 ·obtain⟨b,off,v,hq,_,hc,hv⟩:=h1.read.at (j:=S.length) (by omega)
  obtain⟨rfl,rfl⟩:g=b/\0=off:=by simpa using hq
  have e4:=hv.out;rw[k1] at e4;obtain rfl:=Option.some.inj e4;refine⟨g,PA,pc,us,by omega,rfl,by simpa using hc,k2,(h1.read.take S.length).rdC,by rw[List.length_take];omega,k3,fun u hu=>?_⟩;obtain⟨z,hz⟩:=List.getElem?_of_mem hu;have hz2:=(List.getElem?_eq_some_iff.1 hz).1;rw[k3.1] at hz2;obtain⟨A9,c9,e9,_⟩:=k3.2 z _ (List.getElem?_eq_getElem hz2);rw[hz] at e9;obtain rfl:=Option.some.inj e9
  rfl
theorem Zgm {i:InstP}(hc:Zk i=0) : Zo i<=64:=by
 unfold Zo;rcases ZL hc with h | h | h
 ·have ok:=Yj hc h
  have:=ok.n2;split<;>omega
 ·have sq:=Zt hc (by omega)
  have:=sq.n2;split<;>omega
 ·have sq:=Zt hc (by omega)
  have:=sq.n2;split<;>omega
def ReadAt (RES:Option (List Rec))(D:Nat)(kd:List Int->List Int)(w:Wd)(S:List (List Int))(al:List Rec) : Prop:=RES=(Z1 D kd w S).map fun b=>al++b
section
variable {RES:Option (List Rec)} {D:Nat} {kd:List Int->List Int} {w:Wd} {S:List (List Int)} {al:List Rec} {p:List Int}
theorem ReadAt.start (D:Nat)(kd:List Int->List Int)(w:Wd) : ReadAt (Z1 D kd w [[]]) D kd w [[]] []:=by
 unfold ReadAt
 cases Z1 D kd w [[]] with
 | none=>rfl
 | some b=>rfl
theorem ReadAt.fin (h:ReadAt RES D kd [] [] al) : RES=some al:=by rw[h];simp[Z1]
theorem ReadAt.tail {c:UInt8}(h:ReadAt RES D kd (c::w) [] al) : RES=none:=by rw[h];simp[Z1]
theorem ReadAt.short (h:ReadAt RES D kd [] (p::S) al) : RES=none:=by rw[h];simp[Z1]
theorem ReadAt.pr (h:ReadAt RES D kd (112::w) (p::S) al) : ReadAt RES D kd w S (al++[⟨1,p⟩]):=by
 unfold ReadAt at h ⊢;rw[h,Xh,if_neg (by decide),if_neg (by decide),if_pos rfl]
 cases Z1 D kd w S with
 | none=>rfl
 | some b=>simp
theorem ReadAt.l (h:ReadAt RES D kd (108::w) (p::S) al)(hw:p.length=D) : ReadAt RES D kd w S (al++[⟨3,p⟩]):=by
 unfold ReadAt at h ⊢;rw[h,Xh,if_neg (by decide),if_pos rfl,if_pos hw]
 cases Z1 D kd w S with
 | none=>rfl
 | some b=>simp
theorem ReadAt.l_no (h:ReadAt RES D kd (108::w) (p::S) al)(hw:p.length≠D) : RES=none:=by
 unfold ReadAt at h;rw[h,Xh,if_neg (by decide),if_pos rfl,if_neg hw]
 rfl
theorem ReadAt.b (h:ReadAt RES D kd (98::w) (p::S) al)(hw:p.length≠D) : ReadAt RES D kd w ((kd p).map (fun n=>p++[n])++S) (al++[⟨2,p⟩]):=by
 unfold ReadAt at h ⊢;rw[h,Xh,if_pos rfl,if_neg hw]
 cases Z1 D kd w ((kd p).map (fun n=>p++[n])++S) with
 | none=>rfl
 | some b=>simp
theorem ReadAt.b_no (h:ReadAt RES D kd (98::w) (p::S) al)(hw:p.length=D) : RES=none:=by
 unfold ReadAt at h;rw[h,Xh,if_pos rfl,if_pos hw]
 rfl
theorem ReadAt.no {c:UInt8}(h:ReadAt RES D kd (c::w) (p::S) al)(h1:c≠98)(h2:c≠108)(h3:c≠112) : RES=none:=by
 unfold ReadAt at h;rw[h,Xh,if_neg h1,if_neg h2,if_neg h3]
 rfl
end
def U7 (R:Option (List Rec))(w:World)(e:Ending)(w':World) : Prop:=match R with
 | some l=>∃ A c,e=.returned (.tuple #[.slice A l.length c,.int .i64 0,.int .i64 0])/\RecSl w' w.heap.size 38 A c l/\Ext w w'
 | none=>∃ n er:Int,e=.returned (.tuple #[.slice none 0 0,.int .i64 n,.int .i64 er])/\er≠0/\Ext w w'
theorem RecSl.more {w:World}{base base' c:Nat}{E:TypeId}{A:Option Addr}{rs:List Rec}(h:RecSl w base E A c rs)(hb:base'<=base) : RecSl w base' E A c rs:=by
 obtain⟨vs,h1,h2⟩:=h;exact⟨vs,h1.more hb,h2.more hb⟩
theorem QJ (i:InstP)(us:List Value)(tr:Wd)(w:World)(H:RInst w us i)(hc:Zk i=0)(lt:tr.length<=1000) :
  Calls Tryz.prog 8 #[.agg (List.toArray us),.string ⟨tr.toArray⟩] w (U7 (YF (Zo i) (ZB i) tr) w):=by
 have DE:=Hd (fun(W:World) (y:Ext w W)=>Zc5 i us W (H.ext y) hc);have KI:=Hd (fun(W:World) (y:Ext w W) (Q:Option Addr) (qc:Nat) (q:List Int) (hq:RdI W Q q) (lq:q.length<=1000000000)=>ZeC i us Q qc q W (H.ext y) hc hq lq);have KR:=Hd (XT hc);have okn:=Hd (U5 hc);have n64:=Zgm hc;have RS:Hid (∀ q,okI i q->q.length<Zo i->Wn (YO i q)=ZB i q):=fun q ho hl=>JL hc ho hl
 have KN:Hid (∀ (q:List Int),okI i q->q.length<Zo i->(ZB i q).length<=64):=fun q ho hl=>by
  have:=Zcw hc q ho hl;have h2:=Zgm hc;split at this<;>omega
 rw[<-Zel (U5 hc) KR.out.len KR.out.kid tr];obtain⟨RES,hRES⟩:∃ R,Z1 (Zo i) (ZB i) tr [[]]=R:=⟨_,rfl⟩;have C0:Hid (ReadAt RES (Zo i) (ZB i) (tr.drop 0) [[]] []):=Hd (by rw[<-hRES,List.drop_zero];exact ReadAt.start _ _ _);rw[hRES];have O0:Hid (∀ q∈([[]]:List (List Int)),okI i q):=fun q hq=>by rw[List.mem_singleton.1 hq];exact okn.out
 unfold Vl at KI;have NO:Hid (RES=none->∀ (n er:Int) (e:Ending) (w':World),e=.returned (.tuple #[.slice none 0 0,.int .i64 n,.int .i64 er])->er≠0->Ext w w'->U7 RES w e w'):=Hd fun h n er e w' h1 h2 h3=>by rw[h];exact⟨n,er,h1,h2,h3⟩
 have YES:Hid (∀ (l:List Rec) (A:Option Addr) (c:Nat) (e:Ending) (w':World),RES=some l->e=.returned (.tuple #[.slice A l.length c,.int .i64 0,.int .i64 0])->RecSl w' w.heap.size 38 A c l->Ext w w'->U7 RES w e w'):=Hd fun l A c e w' h h1 h2 h3=>by rw[h];exact⟨A,c,h1,h2,h3⟩
 clear hc hRES;generalize Zo i=D at *;generalize ZB i=kd at *;obtain⟨A,a,B,b,Dd,d,rfl,-,-,-⟩:=H;obtain⟨kind,hkd⟩:∃ q,Hid (q=i.kind):=⟨_,rfl⟩;obtain⟨nn,hnn⟩:∃ q,Hid (q=i.n):=⟨_,rfl⟩;obtain⟨cap,hcap⟩:∃ q,Hid (q=i.cap):=⟨_,rfl⟩;obtain⟨lxw,hxw⟩:∃ q,Hid (q=i.weight.length):=⟨_,rfl⟩;obtain⟨lxv,hxv⟩:∃ q,Hid (q=i.value.length):=⟨_,rfl⟩;obtain⟨lco,hco⟩:∃ q,Hid (q=i.cost.length):=⟨_,rfl⟩;rw[<-hkd.out,<-hnn.out,<-hcap.out,<-hxw.out,<-hxv.out,<-hco.out] at DE KI ⊢;clear hkd hnn hcap hxw hxv hco;obtain⟨i0,hi,hz0,hz1,hz2⟩:=info_parts ZfV;replace hi:=Hd hi;replace hz0:=Hd hz0;replace hz1:=Hd hz1;replace hz2:=Hd hz2;obtain⟨r0,ri,rz0,rz1,rz2⟩:=info_parts Zcn;replace ri:=Hd ri;replace rz0:=Hd rz0;replace rz1:=Hd rz1;replace rz2:=Hd rz2;obtain⟨wb,hwb⟩:∃ wb,Hid (wb=w.alloc (.cells #[.int .i64 kind,.int .i64 nn,.int .i64 cap,.slice A lxw a,.slice B lxv b,.slice Dd lco d] 25)):=⟨_,rfl⟩;have XB:Hid (Ext w wb):=Hd (by rw[hwb.out];exact(Ext.rf w).alloc _);have B1:Hid (Blk wb w.heap.size 25 #[.int .i64 kind,.int .i64 nn,.int .i64 cap,.slice A lxw a,.slice B lxv b,.slice Dd lco d]):=Hd (by rw[hwb.out];exact .new rfl);have TRL:∀ a,a<tr.length->tr.drop a=(tr[a]?).getD 0::tr.drop (a+1):=fun a h=>by rw[List.drop_eq_getElem_cons h,List.getElem?_eq_getElem h];rfl
 replace TRL:=Hd TRL;have slen:(⟨tr.toArray⟩:ByteArray).size=tr.length:=by simp[ByteArray.size]
 have W0:Hid (WaitS wb.heap.size ((wb.alloc (.cells #[] 3)).alloc (.cells #[.slice (some ⟨wb.heap.size,0,none⟩) 0 0] 22)) (some ⟨wb.heap.size+1,0,none⟩) 1 1 [[]]):=WaitS.first (.new (by simp)) (.alloc (.new rfl) _) (by omega) (Nat.le_refl _);have V0:Hid (OwV wb wb.heap.size 38 2 none 0 0 []):=OwV.nil _ _ _ _;go_enter Tryz.func8,Tryz.ntmps8;go_upto_region 1 with(fail);rw[<-hwb.out];go_wp2_with (fail);go_loopw [4,5,6,7,8,9] (fun v4 v5 v6 v7 v8 v9 wr=>∃ (a:Nat) (WA:Option Addr) (n wc:Nat) (S:List (List Int)) (RA:Option Addr) (rn rc:Nat) (us:List Value) (al:List Rec),v9=.int .i64 a/\v7=.slice WA n wc/\v8=.slice RA rn rc/\v4=.slice none 0 0/\v5=.int .i64 0/\v6=.int .i64 0/\a<=tr.length/\n<=100*a+1/\rn<=a/\Hid (rn=al.length)/\Hid (RecsO wr wb.heap.size us al)/\Hid (WaitS wb.heap.size wr WA n wc S)/\Hid (OwV wr wb.heap.size 38 2 RA rn rc us)/\Hid (∀ q∈S,okI i q)/\Hid (ReadAt RES D kd (tr.drop a) S al)/\Hid (Ext wb wr)) (fun _ _ _ _ _ v9 _=>tr.length-(intOf v9).toNat)
 case atStart=>exact⟨0,_,1,1,[[]],none,0,0,[],[],rfl,rfl,rfl,rfl,rfl,rfl,by omega,by omega,by omega,Hd rfl,Hd (RecsO.nil _ _),W0.out.ext XI,V0.out.ext XI,O0,C0,XI⟩
 case round =>
  obtain⟨wo,rfl⟩:=Wq wr;clear W0 O0 C0 V0;obtain⟨at_,WA,n,wc,S,RA,rn,rc,rs,al,rfl,rfl,rfl,rfl,rfl,rfl,hat,hn9,hrn,hal,RO,WS,OV,OS,CS,YB⟩:=hrel
  cases S with
  | nil =>
   obtain rfl:n=0:=(WS.out.len).1
   by_cases ha2:at_<tr.length
   ·have RN:RES=none:=by have h:=CS.out;rw[TRL.out at_ ha2] at h;exact h.tail
    replace RN:=Hd RN;have i1:(at_:Int)<(tr.length:Int):=by omega
    go_wp2_with (go_quiet (fail));go_ret3;exact NO.out RN.out _ 7 _ _ rfl (by decide) (XB.out.tr (YB.out.tr XI))
   ·have RS:RES=some al:=by have h:=CS.out;rw[List.drop_of_length_le (by omega)] at h;exact h.fin
    replace RS:=Hd RS;have i1:¬(at_:Int)<(tr.length:Int):=by omega
    obtain rfl:=hal.out;have zb:=XB.out.size;go_wp2_with (fail);go_ret3;exact YES.out al RA rc _ _ RS.out rfl ⟨rs,OwV.more (OV.out.ext XI) zb,RecsO.more (RO.out.ext XI) zb⟩ (XB.out.tr (YB.out.tr XI))
  | cons p S' =>
   obtain⟨gW,PA,pc,us,hnS,rfl,cW,oP,rU,lU,oU,kU⟩:=WS.out.top;have WL:=WS.out.len;have zW:=World.block_lt_of_cell? _ _ cW;obtain⟨k0,hk0⟩:∃ k0:Nat,Hid (S'.length=k0):=⟨_,rfl⟩;rw[hk0.out] at cW rU lU oU kU hnS;obtain rfl:n=k0+1:=hnS;have hkc:k0<=wc:=by omega
   replace oP:=Hd oP;replace rU:=Hd rU;replace lU:=Hd lU;replace oU:=Hd oU;replace kU:=Hd kU;have zo:=YB.out.size;have q1:(0:Int)<((k0+1:Nat):Int):=by omega
   have q2:((k0+1:Nat):Int)-1=(k0:Int):=by omega
   have q3:(k0:Int)<((k0+1:Nat):Int):=by omega
   have q4:(0:Int)<=(k0:Int):=by omega
   have q5:(k0:Int)<=(wc:Int):=by omega
   have k9:(k0:Int)<=100000:=by omega
   clear WL;have okp:=OS.out p (by simp);have lpD:=KR.out.len p okp
   by_cases hal2:at_=tr.length
   ·have RN:RES=none:=by have h:=CS.out;rw[hal2,List.drop_length] at h;exact h.short
    replace RN:=Hd RN;have e1:((at_:Int)==(tr.length:Int))=true:=by simp[hal2]
    clear hal2 CS WS OV;go_wp2_with (go_quiet (fail));go_ret3;exact NO.out RN.out _ 6 _ _ rfl (by decide) (XB.out.tr (YB.out.tr XI))
   replace hal2:at_<tr.length:=by omega
   have e1:((at_:Int)==(tr.length:Int))=false:=by simp;omega
   have CT:=CS.out;rw[TRL.out at_ hal2] at CT;obtain⟨ch,hch⟩:∃ ch,Hid ((tr[at_]?).getD 0=ch):=⟨_,rfl⟩;rw[hch.out] at CT;replace CT:=Hd CT;replace okp:=Hd okp;clear CS;go_upto_region 13 with(at_builtin;refine ZU _ (e:=22) Tryz.underlying23 hi.out hz0.out hz1.out hz2.out (by simp[Value.cells]) (by omega) rfl _ _ rfl wb.heap.size (some ⟨wo.heap.size,0,none⟩) 0 0 [] (some ⟨gW,0,none⟩) k0 wc (us.take k0) rfl rfl (OwV.full (.new rfl) zo rfl (by simp[maxLen])) (rU.out.ext ((Ext.rf _).alloc _)) (by rw[lU.out];simp) kU.out (by simp only[maxLen];omega) (by omega) (by simp;omega) ?_;rintro WA2 wc2 w2 oW2 gW2 _);rw[Nat.zero_add] at oW2;have Y2:Ext wb w2:=Ext.grow (a:=wb) (YB.out.alloc _) gW2 (fun z hz=>by simp[bl] at hz;omega);have M2:ModT wb.heap.size [22] (wo.alloc (.cells #[] 22)) w2:=(OwV.full (w:=wo.alloc (.cells #[] 22)) (base:=wb.heap.size) (n:=0) (size:=1) (e:=22) (g:=wo.heap.size) (cs:=#[]) (.new rfl) zo rfl (by simp[maxLen])).grownT gW2;have WS2:Hid (WaitS wb.heap.size w2 WA2 k0 wc2 S'):=⟨_,by simpa using oW2,((oU.out.ext ((Ext.rf _).alloc _)).modT M2 (by decide))⟩;have oP2:Hid (OwI w2 wb.heap.size PA pc p):=(oP.out.ext ((Ext.rf _).alloc _)).modT M2 (by decide);replace Y2:=Hd Y2;have MV:=Hd M2;clear oW2 gW2 M2 oU rU kU lU cW oP WS zW;have OV2:Hid (OwV w2 wb.heap.size 38 2 RA rn rc rs):=(OV.out.ext ((Ext.rf _).alloc _)).modT MV (by decide);have RO2:Hid (RecsO w2 wb.heap.size rs al):=Hd ((RO.out.ext ((Ext.rf _).alloc _)).modT MV (by decide));have BB2:=Hd (B1.out.ext Y2.out);clear MV OV RO;have d0:=BB2.out.c0;have d1:=BB2.out.c1;have d2:=BB2.out.c2;have d3:=BB2.out.c3;have d4:=BB2.out.c4;have d5:=BB2.out.c5;go_wp2_with (fail);refine(DE.out _ (XB.out.tr (Y2.out.tr XI))).mono ?_;rintro e w4 ⟨rfl,x4⟩;have X4:=Hd (Ext.tr (a:=w2) XI x4);have Y4:=Hd (Y2.out.tr X4.out);have WS4:=Hd (WS2.out.ext X4.out);have oP4:=Hd (oP2.out.ext X4.out);have OV4:=Hd (OV2.out.ext X4.out);have RO4:=Hd (RO2.out.ext X4.out);have BB4:=Hd (B1.out.ext Y4.out);clear x4 X4 WS2 oP2 BB2 Y2 OV2 RO2 d0 d1 d2 d3 d4 d5;have hsz:at_<(⟨tr.toArray⟩:ByteArray).size:=by rw[slen];exact hal2
   have E0:(⟨tr.toArray⟩:ByteArray)[at_]'hsz=ch:=by
    have h:=hch.out;rw[List.getElem?_eq_getElem hal2] at h;exact h
   have i1:(at_:Int)<(tr.length:Int):=by omega
   have z4:=Y4.out.size;have rn9:rn<=1000:=by omega
   by_cases h112:ch=112
   ·subst h112
    have OS2:Hid (∀ q∈S',okI i q):=fun q hq=>OS.out q (by simp[hq])
    have CT2:=Hd (CT.out.pr)
    try replace hw:=Hd hw
    clear CT;go_wp2_with (at_builtin;refine ZU _ (e:=38) Tryz.underlying34 ri.out rz0.out rz1.out rz2.out (by simp[Value.cells]) (by omega) rfl _ _ rfl wb.heap.size RA rn rc rs (some ⟨w4.heap.size,0,none⟩) 1 1 [.int .i64 1,.slice PA p.length pc] rfl rfl (OV4.out.ext ((Ext.rf _).alloc _)) (RdV.blk (.new (by simp))).rdC (by simp) (by simp[Value.oneCell']) (by simp only[maxLen];omega) (by omega) (by simp;omega) ?_;rintro RB rc2 w6 oR gR _);have Y6:Ext wb w6:=Ext.grow (a:=wb) (Y4.out.alloc _) gR (fun z hz=>(OV4.out.lt z hz).1);have M6:ModT wb.heap.size [38] (w4.alloc (.cells #[.int .i64 1,.slice PA p.length pc] 38)) w6:=(OV4.out.ext ((Ext.rf w4).alloc (.cells #[.int .i64 1,.slice PA p.length pc] 38))).grownT gR;have OV6:Hid (OwV w6 wb.heap.size 38 2 RB (rn+1) rc2 (rs++[.int .i64 1,.slice PA p.length pc])):=oR;have WS6:Hid (WaitS wb.heap.size w6 WA2 k0 wc2 S'):=by
     obtain⟨us6,q1,q2⟩:=WS4.out;exact⟨us6,(q1.ext ((Ext.rf _).alloc _)).modT M6 (by decide),(q2.ext ((Ext.rf _).alloc _)).modT M6 (by decide)⟩
    have oP6:Hid (OwI w6 wb.heap.size PA pc p):=(oP4.out.ext ((Ext.rf _).alloc _)).modT M6 (by decide);have RO6:Hid (RecsO w6 wb.heap.size (rs++[.int .i64 1,.slice PA p.length pc]) (al++[⟨1,p⟩])):=Hd (((RO4.out.ext ((Ext.rf _).alloc _)).modT M6 (by decide)).snoc (r:=⟨1,p⟩) oP6.out);have hal6:Hid (rn+1=(al++[(⟨1,p⟩:Rec)]).length):=Hd (by rw[List.length_append,<-hal.out];rfl);have BB6:=Hd (B1.out.ext Y6);replace Y6:=Hd Y6;clear oR gR M6;have LN:=(WS6.out.len).1;have LN2:k0<=100*(at_+1)+1:=by omega
    replace LN:=Hd LN;go_wp2_with (fail);go_roundw
    case rel=>exact⟨at_+1,WA2,k0,wc2,S',RB,rn+1,rc2,_,al++[⟨1,p⟩],by go_num,rfl,rfl,rfl,rfl,rfl,by omega,LN2,by omega,hal6,Hd (RO6.out.ext XI),WS6.out.ext XI,OV6.out.ext XI,OS2,CT2,Y6.out.tr XI⟩
    case measure=>simp[intOf];omega
   ·have n112:((ch.toNat:Int)==112)=false:=by
     have:ch.toNat≠112:=fun h=>h112 (UInt8.toNat_inj.1 h)
     simp;omega
    by_cases h98:ch=98
    ·subst h98
     by_cases hw:p.length=D
     ·have e2:((p.length:Int)==(D:Int))=true:=by simp[hw]
      have RN:=CT.out.b_no hw;replace RN:=Hd RN
      try replace hw:=Hd hw
      clear CT;go_wp2_with (go_quiet (fail));go_ret3;exact NO.out RN.out _ 8 _ _ rfl (by decide) (XB.out.tr (Y4.out.tr XI))
     ·have e2:((p.length:Int)==(D:Int))=false:=by simp;omega
      have CT2:=Hd (CT.out.b hw);have hplt:p.length<D:=by omega
      have KN1:=KN.out p okp.out hplt;have RS1:=RS.out p okp.out hplt;have KD:Hid (∀ n∈kd p,okI i (p++[n])):=fun n hn=>KR.out.kid p okp.out hplt n hn
      have KI1:=Hd (fun(W:World) (y:Ext w W) (Q:Option Addr) (qc:Nat) (hq:RdI W Q p)=>KI.out W y Q qc p hq (by omega));obtain⟨lr0,hlr⟩:∃ l,Hid (YO i p=l):=⟨_,rfl⟩;rw[hlr.out] at RS1 KI1;have RI9:=fun(P:Option Addr) (pc:Nat) (W:World) (x:RdI W P lr0)=>ZfT P pc lr0 W x (by rw[<-QF,RS1];omega)
      rw[RS1] at RI9;unfold ZiL at RI9;replace RI9:=Hd RI9;obtain⟨l,hl⟩:∃ l,Hid (kd p=l):=⟨_,rfl⟩;rw[hl.out] at CT2 KN1 KD RI9;replace hplt:=Hd hplt;replace hw:=Hd hw;clear CT hl hlr RS1;go_upto_region 22 with(at_builtin;refine ZU _ (e:=38) Tryz.underlying34 ri.out rz0.out rz1.out rz2.out (by simp[Value.cells]) (by omega) rfl _ _ rfl wb.heap.size RA rn rc rs (some ⟨w4.heap.size,0,none⟩) 1 1 [.int .i64 2,.slice PA p.length pc] rfl rfl (OV4.out.ext ((Ext.rf _).alloc _)) (RdV.blk (.new (by simp))).rdC (by simp) (by simp[Value.oneCell']) (by simp only[maxLen];omega) (by omega) (by simp;omega) ?_;rintro RB rc2 w6 oR gR _);have Y6:Ext wb w6:=Ext.grow (a:=wb) (Y4.out.alloc _) gR (fun z hz=>(OV4.out.lt z hz).1);have M6:ModT wb.heap.size [38] (w4.alloc (.cells #[.int .i64 2,.slice PA p.length pc] 38)) w6:=(OV4.out.ext ((Ext.rf w4).alloc (.cells #[.int .i64 2,.slice PA p.length pc] 38))).grownT gR;have OV6:Hid (OwV w6 wb.heap.size 38 2 RB (rn+1) rc2 (rs++[.int .i64 2,.slice PA p.length pc])):=oR;have WS6:Hid (WaitS wb.heap.size w6 WA2 k0 wc2 S'):=by
       obtain⟨us6,q1,q2⟩:=WS4.out;exact⟨us6,(q1.ext ((Ext.rf _).alloc _)).modT M6 (by decide),(q2.ext ((Ext.rf _).alloc _)).modT M6 (by decide)⟩
      have oP6:Hid (OwI w6 wb.heap.size PA pc p):=(oP4.out.ext ((Ext.rf _).alloc _)).modT M6 (by decide);have RO6:Hid (RecsO w6 wb.heap.size (rs++[.int .i64 2,.slice PA p.length pc]) (al++[⟨2,p⟩])):=Hd (((RO4.out.ext ((Ext.rf _).alloc _)).modT M6 (by decide)).snoc (r:=⟨2,p⟩) oP6.out);have hal6:Hid (rn+1=(al++[(⟨2,p⟩:Rec)]).length):=Hd (by rw[List.length_append,<-hal.out];rfl);have BB6:=Hd (B1.out.ext Y6);replace Y6:=Hd Y6;clear oR gR M6;clear OV4 WS4 oP4 Y4 z4 BB4 RO4;have d0:=BB6.out.c0;have d1:=BB6.out.c1;have d2:=BB6.out.c2;have d3:=BB6.out.c3;have d4:=BB6.out.c4;have d5:=BB6.out.c5;go_wp2_with (fail);refine(KI1.out _ (XB.out.tr (Y6.out.tr XI)) PA pc (oP6.out.read.ext XI)).mono ?_;rintro e w7 ⟨KA,kc,ker,rfl,rK,x7⟩;have X7:=Hd (Ext.tr (a:=w6) XI x7);replace rK:=Hd rK;clear x7 d0 d1 d2 d3 d4 d5;go_wp2_with (fail);refine(RI9.out KA kc _ (rK.out.ext XI)).mono ?_;rintro e w5 ⟨LA,lc,rfl,oL,x5⟩;have X5:=Hd (X7.out.tr (Ext.tr XI x5));have z7:=(Y6.out.tr X7.out).size;have Y5:=Hd (Y6.out.tr X5.out);have WS5:Hid (WaitS wb.heap.size w5 WA2 k0 wc2 ((l.drop l.length).map (fun x=>p++[x])++S')):=Hd (by
       rw[List.drop_length];exact WS6.out.ext X5.out)
      have oP5:=Hd (oP6.out.ext X5.out);have OV5:=Hd (OV6.out.ext X5.out);have RO5:=Hd (RO6.out.ext X5.out);have oL5:Hid (OwI w5 wb.heap.size LA lc l):=oL.more (by first | exact z7 | (simp;exact z7));have J0:Hid (((l.length:Int)-1)=(l.length:Int)-1):=rfl;clear x5 X5 X7 rK oL WS6 oP6 OV6 RO6 BB6 Y6 z7;have ll64:(l.length:Int)<=64:=by omega
      obtain⟨rs2,hrs2⟩:∃ rs2:List Value,Hid (rs++[Value.int .i64 2,Value.slice PA p.length pc]=rs2):=⟨_,rfl⟩;rw[hrs2.out] at OV5 RO5;clear hrs2;obtain⟨al2,hal2'⟩:∃ al2:List Rec,Hid (al++[⟨2,p⟩]=al2):=⟨al++[⟨2,p⟩],Hd rfl⟩;rw[hal2'.out] at RO5 hal6 CT2;clear hal2';go_wp2_with (fail);go_loopw [7,14] (fun v11 v18 wr=>∃ (j:Int) (t:Nat) (WA':Option Addr) (n' wc':Nat),v18=.int .i64 j/\v11=.slice WA' n' wc'/\Hid (j=(t:Int)-1)/\t<=l.length/\Hid (WaitS wb.heap.size wr WA' n' wc' ((l.drop t).map (fun x=>p++[x])++S'))/\Hid (OwI wr wb.heap.size PA pc p)/\Hid (OwI wr wb.heap.size LA lc l)/\Hid (OwV wr wb.heap.size 38 2 RB (rn+1) rc2 rs2)/\Hid (RecsO wr wb.heap.size rs2 al2)/\Hid (Ext wb wr)) (fun _ v18 _=>(intOf v18+1).toNat)
      case atStart=>exact⟨(l.length:Int)-1,l.length,WA2,k0,wc2,by go_num,rfl,rfl,by omega,WS5.out.ext XI,oP5.out.ext XI,oL5.out.ext XI,OV5.out.ext XI,RO5.out.ext XI,Y5.out.tr XI⟩
      case round =>
       obtain⟨wi,rfl⟩:=Wq wr;clear WS5 oP5 oL5 J0 Y5 OV5 RO5;obtain⟨j,t,WA',n',wc',rfl,rfl,hj,ht,WI,oP,oL,OVi,ROi,YB2⟩:=hrel;have LNI:=(WI.out.len).1;rw[List.length_append,List.length_map,List.length_drop,hk0.out] at LNI;have hn9':n'<=100*at_+65:=by omega
       by_cases ht0:t=0
       ·subst ht0
        obtain rfl:j=-1:=by have h:=hj.out;simpa using h
        have WI2:Hid (WaitS wb.heap.size wi WA' n' wc' (l.map (fun x=>p++[x])++S')):=WI;have OS3:Hid (∀ q∈l.map (fun n=>p++[n])++S',okI i q):=fun q hq=>by
         rcases List.mem_append.1 hq with h | h
         ·obtain⟨n,hn,rfl⟩:=List.mem_map.1 h
          exact KD.out n hn
         ·exact OS.out q (by simp[h])
        have CT3:=CT2;obtain⟨SS,hSS⟩:∃ SS,Hid (l.map (fun n=>p++[n])++S'=SS):=⟨_,rfl⟩;rw[hSS.out] at WI2 OS3 CT3;clear WI CT2 hSS LNI;have LN:=(WI2.out.len).1;have LN2:n'<=100*(at_+1)+1:=by omega
        replace LN:=Hd LN;go_wp2_with (fail);go_roundw
        case rel=>exact⟨at_+1,WA',n',wc',SS,RB,rn+1,rc2,_,al2,by go_num,rfl,rfl,rfl,rfl,rfl,by omega,LN2,by omega,hal6,Hd (ROi.out.ext XI),WI2.out.ext XI,OVi.out.ext XI,OS3,CT3,YB2.out.tr XI⟩
        case measure=>simp[intOf];omega
       ·obtain⟨t,rfl⟩:∃ s,t=s+1:=⟨t-1,by omega⟩
        obtain rfl:j=(t:Int):=by have h:=hj.out;omega
        have htl:t<l.length:=by omega
        obtain⟨lb,lo,x,rfl,zl,cl,el,dl⟩:=oL.out.read.at (k:=t) htl;have EQ:Hid ((p++[x])::((l.drop (t+1)).map (fun x=>p++[x])++S')=(l.drop t).map (fun x=>p++[x])++S'):=Hd (by rw[dl.out];rfl);have q1:(t:Int)<(l.length:Int):=by omega
        have q2:(0:Int)<=(t:Int):=by omega
        have lp64:p.length<=64:=by omega
        have YB:=YB2;obtain⟨SQ,hSQ⟩:∃ SQ,Hid ((l.drop (t+1)).map (fun x=>p++[x])++S'=SQ):=⟨_,rfl⟩;rw[hSQ.out] at WI EQ;clear el dl hSQ LNI hj ht0;obtain⟨wus',RI,OI⟩:=WI.out;obtain⟨r,hr⟩:∃ r,Hid (r=p++[x]):=⟨p++[x],rfl⟩;have lr:r.length=p.length+1:=by rw[hr.out];simp
        have zi:=YB.out.size;replace RI:=Hd RI;replace OI:=Hd OI;go_upto_region 27 with(fail);refine wp_region_any (by kernel_rfl) ?_
        change wpAny _ _ _ _ _ _ _ (World.drew _)
        refine Zc (i:=0) (op:=Op.move (Operand.tmp 7)) (t:=23) (d:=some 86) (v:=_) rfl (by decide +kernel) (fun _ _ _ h=>h) (by intro _;unfold Ze;go_simp;try with_reducible rfl) ?_
        try simp only[lay]
        refine Zc (i:=2) (op:=Op.move (Operand.tmp 10)) (t:=22) (d:=some 88) (v:=_) rfl (by decide +kernel) (fun _ _ _ h=>h) (by intro _;unfold Ze;go_simp;try with_reducible rfl) ?_
        try simp only[lay]
        refine Zc (i:=4) (op:=Op.move (Operand.tmp 12)) (t:=22) (d:=some 90) (v:=_) rfl (by decide +kernel) (fun _ _ _ h=>h) (by intro _;unfold Ze;go_simp;try with_reducible rfl) ?_
        try simp only[lay]
        refine Zc (i:=5) (op:=Op.move (Operand.tmp 14)) (t:=3) (d:=some 91) (v:=_) rfl (by decide +kernel) (fun _ _ _ h=>h) (by intro _;unfold Ze;go_simp;try with_reducible rfl) ?_
        try simp only[lay]
        refine Zc (i:=6) (op:=Op.indexAddr 22 (Operand.tmp 90) (Operand.tmp 91)) (t:=0) (d:=some 92) (v:=_) rfl (by decide +kernel) (fun _ _ _ h=>h) (by intro _;unfold Ze;go_simp;try with_reducible rfl) ?_
        try simp only[lay]
        refine Zd6 (n:=2) [(1,some 87),(3,some 89),(7,some 93),(8,some 94),(9,some 95),(10,some 96)] (fun | 1=>[3] | 3=>[9] | 8=>[9] | 9=>[10] | _=>[]) (Ext wi)
         (VF (fun | 7=>some (.int .i64 x) | _=>none)
          (fun j v W=>(j=1->∃ g,v=.slice (some ⟨g,0,none⟩) 0 0/\wi.heap.size<=g/\Blk W g 3 #[])/\(j=3->∃ A c,v=.slice A p.length c/\OwI W wi.heap.size A c p)/\(j=8->∃ h,v=.slice (some ⟨h,0,none⟩) 1 1/\Blk W h 3 #[.int .i64 x])/\(j=9->∃ A c,v=.slice A r.length c/\OwI W wi.heap.size A c r)/\(j=10->∃ h A c,v=.slice (some ⟨h,0,none⟩) 1 1/\Blk W h 22 #[.slice A r.length c]/\OwI W wi.heap.size A c r)))
         (fun i W W'=>if i=9 then ModT wi.heap.size [3] W W' else Ext W W') #[true,true,true,true,true,true,true,true,true,true,true,false,false] (by kernel_rfl) (by kernel_rfl) ?_ ?_ ?_ ((Ext.rf _).drew)
        ·intro i j v W W' hkp hv hs
         refine VF.stab1 (fun _ ⟨g1,g3,g8,g9,g10⟩=>?_) hv
         by_cases hi:i=9
         ·subst hi
          rw[if_pos rfl] at hs;refine⟨fun h=>?_,fun h=>?_,fun h=>?_,fun h=>?_,fun h=>?_⟩
          all_goals (subst h;exact absurd hkp (by decide +kernel))
         ·rw[if_neg hi] at hs
          refine⟨fun h=>?_,fun h=>?_,fun h=>?_,fun h=>?_,fun h=>?_⟩
          ·obtain⟨g,q1,q2,q3⟩:=g1 h
           exact⟨g,q1,q2,q3.ext hs⟩
          ·obtain⟨A',c',q1,q2⟩:=g3 h
           exact⟨A',c',q1,q2.ext hs⟩
          ·obtain⟨h',q1,q2⟩:=g8 h
           exact⟨h',q1,q2.ext hs⟩
          ·obtain⟨A',c',q1,q2⟩:=g9 h
           exact⟨A',c',q1,q2.ext hs⟩
          ·obtain⟨h',A',c',q1,q2,q3⟩:=g10 h
           exact⟨h',A',c',q1,q2.ext hs,q3.ext hs⟩
        ·intro pq hpm u W hRW hD K hK
         have z2:=hRW.size;simp only[List.mem_cons,List.not_mem_nil,or_false] at hpm;rcases hpm with rfl | rfl | rfl | rfl | rfl | rfl
         ·exact ZjJ rfl _ (ZiM _) (hK _ _ (VF.mg rfl ⟨fun _=>⟨_,rfl,z2,.new rfl⟩,(fun h=>by cases h),(fun h=>by cases h),(fun h=>by cases h),(fun h=>by cases h)⟩) (hRW.alloc _) (by rw[if_neg (by decide)];exact(Ext.rf _).alloc _))
         ·obtain⟨g,h1,zg,bg⟩:=((hD 1 (Zp (by kernel_rfl))).g rfl).1 rfl
          obtain⟨A3,c3,w3,hr3,o3,x3⟩:=Qc W wi.heap.size 22 g p PA pc bg zg (oP.out.read.ext hRW) (by omega);exact WQ rfl (.slice (some ⟨g,0,none⟩) 0 0) (.slice PA p.length pc) (Eq.trans (b:=u 1) (by kernel_rfl) h1) (by kernel_rfl) _ hr3 (hK _ _ (VF.mg rfl ⟨(fun h=>by cases h),fun _=>⟨A3,c3,rfl,o3⟩,(fun h=>by cases h),(fun h=>by cases h),(fun h=>by cases h)⟩) (hRW.tr x3) (by rw[if_neg (by decide)];exact x3))
         ·have r1:=Zd hRW zl cl
          exact Zv (T:=3) rfl (.pointer (some ⟨lb,lo+t,none⟩)) (by kernel_rfl) (.int .i64 x) (by go_simp) (hK _ _ (VF.mk rfl) hRW (by rw[if_neg (by decide)];exact Ext.rf _))
         ·have h7:=(hD 7 (Zp (by kernel_rfl))).k rfl
          exact Vw rfl _ (Eq.trans (b:=u 7) (by kernel_rfl) h7) _ (ZiN _ _) (hK _ _ (VF.mg rfl ⟨(fun h=>by cases h),(fun h=>by cases h),fun _=>⟨_,rfl,.new rfl⟩,(fun h=>by cases h),(fun h=>by cases h)⟩) (hRW.alloc _) (by rw[if_neg (by decide)];exact(Ext.rf _).alloc _))
         ·obtain⟨A3,c3',h3,o3⟩:=((hD 3 (Zp (by kernel_rfl))).g rfl).2.1 rfl
          obtain⟨g8,h8,b8⟩:=((hD 8 (Zp (by kernel_rfl))).g rfl).2.2.1 rfl;obtain⟨A7,c7,w7',hrun,o7,g7,-⟩:=Wa W wi.heap.size 22 A3 p.length c3' p [x] (some ⟨g8,0,none⟩) 1 rfl o3 (.blk b8 rfl) (by simp;omega) hRW.size;have x7:Ext wi w7':=hRW.grow g7 (fun k hk=>(o3.lt k hk).1);have M7:ModT wi.heap.size [3] W w7':=OwV.grownT (n:=p.length) (show OwV W wi.heap.size 3 1 A3 p.length c3' (p.map (Value.int .i64)) from o3) g7;rw[<-hr.out] at hrun o7;exact WQ rfl (.slice A3 p.length c3') (.slice (some ⟨g8,0,none⟩) 1 1) (Eq.trans (b:=u 3) (by kernel_rfl) h3) (Eq.trans (b:=u 8) (by kernel_rfl) h8) _ hrun (hK _ _ (VF.mg rfl ⟨(fun h=>by cases h),(fun h=>by cases h),(fun h=>by cases h),fun _=>⟨A7,c7,rfl,o7⟩,(fun h=>by cases h)⟩) x7 (by rw[if_pos rfl];exact M7))
         ·obtain⟨A7,c7,h7,o7⟩:=((hD 9 (Zp (by kernel_rfl))).g rfl).2.2.2.1 rfl
          exact Vw rfl _ (Eq.trans (b:=u 9) (by kernel_rfl) h7) _ (ZiO _ _ _ _) (hK _ _ (VF.mg rfl ⟨(fun h=>by cases h),(fun h=>by cases h),(fun h=>by cases h),(fun h=>by cases h),fun _=>⟨_,A7,c7,rfl,.new rfl,o7.ext ((Ext.rf _).alloc _)⟩⟩) (hRW.alloc _) (by rw[if_neg (by decide)];exact(Ext.rf _).alloc _))
        ·intro u w8 hRW hV
         obtain⟨h12,A7,c7,h12e,b12,o7⟩:=((hV (10,some 96) (by simp) rfl).g rfl).2.2.2.2 rfl;simp only[Zn,h12e];have o2:=RI.out.ext hRW;obtain⟨A4,c4,w4,hrun,o4,g4,a4⟩:=VB w8 (e:=22) Tryz.underlying23 hi.out hz0.out hz1.out hz2.out (by simp[Value.cells]) (by omega) wb.heap.size 23 WA' n' wc' wus' (some ⟨h12,0,none⟩) 1 1 [.slice A7 r.length c7] o2 ((RdV.blk b12).rdC) (by simp) (by simp[Value.oneCell']) (by simp only[maxLen];omega) (by omega) (YB.out.tr hRW).size;have M4:=o2.grownT g4;have X4:Hid (Ext wb w4):=(YB.out.tr hRW).grow g4 (fun z hz=>(o2.lt z hz).1);have L4:Hid (OwI w4 wb.heap.size (some ⟨lb,lo,none⟩) lc l):=(oL.out.ext hRW).modT M4 (by decide);have P4:Hid (OwI w4 wb.heap.size PA pc p):=(oP.out.ext hRW).modT M4 (by decide);have HI2:Hid (WaitS wb.heap.size w4 A4 (n'+1) c4 ((p++[x])::SQ)):=by
          refine⟨_,o4,?_⟩;rw[List.reverse_cons,<-hr.out];exact((OI.out.ext hRW).modT M4 (by decide)).snoc ((o7.modT M4 (by decide)).more (by omega))
         have OV9:Hid (OwV w4 wb.heap.size 38 2 RB (rn+1) rc2 rs2):=(OVi.out.ext hRW).modT M4 (by decide);have RO9:Hid (RecsO w4 wb.heap.size rs2 al2):=Hd ((ROi.out.ext hRW).modT M4 (by decide));clear h12e hV o7 b12 o2 g4 a4 o4 M4 hRW RI OI;refine Zl 11 (by kernel_rfl) (WQ rfl (.slice WA' n' wc') (.slice (some ⟨h12,0,none⟩) 1 1) (by kernel_rfl) (by kernel_rfl) _ hrun ?_);clear hrun
         try simp only[lay]
         refine Zc (i:=12) (op:=Op.assign (Operand.tmp 97)) (t:=23) (d:=some 7) (v:=_) rfl (by decide +kernel) (fun _ _ _ h=>h) (by intro _;unfold Ze;go_simp;try with_reducible rfl) ?_
         try simp only[lay]
         refine wpAny_done (by kernel_rfl) ?_ _;clear cl;go_simp;rw[EQ.out] at HI2;clear YB2 YB;go_wp2_with (fail);go_roundw
         case rel=>exact⟨(t:Int)-1,t,A4,n'+1,c4,by go_num,rfl,rfl,by omega,HI2.out.ext XI,P4.out.ext XI,L4.out.ext XI,OV9.out.ext XI,RO9.out.ext XI,X4.out.tr XI⟩
         case measure=>simp[intOf]
    ·have n98:((ch.toNat:Int)==98)=false:=by
      have:ch.toNat≠98:=fun h=>h98 (UInt8.toNat_inj.1 h)
      simp;omega
     by_cases h108:ch=108
     ·subst h108
      by_cases hw:p.length=D
      ·have e2:((p.length:Int)==(D:Int))=true:=by simp[hw]
       have OS2:Hid (∀ q∈S',okI i q):=fun q hq=>OS.out q (by simp[hq])
       have CT2:=Hd (CT.out.l hw)
       try replace hw:=Hd hw
       clear CT;go_wp2_with (at_builtin;refine ZU _ (e:=38) Tryz.underlying34 ri.out rz0.out rz1.out rz2.out (by simp[Value.cells]) (by omega) rfl _ _ rfl wb.heap.size RA rn rc rs (some ⟨w4.heap.size,0,none⟩) 1 1 [.int .i64 3,.slice PA p.length pc] rfl rfl (OV4.out.ext ((Ext.rf _).alloc _)) (RdV.blk (.new (by simp))).rdC (by simp) (by simp[Value.oneCell']) (by simp only[maxLen];omega) (by omega) (by simp;omega) ?_;rintro RB rc2 w6 oR gR _);have Y6:Ext wb w6:=Ext.grow (a:=wb) (Y4.out.alloc _) gR (fun z hz=>(OV4.out.lt z hz).1);have M6:ModT wb.heap.size [38] (w4.alloc (.cells #[.int .i64 3,.slice PA p.length pc] 38)) w6:=(OV4.out.ext ((Ext.rf w4).alloc (.cells #[.int .i64 3,.slice PA p.length pc] 38))).grownT gR;have OV6:Hid (OwV w6 wb.heap.size 38 2 RB (rn+1) rc2 (rs++[.int .i64 3,.slice PA p.length pc])):=oR;have WS6:Hid (WaitS wb.heap.size w6 WA2 k0 wc2 S'):=by
        obtain⟨us6,q1,q2⟩:=WS4.out;exact⟨us6,(q1.ext ((Ext.rf _).alloc _)).modT M6 (by decide),(q2.ext ((Ext.rf _).alloc _)).modT M6 (by decide)⟩
       have oP6:Hid (OwI w6 wb.heap.size PA pc p):=(oP4.out.ext ((Ext.rf _).alloc _)).modT M6 (by decide);have RO6:Hid (RecsO w6 wb.heap.size (rs++[.int .i64 3,.slice PA p.length pc]) (al++[⟨3,p⟩])):=Hd (((RO4.out.ext ((Ext.rf _).alloc _)).modT M6 (by decide)).snoc (r:=⟨3,p⟩) oP6.out);have hal6:Hid (rn+1=(al++[(⟨3,p⟩:Rec)]).length):=Hd (by rw[List.length_append,<-hal.out];rfl);have BB6:=Hd (B1.out.ext Y6);replace Y6:=Hd Y6;clear oR gR M6;have LN:=(WS6.out.len).1;have LN2:k0<=100*(at_+1)+1:=by omega
       replace LN:=Hd LN;go_wp2_with (fail);go_roundw
       case rel=>exact⟨at_+1,WA2,k0,wc2,S',RB,rn+1,rc2,_,al++[⟨3,p⟩],by go_num,rfl,rfl,rfl,rfl,rfl,by omega,LN2,by omega,hal6,Hd (RO6.out.ext XI),WS6.out.ext XI,OV6.out.ext XI,OS2,CT2,Y6.out.tr XI⟩
       case measure=>simp[intOf];omega
      ·have e2:((p.length:Int)==(D:Int))=false:=by simp;omega
       have RN:=CT.out.l_no hw;replace RN:=Hd RN
       try replace hw:=Hd hw
       clear CT;go_wp2_with (go_quiet (fail));go_ret3;exact NO.out RN.out _ 8 _ _ rfl (by decide) (XB.out.tr (Y4.out.tr XI))
     ·have n108:((ch.toNat:Int)==108)=false:=by
       have:ch.toNat≠108:=fun h=>h108 (UInt8.toNat_inj.1 h)
       simp;omega
      obtain⟨wh,hwh⟩:∃ wh:Bool,((p.length:Int)==(D:Int))=wh:=⟨_,rfl⟩;have RN:=CT.out.no h98 h108 h112;replace RN:=Hd RN
      try replace hw:=Hd hw
      clear CT;go_wp2_with (go_quiet (fail));go_ret3;exact NO.out RN.out _ 2 _ _ rfl (by decide) (XB.out.tr (Y4.out.tr XI))
end
section
theorem ZiP : ∀ (p q:List Int),ahd p q=false->ahd q p=false->p=q
 | [],[],_,_=>rfl
 | [],_::_,h,_=>by simp[ahd] at h
 | _::_,[],_,h=>by simp[ahd] at h
 | x::p,y::q,h1,h2=>by
  have e:x=y:=by
   rcases Int.lt_trichotomy x y with h | h | h
   ·rw[ahd,if_neg (by omega),decide_eq_true h] at h1;cases h1
   ·exact h
   ·rw[ahd,if_neg (by omega),decide_eq_true h] at h2;cases h2
  subst e;rw[ahd,if_pos rfl] at h1 h2;rw[ZiP p q h1 h2]
theorem ZiQ (r q:Rec) : decide (r=q)=(!(r.kind != q.kind)&&(!(ahd r.path q.path) && !(ahd q.path r.path))):=by
 by_cases h:r=q
 ·subst h
  simp[Zei]
 ·rw[decide_eq_false h]
  by_cases hk:r.kind=q.kind
  ·have e:(r.kind != q.kind)=false:=by simp[hk]
   rw[e]
   cases h1:ahd r.path q.path with
   | true=>rfl
   | false =>
    cases h2:ahd q.path r.path with
    | true=>rfl
    | false =>
     refine absurd ?_ h;have:=ZiP _ _ h1 h2
     cases r
     cases q
     simp only at *;rw[hk,this]
  ·have e:(r.kind != q.kind)=true:=by simpa using hk
   rw[e]
   rfl
theorem Zhr (A B:Option Addr)(c d:Nat)(rs ms:List Rec)(w:World)(hx:RdR w 38 A rs)(hy:RdR w 38 B ms)(lx:rs.length<=1000)(ly:ms.length<=1000)(px:∀ r∈rs,r.path.length<=1000)(py:∀ r∈ms,r.path.length<=1000) :
  Calls Tryz.prog 55 #[.slice A rs.length c,.slice B ms.length d] w fun e w'=>e=.returned (.bool (decide (rs=ms)))/\Ext w w':=by
 replace hx:=Hd hx;replace hy:=Hd hy;replace px:=Hd px;replace py:=Hd py
 by_cases hl:rs.length=ms.length
 ·have e1:((rs.length:Int) != (ms.length:Int))=false:=by simp[hl]
  have hl':=Hd hl;have l2:rs.length<=ms.length:=by omega
  have l3:ms.length<=rs.length:=by omega
  clear hl;go_enter Tryz.func55,Tryz.ntmps55;go_wp2_with (fail);go_loopw [5] (fun i wr=>∃ k:Nat,i=.int .i64 k/\k<=rs.length/\Hid (decide (rs=ms)=decide (rs.drop k=ms.drop k))/\Ext w wr) (fun i _=>rs.length-(intOf i).toNat)
  case atStart=>exact⟨0,rfl,by omega,Hd (by simp),XI⟩
  case round =>
   obtain⟨k,rfl,hk,hH,X⟩:=hrel
   by_cases h1:k<rs.length
   ·have h2:k<ms.length:=by omega
    obtain⟨us,u1,u2⟩:=hx.out.ext X;obtain⟨vs,v1,v2⟩:=hy.out.ext X;obtain⟨b,off,r,A1,c1,rfl,hb,a0,a1,o1,hr⟩:=u2.at u1 h1;obtain⟨b',off',q,B1,d1,rfl,hb',b0,b1,o2,hq⟩:=v2.at v1 h2;have hd1:rs.drop k=r::rs.drop (k+1):=by rw[List.drop_eq_getElem_cons h1];congr 1;exact(List.getElem?_eq_some_iff.1 hr.out).2
    have hd2:ms.drop k=q::ms.drop (k+1):=by rw[List.drop_eq_getElem_cons h2];congr 1;exact(List.getElem?_eq_some_iff.1 hq.out).2
    have ED:=Zc3 hd1 hd2 hH.out;rw[ZiQ] at ED;have p1:=px.out r (List.mem_of_getElem? hr.out);have p2:=py.out q (List.mem_of_getElem? hq.out);have AQ:=Hd (fun(W:World) (x:Ext wr W)=>Zbh A1 B1 c1 d1 r.path q.path W (o1.read.ext x) (o2.read.ext x) (by simp only[maxLen];omega) (by simp only[maxLen];omega));have AR:=Hd (fun(W:World) (x:Ext wr W)=>Zbh B1 A1 d1 c1 q.path r.path W (o2.read.ext x) (o1.read.ext x) (by simp only[maxLen];omega) (by simp only[maxLen];omega));generalize ahd r.path q.path=h1b at *;generalize ahd q.path r.path=h2b at *;obtain⟨kb,hkb⟩:∃ kb,(r.kind != q.kind)=kb:=⟨_,rfl⟩;rw[hkb] at ED;replace ED:=Hd ED;clear hd1 hd2 hH o1 o2 hr hq u1 u2 v1 v2 p1 p2;go_upto_region 6 with(fail);refine wp_region_any (by kernel_rfl) ?_
    change wpAny _ _ _ _ _ _ _ (World.drew _)
    refine Zc (i:=0) (op:=Op.move (Operand.tmp 0)) (t:=34) (d:=some 17) (v:=_) rfl (by decide +kernel) (fun _ _ _ h=>h) (by intro _;unfold Ze;go_simp;try with_reducible rfl) ?_
    try simp only[lay]
    refine Zc (i:=1) (op:=Op.move (Operand.tmp 5)) (t:=3) (d:=some 18) (v:=_) rfl (by decide +kernel) (fun _ _ _ h=>h) (by intro _;unfold Ze;go_simp;try with_reducible rfl) ?_
    try simp only[lay]
    refine Zc (i:=2) (op:=Op.indexAddr 34 (Operand.tmp 17) (Operand.tmp 18)) (t:=0) (d:=some 19) (v:=_) rfl (by decide +kernel) (fun _ _ _ h=>h) (by intro _;unfold Ze;go_simp;try with_reducible rfl) ?_
    try simp only[lay]
    refine Zc (i:=3) (op:=Op.fieldAddr 38 (Operand.tmp 19) 0) (t:=0) (d:=some 20) (v:=_) rfl (by decide +kernel) (fun _ _ _ h=>h) (by intro _;unfold Ze;go_simp;try with_reducible rfl) ?_
    try simp only[lay]
    refine Zc (i:=5) (op:=Op.move (Operand.tmp 1)) (t:=34) (d:=some 22) (v:=_) rfl (by decide +kernel) (fun _ _ _ h=>h) (by intro _;unfold Ze;go_simp;try with_reducible rfl) ?_
    try simp only[lay]
    refine Zc (i:=6) (op:=Op.move (Operand.tmp 5)) (t:=3) (d:=some 23) (v:=_) rfl (by decide +kernel) (fun _ _ _ h=>h) (by intro _;unfold Ze;go_simp;try with_reducible rfl) ?_
    try simp only[lay]
    refine Zc (i:=7) (op:=Op.indexAddr 34 (Operand.tmp 22) (Operand.tmp 23)) (t:=0) (d:=some 24) (v:=_) rfl (by decide +kernel) (fun _ _ _ h=>h) (by intro _;unfold Ze;go_simp;try with_reducible rfl) ?_
    try simp only[lay]
    refine Zc (i:=8) (op:=Op.fieldAddr 38 (Operand.tmp 24) 0) (t:=0) (d:=some 25) (v:=_) rfl (by decide +kernel) (fun _ _ _ h=>h) (by intro _;unfold Ze;go_simp;try with_reducible rfl) ?_
    try simp only[lay]
    refine Wx (n:=27) [(4,some 21),(9,some 26)] (fun | 4=>.int .i64 r.kind | 9=>.int .i64 q.kind | _=>undef) #[true,true,true,true,true,true,true,true,true,true,false,false,false,false,false,false,false,false,false,false,false,false,false,false,false,false,false,false,false,false,false,false,false,false,false,false,false] (by decide +kernel) ?_ ?_
    ·intro pS hpm uS hD K hK
     simp only[List.mem_cons,List.not_mem_nil,or_false] at hpm;rcases hpm with rfl | rfl
     ·exact Zv (T:=3) (x:=Operand.tmp 20) (t:=3) (d:=some 21) rfl (.pointer (some ⟨b,off+k*2,none⟩)) (by kernel_rfl) (.int .i64 r.kind) (by go_simp) hK
     ·exact Zv (T:=3) (x:=Operand.tmp 25) (t:=3) (d:=some 26) rfl (.pointer (some ⟨b',off'+k*2,none⟩)) (by kernel_rfl) (.int .i64 q.kind) (by go_simp) hK
    simp only[Zn,Act.put,List.setIfInBounds_toArray,List.set_cons_zero,List.set_cons_succ];refine Zc (i:=10) (op:=Op.binOp BinOp.neq 3 (Operand.tmp 21) (Operand.tmp 26) 3) (t:=4) (d:=some 27) (v:=_) rfl (by decide +kernel) (fun _ _ _ h=>h) (by intro _;unfold Ze;go_simp;try with_reducible rfl) ?_
    try simp only[lay]
    cases kb with
    | true =>
     refine Zc (i:=11) (op:=Op.move (Operand.tmp 27)) (t:=4) (d:=some 28) (v:=_) rfl (by decide +kernel) (fun _ _ _ h=>h) (by intro _;unfold Ze;go_simp;try with_reducible rfl) ?_
     try simp only[lay]
     refine ZG (i:=12) (op:=Op.move (Operand.tmp 0)) (t:=34) (d:=some 29) (b:=true) (g:=(11,false)) rfl (by decide +kernel) (fun _ _ _ h=>h) (by kernel_rfl) rfl ?_
     try simp only[lay]
     refine ZG (i:=13) (op:=Op.move (Operand.tmp 5)) (t:=3) (d:=some 30) (b:=true) (g:=(11,false)) rfl (by decide +kernel) (fun _ _ _ h=>h) (by kernel_rfl) rfl ?_
     try simp only[lay]
     refine ZG (i:=14) (op:=Op.indexAddr 34 (Operand.tmp 29) (Operand.tmp 30)) (t:=0) (d:=some 31) (b:=true) (g:=(11,false)) rfl (by decide +kernel) (fun _ _ _ h=>h) (by kernel_rfl) rfl ?_
     try simp only[lay]
     refine ZG (i:=15) (op:=Op.fieldAddr 38 (Operand.tmp 31) 1) (t:=0) (d:=some 32) (b:=true) (g:=(11,false)) rfl (by decide +kernel) (fun _ _ _ h=>h) (by kernel_rfl) rfl ?_
     try simp only[lay]
     refine ZG (i:=16) (op:=Op.load 22 (Operand.tmp 32)) (t:=22) (d:=some 33) (b:=true) (g:=(11,false)) rfl (by decide +kernel) (fun _ _ _ h=>h) (by kernel_rfl) rfl ?_
     try simp only[lay]
     refine ZG (i:=17) (op:=Op.move (Operand.tmp 1)) (t:=34) (d:=some 34) (b:=true) (g:=(11,false)) rfl (by decide +kernel) (fun _ _ _ h=>h) (by kernel_rfl) rfl ?_
     try simp only[lay]
     refine ZG (i:=18) (op:=Op.move (Operand.tmp 5)) (t:=3) (d:=some 35) (b:=true) (g:=(11,false)) rfl (by decide +kernel) (fun _ _ _ h=>h) (by kernel_rfl) rfl ?_
     try simp only[lay]
     refine ZG (i:=19) (op:=Op.indexAddr 34 (Operand.tmp 34) (Operand.tmp 35)) (t:=0) (d:=some 36) (b:=true) (g:=(11,false)) rfl (by decide +kernel) (fun _ _ _ h=>h) (by kernel_rfl) rfl ?_
     try simp only[lay]
     refine ZG (i:=20) (op:=Op.fieldAddr 38 (Operand.tmp 36) 1) (t:=0) (d:=some 37) (b:=true) (g:=(11,false)) rfl (by decide +kernel) (fun _ _ _ h=>h) (by kernel_rfl) rfl ?_
     try simp only[lay]
     refine ZG (i:=21) (op:=Op.load 22 (Operand.tmp 37)) (t:=22) (d:=some 38) (b:=true) (g:=(11,false)) rfl (by decide +kernel) (fun _ _ _ h=>h) (by kernel_rfl) rfl ?_
     try simp only[lay]
     refine ZG (i:=22) (op:=Op.call { callee:=Callee.value (Operand.func 85),args:=#[Operand.tmp 33,Operand.tmp 38],argTypes:=#[22,22] }) (t:=4) (d:=some 39) (b:=true) (g:=(11,false)) rfl (by decide +kernel) (fun _ _ _ h=>h) (by kernel_rfl) rfl ?_
     try simp only[lay]
     refine Zc (i:=23) (op:=Op.pick (Operand.tmp 28) (Operand.const (Value.bool true)) (Operand.tmp 39)) (t:=4) (d:=some 40) (v:=_) rfl (by decide +kernel) (fun _ _ _ h=>h) (by intro _;unfold Ze;go_simp;try with_reducible rfl) ?_
     try simp only[lay]
     refine Zc (i:=24) (op:=Op.move (Operand.tmp 40)) (t:=4) (d:=some 41) (v:=_) rfl (by decide +kernel) (fun _ _ _ h=>h) (by intro _;unfold Ze;go_simp;try with_reducible rfl) ?_
     try simp only[lay]
     refine ZG (i:=25) (op:=Op.move (Operand.tmp 1)) (t:=34) (d:=some 42) (b:=true) (g:=(24,false)) rfl (by decide +kernel) (fun _ _ _ h=>h) (by kernel_rfl) rfl ?_
     try simp only[lay]
     refine ZG (i:=26) (op:=Op.move (Operand.tmp 5)) (t:=3) (d:=some 43) (b:=true) (g:=(24,false)) rfl (by decide +kernel) (fun _ _ _ h=>h) (by kernel_rfl) rfl ?_
     try simp only[lay]
     refine ZG (i:=27) (op:=Op.indexAddr 34 (Operand.tmp 42) (Operand.tmp 43)) (t:=0) (d:=some 44) (b:=true) (g:=(24,false)) rfl (by decide +kernel) (fun _ _ _ h=>h) (by kernel_rfl) rfl ?_
     try simp only[lay]
     refine ZG (i:=28) (op:=Op.fieldAddr 38 (Operand.tmp 44) 1) (t:=0) (d:=some 45) (b:=true) (g:=(24,false)) rfl (by decide +kernel) (fun _ _ _ h=>h) (by kernel_rfl) rfl ?_
     try simp only[lay]
     refine ZG (i:=29) (op:=Op.load 22 (Operand.tmp 45)) (t:=22) (d:=some 46) (b:=true) (g:=(24,false)) rfl (by decide +kernel) (fun _ _ _ h=>h) (by kernel_rfl) rfl ?_
     try simp only[lay]
     refine ZG (i:=30) (op:=Op.move (Operand.tmp 0)) (t:=34) (d:=some 47) (b:=true) (g:=(24,false)) rfl (by decide +kernel) (fun _ _ _ h=>h) (by kernel_rfl) rfl ?_
     try simp only[lay]
     refine ZG (i:=31) (op:=Op.move (Operand.tmp 5)) (t:=3) (d:=some 48) (b:=true) (g:=(24,false)) rfl (by decide +kernel) (fun _ _ _ h=>h) (by kernel_rfl) rfl ?_
     try simp only[lay]
     refine ZG (i:=32) (op:=Op.indexAddr 34 (Operand.tmp 47) (Operand.tmp 48)) (t:=0) (d:=some 49) (b:=true) (g:=(24,false)) rfl (by decide +kernel) (fun _ _ _ h=>h) (by kernel_rfl) rfl ?_
     try simp only[lay]
     refine ZG (i:=33) (op:=Op.fieldAddr 38 (Operand.tmp 49) 1) (t:=0) (d:=some 50) (b:=true) (g:=(24,false)) rfl (by decide +kernel) (fun _ _ _ h=>h) (by kernel_rfl) rfl ?_
     try simp only[lay]
     refine ZG (i:=34) (op:=Op.load 22 (Operand.tmp 50)) (t:=22) (d:=some 51) (b:=true) (g:=(24,false)) rfl (by decide +kernel) (fun _ _ _ h=>h) (by kernel_rfl) rfl ?_
     try simp only[lay]
     refine ZG (i:=35) (op:=Op.call { callee:=Callee.value (Operand.func 85),args:=#[Operand.tmp 46,Operand.tmp 51],argTypes:=#[22,22] }) (t:=4) (d:=some 52) (b:=true) (g:=(24,false)) rfl (by decide +kernel) (fun _ _ _ h=>h) (by kernel_rfl) rfl ?_
     try simp only[lay]
     refine Zc (i:=36) (op:=Op.pick (Operand.tmp 41) (Operand.const (Value.bool true)) (Operand.tmp 52)) (t:=4) (d:=some 53) (v:=_) rfl (by decide +kernel) (fun _ _ _ h=>h) (by intro _;unfold Ze;go_simp;try with_reducible rfl) ?_
     try simp only[lay]
     refine wpAny_done (by kernel_rfl) ?_ _;go_simp;go_wp2_with (fail);go_ret;exact⟨by rw[ED.out];rfl,X.tr XI⟩
    | false =>
     refine Zc (i:=11) (op:=Op.move (Operand.tmp 27)) (t:=4) (d:=some 28) (v:=_) rfl (by decide +kernel) (fun _ _ _ h=>h) (by intro _;unfold Ze;go_simp;try with_reducible rfl) ?_
     try simp only[lay]
     refine YH (i:=12) (op:=Op.move (Operand.tmp 0)) (t:=34) (d:=some 29) (g:=(11,false)) (v:=_) rfl (by decide +kernel) (fun _ _ _ h=>h) (by kernel_rfl) (by intro _;unfold Ze;go_simp;try with_reducible rfl) ?_
     try simp only[lay]
     refine YH (i:=13) (op:=Op.move (Operand.tmp 5)) (t:=3) (d:=some 30) (g:=(11,false)) (v:=_) rfl (by decide +kernel) (fun _ _ _ h=>h) (by kernel_rfl) (by intro _;unfold Ze;go_simp;try with_reducible rfl) ?_
     try simp only[lay]
     refine YH (i:=14) (op:=Op.indexAddr 34 (Operand.tmp 29) (Operand.tmp 30)) (t:=0) (d:=some 31) (g:=(11,false)) (v:=_) rfl (by decide +kernel) (fun _ _ _ h=>h) (by kernel_rfl) (by intro _;unfold Ze;go_simp;try with_reducible rfl) ?_
     try simp only[lay]
     refine YH (i:=15) (op:=Op.fieldAddr 38 (Operand.tmp 31) 1) (t:=0) (d:=some 32) (g:=(11,false)) (v:=_) rfl (by decide +kernel) (fun _ _ _ h=>h) (by kernel_rfl) (by intro _;unfold Ze;go_simp;try with_reducible rfl) ?_
     try simp only[lay]
     refine YH (i:=17) (op:=Op.move (Operand.tmp 1)) (t:=34) (d:=some 34) (g:=(11,false)) (v:=_) rfl (by decide +kernel) (fun _ _ _ h=>h) (by kernel_rfl) (by intro _;unfold Ze;go_simp;try with_reducible rfl) ?_
     try simp only[lay]
     refine YH (i:=18) (op:=Op.move (Operand.tmp 5)) (t:=3) (d:=some 35) (g:=(11,false)) (v:=_) rfl (by decide +kernel) (fun _ _ _ h=>h) (by kernel_rfl) (by intro _;unfold Ze;go_simp;try with_reducible rfl) ?_
     try simp only[lay]
     refine YH (i:=19) (op:=Op.indexAddr 34 (Operand.tmp 34) (Operand.tmp 35)) (t:=0) (d:=some 36) (g:=(11,false)) (v:=_) rfl (by decide +kernel) (fun _ _ _ h=>h) (by kernel_rfl) (by intro _;unfold Ze;go_simp;try with_reducible rfl) ?_
     try simp only[lay]
     refine YH (i:=20) (op:=Op.fieldAddr 38 (Operand.tmp 36) 1) (t:=0) (d:=some 37) (g:=(11,false)) (v:=_) rfl (by decide +kernel) (fun _ _ _ h=>h) (by kernel_rfl) (by intro _;unfold Ze;go_simp;try with_reducible rfl) ?_
     try simp only[lay]
     refine Wx (n:=15) [(16,some 33),(21,some 38)] (fun | 16=>.slice A1 r.path.length c1 | 21=>.slice B1 q.path.length d1 | _=>undef) #[true,true,true,true,true,true,true,true,true,true,true,true,true,true,true,true,true,true,true,true,true,true,false,false,false,false,false,false,false,false,false,false,false,false,false,false,false] (by decide +kernel) ?_ ?_
     ·intro pS hpm uS hD K hK
      simp only[List.mem_cons,List.not_mem_nil,or_false] at hpm;rcases hpm with rfl | rfl
      ·exact ZcI (T:=22) (x:=Operand.tmp 32) (t:=22) (d:=some 33) rfl (by kernel_rfl) (.pointer (some ⟨b,off+k*2+1,none⟩)) (by kernel_rfl) (.slice A1 r.path.length c1) (by go_simp) hK
      ·exact ZcI (T:=22) (x:=Operand.tmp 37) (t:=22) (d:=some 38) rfl (by kernel_rfl) (.pointer (some ⟨b',off'+k*2+1,none⟩)) (by kernel_rfl) (.slice B1 q.path.length d1) (by go_simp) hK
     simp only[Zn,Act.put,List.setIfInBounds_toArray,List.set_cons_zero,List.set_cons_succ];refine Zl 22 (by decide +kernel) (Zdn (f:=85) (xs:=#[Operand.tmp 33,Operand.tmp 38]) (ts:=#[22,22]) (t:=4) (d:=some 39) rfl (by kernel_rfl) #[.slice A1 r.path.length c1,.slice B1 q.path.length d1] (by go_simp) (by kernel_rfl) _ (AQ.out _ ((Ext.rf _).drew)) ?_);rintro e w2 ⟨rfl,x2⟩;have y2:Ext wr w2:=Ext.tr ((Ext.rf _).drew) x2;have s1:=Zd y2 hb a1;have s2:=Zd y2 hb' b1;have Y2:=Hd (X.tr y2);clear x2;refine⟨_,rfl,?_⟩
     try simp only[lay]
     cases h1b with
     | true =>
      refine Zc (i:=23) (op:=Op.pick (Operand.tmp 28) (Operand.const (Value.bool true)) (Operand.tmp 39)) (t:=4) (d:=some 40) (v:=_) rfl (by decide +kernel) (fun _ _ _ h=>h) (by intro _;unfold Ze;go_simp;try with_reducible rfl) ?_
      try simp only[lay]
      refine Zc (i:=24) (op:=Op.move (Operand.tmp 40)) (t:=4) (d:=some 41) (v:=_) rfl (by decide +kernel) (fun _ _ _ h=>h) (by intro _;unfold Ze;go_simp;try with_reducible rfl) ?_
      try simp only[lay]
      refine ZG (i:=25) (op:=Op.move (Operand.tmp 1)) (t:=34) (d:=some 42) (b:=true) (g:=(24,false)) rfl (by decide +kernel) (fun _ _ _ h=>h) (by kernel_rfl) rfl ?_
      try simp only[lay]
      refine ZG (i:=26) (op:=Op.move (Operand.tmp 5)) (t:=3) (d:=some 43) (b:=true) (g:=(24,false)) rfl (by decide +kernel) (fun _ _ _ h=>h) (by kernel_rfl) rfl ?_
      try simp only[lay]
      refine ZG (i:=27) (op:=Op.indexAddr 34 (Operand.tmp 42) (Operand.tmp 43)) (t:=0) (d:=some 44) (b:=true) (g:=(24,false)) rfl (by decide +kernel) (fun _ _ _ h=>h) (by kernel_rfl) rfl ?_
      try simp only[lay]
      refine ZG (i:=28) (op:=Op.fieldAddr 38 (Operand.tmp 44) 1) (t:=0) (d:=some 45) (b:=true) (g:=(24,false)) rfl (by decide +kernel) (fun _ _ _ h=>h) (by kernel_rfl) rfl ?_
      try simp only[lay]
      refine ZG (i:=29) (op:=Op.load 22 (Operand.tmp 45)) (t:=22) (d:=some 46) (b:=true) (g:=(24,false)) rfl (by decide +kernel) (fun _ _ _ h=>h) (by kernel_rfl) rfl ?_
      try simp only[lay]
      refine ZG (i:=30) (op:=Op.move (Operand.tmp 0)) (t:=34) (d:=some 47) (b:=true) (g:=(24,false)) rfl (by decide +kernel) (fun _ _ _ h=>h) (by kernel_rfl) rfl ?_
      try simp only[lay]
      refine ZG (i:=31) (op:=Op.move (Operand.tmp 5)) (t:=3) (d:=some 48) (b:=true) (g:=(24,false)) rfl (by decide +kernel) (fun _ _ _ h=>h) (by kernel_rfl) rfl ?_
      try simp only[lay]
      refine ZG (i:=32) (op:=Op.indexAddr 34 (Operand.tmp 47) (Operand.tmp 48)) (t:=0) (d:=some 49) (b:=true) (g:=(24,false)) rfl (by decide +kernel) (fun _ _ _ h=>h) (by kernel_rfl) rfl ?_
      try simp only[lay]
      refine ZG (i:=33) (op:=Op.fieldAddr 38 (Operand.tmp 49) 1) (t:=0) (d:=some 50) (b:=true) (g:=(24,false)) rfl (by decide +kernel) (fun _ _ _ h=>h) (by kernel_rfl) rfl ?_
      try simp only[lay]
      refine ZG (i:=34) (op:=Op.load 22 (Operand.tmp 50)) (t:=22) (d:=some 51) (b:=true) (g:=(24,false)) rfl (by decide +kernel) (fun _ _ _ h=>h) (by kernel_rfl) rfl ?_
      try simp only[lay]
      refine ZG (i:=35) (op:=Op.call { callee:=Callee.value (Operand.func 85),args:=#[Operand.tmp 46,Operand.tmp 51],argTypes:=#[22,22] }) (t:=4) (d:=some 52) (b:=true) (g:=(24,false)) rfl (by decide +kernel) (fun _ _ _ h=>h) (by kernel_rfl) rfl ?_
      try simp only[lay]
      refine Zc (i:=36) (op:=Op.pick (Operand.tmp 41) (Operand.const (Value.bool true)) (Operand.tmp 52)) (t:=4) (d:=some 53) (v:=_) rfl (by decide +kernel) (fun _ _ _ h=>h) (by intro _;unfold Ze;go_simp;try with_reducible rfl) ?_
      try simp only[lay]
      refine wpAny_done (by kernel_rfl) ?_ _;go_simp;go_wp2_with (fail);go_ret;exact⟨by rw[ED.out];rfl,Y2.out.tr XI⟩
     | false =>
      refine Zc (i:=23) (op:=Op.pick (Operand.tmp 28) (Operand.const (Value.bool true)) (Operand.tmp 39)) (t:=4) (d:=some 40) (v:=_) rfl (by decide +kernel) (fun _ _ _ h=>h) (by intro _;unfold Ze;go_simp;try with_reducible rfl) ?_
      try simp only[lay]
      refine Zc (i:=24) (op:=Op.move (Operand.tmp 40)) (t:=4) (d:=some 41) (v:=_) rfl (by decide +kernel) (fun _ _ _ h=>h) (by intro _;unfold Ze;go_simp;try with_reducible rfl) ?_
      try simp only[lay]
      refine YH (i:=25) (op:=Op.move (Operand.tmp 1)) (t:=34) (d:=some 42) (g:=(24,false)) (v:=_) rfl (by decide +kernel) (fun _ _ _ h=>h) (by kernel_rfl) (by intro _;unfold Ze;go_simp;try with_reducible rfl) ?_
      try simp only[lay]
      refine YH (i:=26) (op:=Op.move (Operand.tmp 5)) (t:=3) (d:=some 43) (g:=(24,false)) (v:=_) rfl (by decide +kernel) (fun _ _ _ h=>h) (by kernel_rfl) (by intro _;unfold Ze;go_simp;try with_reducible rfl) ?_
      try simp only[lay]
      refine YH (i:=27) (op:=Op.indexAddr 34 (Operand.tmp 42) (Operand.tmp 43)) (t:=0) (d:=some 44) (g:=(24,false)) (v:=_) rfl (by decide +kernel) (fun _ _ _ h=>h) (by kernel_rfl) (by intro _;unfold Ze;go_simp;try with_reducible rfl) ?_
      try simp only[lay]
      refine YH (i:=28) (op:=Op.fieldAddr 38 (Operand.tmp 44) 1) (t:=0) (d:=some 45) (g:=(24,false)) (v:=_) rfl (by decide +kernel) (fun _ _ _ h=>h) (by kernel_rfl) (by intro _;unfold Ze;go_simp;try with_reducible rfl) ?_
      try simp only[lay]
      refine YH (i:=30) (op:=Op.move (Operand.tmp 0)) (t:=34) (d:=some 47) (g:=(24,false)) (v:=_) rfl (by decide +kernel) (fun _ _ _ h=>h) (by kernel_rfl) (by intro _;unfold Ze;go_simp;try with_reducible rfl) ?_
      try simp only[lay]
      refine YH (i:=31) (op:=Op.move (Operand.tmp 5)) (t:=3) (d:=some 48) (g:=(24,false)) (v:=_) rfl (by decide +kernel) (fun _ _ _ h=>h) (by kernel_rfl) (by intro _;unfold Ze;go_simp;try with_reducible rfl) ?_
      try simp only[lay]
      refine YH (i:=32) (op:=Op.indexAddr 34 (Operand.tmp 47) (Operand.tmp 48)) (t:=0) (d:=some 49) (g:=(24,false)) (v:=_) rfl (by decide +kernel) (fun _ _ _ h=>h) (by kernel_rfl) (by intro _;unfold Ze;go_simp;try with_reducible rfl) ?_
      try simp only[lay]
      refine YH (i:=33) (op:=Op.fieldAddr 38 (Operand.tmp 49) 1) (t:=0) (d:=some 50) (g:=(24,false)) (v:=_) rfl (by decide +kernel) (fun _ _ _ h=>h) (by kernel_rfl) (by intro _;unfold Ze;go_simp;try with_reducible rfl) ?_
      try simp only[lay]
      refine Wx (n:=2) [(29,some 46),(34,some 51)] (fun | 29=>.slice B1 q.path.length d1 | 34=>.slice A1 r.path.length c1 | _=>undef) #[true,true,true,true,true,true,true,true,true,true,true,true,true,true,true,true,true,true,true,true,true,true,true,true,true,true,true,true,true,true,true,true,true,true,true,false,false] (by decide +kernel) ?_ ?_
      ·intro pS hpm uS hD K hK
       simp only[List.mem_cons,List.not_mem_nil,or_false] at hpm;rcases hpm with rfl | rfl
       ·exact ZcI (T:=22) (x:=Operand.tmp 45) (t:=22) (d:=some 46) rfl (by kernel_rfl) (.pointer (some ⟨b',off'+k*2+1,none⟩)) (by kernel_rfl) (.slice B1 q.path.length d1) (by go_simp) hK
       ·exact ZcI (T:=22) (x:=Operand.tmp 50) (t:=22) (d:=some 51) rfl (by kernel_rfl) (.pointer (some ⟨b,off+k*2+1,none⟩)) (by kernel_rfl) (.slice A1 r.path.length c1) (by go_simp) hK
      simp only[Zn,Act.put,List.setIfInBounds_toArray,List.set_cons_zero,List.set_cons_succ];refine Zl 35 (by decide +kernel) (Zdn (f:=85) (xs:=#[Operand.tmp 46,Operand.tmp 51]) (ts:=#[22,22]) (t:=4) (d:=some 52) rfl (by kernel_rfl) #[.slice B1 q.path.length d1,.slice A1 r.path.length c1] (by go_simp) (by kernel_rfl) _ (AR.out _ y2) ?_);rintro e w3 ⟨rfl,x3⟩;have Y3:=Hd (Y2.out.tr x3);clear x3;refine⟨_,rfl,?_⟩
      try simp only[lay]
      refine Zc (i:=36) (op:=Op.pick (Operand.tmp 41) (Operand.const (Value.bool true)) (Operand.tmp 52)) (t:=4) (d:=some 53) (v:=_) rfl (by decide +kernel) (fun _ _ _ h=>h) (by intro _;unfold Ze;go_simp;try with_reducible rfl) ?_
      try simp only[lay]
      refine wpAny_done (by kernel_rfl) ?_ _;go_simp
      cases h2b with
      | true =>
       go_wp2_with (fail);go_ret;exact⟨by rw[ED.out];rfl,Y3.out.tr XI⟩
      | false =>
       have EN:Hid (decide (rs=ms)=decide (rs.drop (k+1)=ms.drop (k+1))):=Hd (by rw[ED.out];rfl);clear ED;go_wp2_with (fail);go_roundw
       case rel=>exact⟨k+1,by go_num,by omega,EN,Y3.out.tr (by first | exact Ext.rf _ | exact XI)⟩
       case measure=>simp[intOf];omega
   ·obtain rfl:k=rs.length:=by omega
    have EN:Hid (decide (rs=ms)=true):=Hd (by rw[hH.out,List.drop_length,hl'.out,List.drop_length];rfl);clear hH;go_wp2_with (fail);go_ret;exact⟨by rw[EN.out];rfl,X⟩
 ·have e1:((rs.length:Int) != (ms.length:Int))=true:=by simp;omega
  have EN:Hid (decide (rs=ms)=false):=Hd (decide_eq_false fun h=>hl (by rw[h]));clear hl;go_enter Tryz.func55,Tryz.ntmps55;go_wp2_with (fail);go_ret;exact⟨by rw[EN.out];rfl,XI⟩
def OwM (w:World)(base:RB)(g c:Nat)(l:List Nat) : Prop:=OwV w base.b 38 2 (some ⟨g,0,none⟩) l.length c (Z4 base l)
theorem OwM.cell {w:World}{base:RB}{g c:Nat}{l:List Nat}(h:OwM w base g c l){k n:Nat}(hk:l[k]?=some n) :
  CellR w base g k n/\FrzR w g k/\Hid (∀ m:Nat,OwM (setR w base g k m) base g c (l.set k m)):=by
 have hl:=(List.getElem?_eq_some_iff.1 hk).1;obtain⟨e1,e2⟩:=W4 base hk;have l1:k*2<(Z4 base l).length:=by rw[Wl];omega
 have l2:k*2+1<(Z4 base l).length:=by rw[Wl];omega
 have hs:=fun(u:Value)=>h.set l1 u
 have hs2:=fun(u v:Value)=>(hs u).2.2.2.set (j:=k*2+1) (by rw[List.length_set];exact l2) v
 refine⟨⟨(hs undef).1.trans e1,(h.set l2 undef).1.trans e2⟩,⟨(hs undef).2.1,(h.set l2 undef).2.1⟩,fun m=>?_⟩;have:=(hs2 (.int .i64 (base.kd m)) (.slice (base.ad m) (base.ln m) (base.cp m))).2.2.2;rw[JD] at this;unfold OwM;rw[List.length_set];exact this
theorem OwM.ext {w w':World}{base:RB}{g c:Nat}{l:List Nat}(h:OwM w base g c l)(x:Ext w w') : OwM w' base g c l:=OwV.ext h x
theorem OwM.lt {w:World}{base:RB}{g c:Nat}{l:List Nat}(h:OwM w base g c l) : base.b<=g/\g<w.heap.size:=OwV.lt h g rfl
theorem JN (B:RB) : ∀ (l m:List Nat),Z4 B (l++m)=Z4 B l++Z4 B m
 | [],_=>rfl
 | n::l,m=>by simp[Z4,JN B l m]
def CutR (lt:Nat->Nat->Bool)(L:List Nat)(x p:Nat) : Prop:=∃ B1 B2,L=B1++B2/\B1.length=p/\∀ y∈B2,lt x y=true
def ShR (B1 B2:List Nat)(p j:Nat)(X:List Nat) : Prop:=∃ C D h,B2=C++D/\p+C.length=j/\X=B1++(C++(h::D))
theorem ShR.step {B1 B2:List Nat}{p j:Nat}{X:List Nat}(h:ShR B1 B2 p (j+1) X)(hp:B1.length=p)(hj:p<=j) : ∃ y z,X[j]?=some y/\X[j+1]?=some z/\ShR B1 B2 p j (X.set (j+1) y):=by
 obtain⟨C,D,e,rfl,hc,rfl⟩:=h;obtain⟨C',C2,rfl,hl⟩:=Wj C 1 (by omega);obtain⟨y,rfl⟩:∃ y,C2=[y]:=by
  match C2,hl with
  | [y],_=>exact⟨y,rfl⟩
 rw[List.length_append] at hc;simp only[List.length_singleton] at hc;have e1:B1++(C'++[y]++(e::D))=(B1++C')++(y::(e::D)):=by simp
 have hl2:(B1++C').length=j:=by rw[List.length_append];omega
 rw[e1];obtain⟨g1,g2⟩:=QW (B1++C') D y e;rw[hl2] at g1 g2;refine⟨y,e,g1,g2,C',y::D,y,by simp,by omega,?_⟩;rw[List.set_append_right _ _ (by omega),show j+1-(B1++C').length=1 by omega];simp
theorem ShR.start {B1 B2:List Nat}(h:Nat) : ShR B1 B2 B1.length (B1++B2).length (B1++B2++[h]):=⟨B2,[],h,by simp,by simp,by simp⟩
theorem ShR.fin {B1 B2:List Nat}{p:Nat}{X:List Nat}(h:ShR B1 B2 p p X)(hp:B1.length=p)(x:Nat) : ∃ z,X[p]?=some z/\X.set p x=B1++(x::B2):=by
 obtain⟨C,D,e,rfl,hc,rfl⟩:=h;obtain rfl:=List.eq_nil_of_length_eq_zero (show C.length=0 by omega);subst hp;refine⟨e,?_,?_⟩
 ·rw[List.nil_append,List.getElem?_append_right (by omega),Nat.sub_self];rfl
 ·rw[List.nil_append,List.set_append_right _ _ (by omega),Nat.sub_self];rfl
theorem CutR.is {lt:Nat->Nat->Bool}{L:List Nat}{k p:Nat}(hw:Weak lt)(hL:Is lt (List.range k) L)(h:CutR lt L k p)(hstop:p=0\/∃ (q y:Nat),p=q+1/\L[q]?=some y/\lt k y=false) : ∃ B1 B2,L=B1++B2/\B1.length=p/\Is lt (List.range (k+1)) (B1++(k::B2)):=by
 obtain⟨B1,B2,rfl,hp,hB⟩:=h;refine⟨B1,B2,rfl,hp,?_,?_⟩
 ·rw[List.range_succ]
  refine List.perm_middle.trans ?_;exact(List.perm_append_comm (l₁:=[k]) (l₂:=B1++B2)).trans (hL.1.append (List.Perm.refl _))
 ·refine QX hw hL.2 ?_ hB ?_
  ·intro z hz z' hz'
   obtain rfl:=List.mem_singleton.1 hz';have:=hL.mem.1 hz
   simpa using this
  ·intro y hy
   rcases hstop with rfl | ⟨q,y',rfl,h1,h2⟩
   ·rw[List.eq_nil_of_length_eq_zero hp] at hy;cases hy
   ·rw[List.getLast?_eq_getElem?,hp,Nat.add_sub_cancel] at hy
    rw[List.getElem?_append_left (by omega),hy] at h1;rw[Option.some.inj h1];exact h2
theorem CutR.down {lt:Nat->Nat->Bool}{L:List Nat}{x p y:Nat}(h:CutR lt L x (p+1))(hy:L[p]?=some y)(hlt:lt x y=true) : CutR lt L x p:=by
 obtain⟨B1,B2,rfl,hp,hB⟩:=h;obtain⟨B,B',rfl,hb⟩:=Wj B1 1 (by omega);obtain⟨z,rfl⟩:∃ z,B'=[z]:=by
  match B',hb with
  | [z],_=>exact⟨z,rfl⟩
 rw[List.length_append] at hp;simp only[List.length_singleton] at hp;have hBp:B.length=p:=by omega
 rw[List.append_assoc,List.getElem?_append_right (by omega),hBp,Nat.sub_self] at hy;simp at hy;subst hy;refine⟨B,z::B2,by simp,hBp,fun w hw=>?_⟩;rcases List.mem_cons.1 hw with rfl | hw
 ·exact hlt
 ·exact hB w hw
def Jl (rs:List Rec)(w:World)(e:Ending)(w':World) : Prop:=∃ A c,e=.returned (.slice A rs.length c)/\RdR w' 38 A (ZC rs)/\Ext w w'
theorem ZbJ (B0:Option Addr)(c0:Nat)(rs:List Rec)(w:World)(hx:RdR w 38 B0 rs)(hl:rs.length<=1000)(hp:∀ r∈rs,r.path.length<=1000) :
  Calls Tryz.prog 54 #[.slice B0 rs.length c0] w (Jl rs w):=by
 obtain⟨vs,hv,hr⟩:=hx;obtain⟨i0,hi,hz0,hz1,hz2⟩:=info_parts Zcn;replace hi:=Hd hi;replace hz0:=Hd hz0;replace hz1:=Hd hz1;replace hz2:=Hd hz2;have hwk:=Hd (Zij rs);have hlt2:=Hd (Zc1 rs);obtain⟨R,hR⟩:∃ R,Hid (R=Vm w.heap.size rs vs):=⟨_,rfl⟩;have hRb:Hid (R.b=w.heap.size):=by rw[hR.out];exact rfl
 have hz:Hid (Z4 R [rs.length]=[.int .i64 0,.slice none 0 0]):=by
  rw[hR.out];simp only[Z4,Vm,XR];have:vs[rs.length*2+1]?=none:=List.getElem?_eq_none (by rw[hr.1];omega);exact Hd (by simp[this])
 have hone:Hid (∀ i,i<rs.length->R.kd i=(XR rs i).kind/\R.ln i=(XR rs i).path.length):=by rw[hR.out];exact fun i _=>⟨rfl,rfl⟩
 have hat:Hid (∀ i,i<rs.length->∃ b off,B0=some ⟨b,off,none⟩/\b<w.heap.size/\w.cell? ⟨b,off+i*2,none⟩=some (.int .i64 (R.kd i))/\w.cell? ⟨b,off+i*2+1,none⟩=some (.slice (R.ad i) (R.ln i) (R.cp i))):=by
  rw[hR.out];intro i hi;obtain⟨h1,h2,-⟩:=Zbk (b:=w.heap.size) hr hi;obtain⟨b,off,e,hb,hc⟩:=hv.form (fun e=>by have:=hr.1;rw[e] at this;simp at this;omega);exact⟨b,off,e,hb,hc _ _ h1,by rw[Nat.add_assoc];exact hc _ _ h2⟩
 have hpath:Hid (∀ i,i<rs.length->RdI w (R.ad i) (XR rs i).path/\(XR rs i).path.length<=1000):=by
  rw[hR.out];exact fun i hi=>⟨(Zbk (b:=w.heap.size) hr hi).2.2.read,hp _ (U3 hi)⟩
 have hend:Hid (∀ W,Ext w W->RecsO W 0 (Z4 R (Jf rs)) (ZC rs)):=by
  rw[hR.out];exact fun W hW=>Zek (hr.ext hW) fun x hx=>JH hx
 have hone1:Hid (∀ l,∀ u∈Z4 R l,u.oneCell'=true):=by
  intro l
  induction l with
  | nil=>intro u hu;simp[Z4] at hu
  | cons n l ih =>
   intro u hu;simp only[Z4,List.mem_cons] at hu;rcases hu with rfl | rfl | hu
   ·rfl
   ·rfl
   ·exact ih u hu
 clear hv hr hp hR;go_enter Tryz.func54,Tryz.ntmps54;go_wp2_with (fail);go_loopw [3,4] (fun v i wr=>∃ (k:Nat) (A:Option Addr) (c:Nat) (L:List Nat),i=.int .i64 k/\v=.slice A k c/\k<=rs.length/\Hid (OwV wr R.b 38 2 A k c (Z4 R L))/\Hid (Is (Zx (UT rs)) (List.range k) L)/\Ext w wr) (fun _ i _=>rs.length-(intOf i).toNat)
 case atStart=>exact⟨0,some ⟨w.heap.size,0,none⟩,0,[],rfl,rfl,by omega,OwV.full (cs:=#[]) (.new (by simp)) (by rw[hRb.out];exact Nat.le_refl _) rfl (by simp[maxLen]),⟨by simp,List.Pairwise.nil⟩,XI⟩
 case round =>
  obtain⟨wo,rfl⟩:=Wq wr;obtain⟨k,A,c,L,rfl,rfl,hk,ho,hI,X⟩:=hrel;have hIl:Hid (L.length=k):=by
   have:=hI.out.len;rw[List.length_range] at this;exact this
  by_cases hlt:k<rs.length
  ·obtain⟨lb,lo,rfl,hlb,cl0,cl1⟩:=hat.out k hlt
   obtain⟨hpk,hpl⟩:=hpath.out k hlt;have hln:=Hd (hone.out k hlt).2;go_wp2_with (fail);go_loopw [5] (fun v wr=>∃ p:Nat,v=.int .i64 p/\p<=k/\Hid (CutR (Zx (UT rs)) L k p)/\Ext wo wr) (fun v _=>(intOf v).toNat)
   case atStart=>exact⟨k,rfl,by omega,⟨L,[],by simp,hIl.out,by simp⟩,Ext.rf _⟩
   case round =>
    obtain⟨wi,rfl⟩:=Wq wr;obtain⟨p,rfl,hpk2,hC,Y⟩:=hrel;obtain⟨A',hA'⟩:∃ A':Option Addr,A'=A:=⟨_,rfl⟩;have hgE:Hid (0<p->∃ g,A=some ⟨g,0,none⟩):=by
     intro h0;rcases ho.out.cases with⟨_,_,h1,_⟩ | ⟨g,_,h1,_⟩
     ·omega
     ·exact⟨g,h1⟩
    have hout:Hid (∀ (q y g:Nat),A=some ⟨g,0,none⟩->L[q]?=some y->g<wi.heap.size/\CellR wi R g q y):=by
     rintro q y g rfl hy;have HO:OwM wi R g c L:=by
      unfold OwM;rw[hIl.out];exact ho.out.ext Y
     exact⟨HO.lt.2,(HO.cell hy).1⟩
    have hyk:Hid (∀ (q y:Nat),L[q]?=some y->y<rs.length):=by
     intro q y hy;have:=hI.out.mem.1 (List.mem_of_getElem? hy);simp at this;omega
    have CMP:Hid (∀ (y:Nat) (b:Bool),y<rs.length->Zx (UT rs) k y=b->∀ W,Ext wi W->Calls Tryz.prog 85 #[.slice (R.ad k) (R.ln k) (R.cp k),.slice (R.ad y) (R.ln y) (R.cp y)] W fun e W'=>e=.returned (.bool b)/\Ext W W'):=by
     intro y b hy hb W hW;have XW:=(X.tr Y).tr hW;obtain⟨hpy,hpyl⟩:=hpath.out y hy;rw[hlt2.out] at hb;subst hb;rw[hln.out,(hone.out y hy).2];exact Zbh _ _ _ _ _ _ _ (hpk.ext XW) (hpy.ext XW) (by simp only[maxLen];omega) (by simp only[maxLen];omega)
    have clb:=(X.tr Y).size;have cl0':=Zd (X.tr Y) hlb cl0;have cl1':=Zd (X.tr Y) hlb cl1;have hlb':lb<wi.heap.size:=by omega
    by_cases hgo:∃ (q y:Nat),p=q+1/\L[q]?=some y/\Zx (UT rs) k y=true
    ·obtain⟨q,y,hq,hy,hly⟩:=hgo
     subst hq;have hC2:=Hd (hC.out.down hy hly);obtain⟨g,hg⟩:=hgE.out (by omega);obtain⟨hgs,cy,cy'⟩:=hout.out q y g hg hy;replace CMP:=Hd (CMP.out y true (hyk.out q y hy) hly);subst hg;have hwq:IntKind.i64.wrap (q:Int)=(q:Int):=IntWalk.i64_in _ (by omega);have q0:(0:Int)<=(q:Int):=by omega
     have qk:(q:Int)<(k:Int):=by omega
     have q1:(0:Int)<(q:Int)+1:=by omega
     have k0:(0:Int)<=(k:Int):=by omega
     have kn:(k:Int)<(rs.length:Int):=by omega
     clear hgE hout hyk hC hy hly hA';go_wp2_with (fail);go_region_held3 (fun W=>W.cell? ⟨lb,lo+k*2+1,none⟩=some (.slice (R.ad k) (R.ln k) (R.cp k))/\W.cell? ⟨g,q*2+1,none⟩=some (.slice (R.ad y) (R.ln y) (R.cp y))) (go_keep)
      (first | (go_at_call 85;refine(CMP.out _ XI).mono ?_;rintro e w2 ⟨rfl,x2⟩;have y2:=Ext.tr (a:=wi) XI x2;have s1:=Zd y2 hlb' cl1';have s2:=Zd y2 hgs cy'))
     go_wp2_with (fail);go_roundw
     case rel=>exact⟨q,by first | rfl | go_num,by omega,hC2,Y.tr (by assumption)⟩
     case measure=>simp[intOf]
    ·have hstop:p=0\/∃ (q y:Nat),p=q+1/\L[q]?=some y/\Zx (UT rs) k y=false:=by
      rcases Nat.eq_zero_or_pos p with h0 | h0
      ·exact .inl h0
      ·have hql:p-1<L.length:=by rw[hIl.out];omega
       refine .inr ⟨p-1,L[p-1],by omega,List.getElem?_eq_getElem hql,?_⟩
       cases hb:Zx (UT rs) k L[p-1] with
       | false=>rfl
       | true=>exact absurd ⟨p-1,L[p-1],by omega,List.getElem?_eq_getElem hql,hb⟩ hgo
     obtain⟨B1,B2,hLB,hB1,hI2⟩:=hC.out.is hwk.out hI.out hstop;replace hLB:=Hd hLB;replace hB1:=Hd hB1;replace hI2:=Hd hI2;have pk:(p:Int)<=(k:Int):=by omega
     clear hgo hC;rcases hstop with h0 | ⟨q,y,hq,hy,hly⟩
     case inl =>
      subst h0;have Y2:Ext wo (wi.drew):=Y.drew;clear hgE hout hyk CMP hA';go_wp2_with (fail);go_quiet (fail);replace Y2:Ext wo (wi.drewN nq):=Y.drewN _;clear Y;obtain⟨wj,hwj⟩:∃ wj,Hid (wj=wi.drewN nq):=⟨_,rfl⟩;rw[<-hwj.out] at Y2 ⊢;clear cl0' cl1' hlb' clb;have hRle:R.b<=wj.heap.size:=by rw[hRb.out];exact(X.tr Y2).size
      have kk:k<=1000:=by omega
      go_wp2_with (at_builtin;refine ZU _ (e:=38) Tryz.underlying34 hi.out hz0.out hz1.out hz2.out (by simp[Value.cells]) (by omega) rfl _ _ rfl R.b A k c (Z4 R L) (some ⟨wj.heap.size,0,none⟩) 1 1 [.int .i64 0,.slice none 0 0] rfl rfl ?_ ?_ ?_ ?_ ?_ ?_ ?_ ?_;(exact(ho.out.ext Y2).ext XI);(exact(RdV.blk (.new (by simp))).rdC);(simp);(simp[Value.oneCell']);(simp only[maxLen];omega);omega;(simp;omega);rintro A5 c5 w5 o5 g5 _);have M5:ModT R.b [38] wj w5:=(ModT.of_ext XI).tr (((ho.out.ext Y2).ext XI).grownT g5);have X5:Ext w w5:=(X.tr Y2).modT M5 (by rw[hRb.out];exact Nat.le_refl _);obtain⟨g,hg5⟩:∃ g,A5=some ⟨g,0,none⟩:=by
       rcases o5.cases with⟨_,_,h1,_⟩ | ⟨g,_,h1,_⟩
       ·omega
       ·exact⟨g,h1⟩
      subst hg5;have hlen2:Hid (B1.length+B2.length=k):=by
       have:=hIl.out;rw[hLB.out,List.length_append] at this;exact this
      have O0:Hid (OwM w5 R g c5 (B1++B2++[rs.length])):=by
       unfold OwM;have e1:(B1++B2++[rs.length]).length=k+1:=by rw[List.length_append,List.length_append,hlen2.out];rfl
       rw[e1,JN,hz.out,<-hLB.out];exact o5
      have SH0:Hid (ShR B1 B2 0 k (B1++B2++[rs.length])):=by
       have:=ShR.start (B1:=B1) (B2:=B2) rs.length;rw[hB1.out,List.length_append,hlen2.out] at this;exact this
      have pk2:(0:Int)<=(k:Int):=by omega
      clear ho hI hIl o5 M5 g5 hLB hRle Y2;go_loopw [6] (fun v wr=>∃ (j:Nat) (Z:List Nat),v=.int .i64 j/\0<=j/\j<=k/\Hid (ShR B1 B2 0 j Z)/\Hid (OwM wr R g c5 Z)/\Ext w wr) (fun v _=>(intOf v).toNat)
      case atStart=>exact⟨k,B1++B2++[rs.length],by first | rfl | go_num,by omega,by omega,SH0,O0,X5⟩
      case round =>
       clear SH0 O0 X5;obtain⟨ws,rfl⟩:=Wq wr;obtain⟨j,Z,rfl,hj1,hj2,SH,OM,XS⟩:=hrel;have hgs:=OM.out.lt
       by_cases hj:0<j
       ·obtain⟨i,rfl⟩:∃ i,j=i+1:=⟨j-1,by omega⟩
        obtain⟨y,z,hy,hz',SH2⟩:=SH.out.step hB1.out (by omega);obtain⟨⟨c1,c1'⟩,⟨f1,f1'⟩,-⟩:=OM.out.cell hy;obtain⟨⟨c2,c2'⟩,⟨f2,f2'⟩,st⟩:=OM.out.cell hz';have OM2:=Hd (st.out y);replace SH2:=Hd SH2;have t0:(0:Int)<(i:Int)+1:=by omega
        have wi1:IntKind.i64.wrap (i:Int)=(i:Int):=IntWalk.i64_in _ (by omega);have i0:(0:Int)<=(i:Int):=by omega
        have i1:(i:Int)<(k:Int)+1:=by omega
        have i2:(i:Int)+1<(k:Int)+1:=by omega
        have i3:(0:Int)<=(i:Int)+1:=by omega
        have e0:((i:Int)+1).toNat=i+1:=by omega
        have XF:Ext w (setR ws R g (i+1) y):=(XS.setNew (p:=⟨g,(i+1)*2,none⟩) (by have:=hgs.1;rw[hRb.out] at this;exact this) _).setNew (p:=⟨g,(i+1)*2+1,none⟩) (by have:=hgs.1;rw[hRb.out] at this;exact this) _;clear SH OM st hy hz' hgs;go_wp2_with (fail);go_roundw
        case rel=>exact⟨i,_,by first | rfl | go_num,by omega,by omega,SH2,OM2,XF⟩
        case measure=>simp[intOf]
       ·obtain rfl:j=0:=by omega
        obtain⟨z,hzz,ez⟩:=SH.out.fin hB1.out k;obtain⟨⟨c1,c1'⟩,⟨f1,f1'⟩,st⟩:=OM.out.cell hzz;have OM2:=st.out k;rw[ez] at OM2;have XF:Ext w (setR ws R g (0) k):=(XS.setNew (p:=⟨g,(0)*2,none⟩) (by have:=hgs.1;rw[hRb.out] at this;exact this) _).setNew (p:=⟨g,(0)*2+1,none⟩) (by have:=hgs.1;rw[hRb.out] at this;exact this) _;have OM3:Hid (OwV (setR ws R g (0) k) R.b 38 2 (some ⟨g,0,none⟩) (k+1) c5 (Z4 R (B1++(k::B2)))):=by
         have e1:(B1++(k::B2)).length=k+1:=by rw[List.length_append,List.length_cons];have:=hlen2.out;omega
         have h1:=OM2;unfold OwM at h1;rw[e1] at h1;exact h1
        have d0:=Zd XS hlb cl0;have d1:=Zd XS hlb cl1;have t0:¬(0:Int)<(0:Int):=by omega
        have p3:(0:Int)<(k:Int)+1:=by omega
        have p4:(0:Int)<=(0:Int):=by omega
        clear SH OM st OM2 hzz ez hgs;go_wp2_with (fail);go_roundw
        case rel=>exact⟨k+1,some ⟨g,0,none⟩,c5,B1++(k::B2),by go_num,rfl,by omega,OM3,hI2,XF⟩
        case measure=>simp[intOf];omega
     case inr =>
      subst hq;obtain⟨g0,hg0⟩:=hgE.out (by omega);obtain⟨hgs,cy,cy'⟩:=hout.out q y g0 hg0 hy;replace CMP:=Hd (CMP.out y false (hyk.out q y hy) hly);subst hg0;have hwq:IntKind.i64.wrap (q:Int)=(q:Int):=IntWalk.i64_in _ (by omega);have q0:(0:Int)<=(q:Int):=by omega
      have qk:(q:Int)<(k:Int):=by omega
      have q1:(0:Int)<(q:Int)+1:=by omega
      have k0:(0:Int)<=(k:Int):=by omega
      have kn:(k:Int)<(rs.length:Int):=by omega
      clear hgE hout hyk hy hly hA';go_wp2_with (fail);go_region_held3 (fun W=>W.cell? ⟨lb,lo+k*2+1,none⟩=some (.slice (R.ad k) (R.ln k) (R.cp k))/\W.cell? ⟨g0,q*2+1,none⟩=some (.slice (R.ad y) (R.ln y) (R.cp y))) (go_keep)
       (first | (go_at_call 85;refine(CMP.out _ XI).mono ?_;rintro e w2 ⟨rfl,x2⟩;have y2:=Ext.tr (a:=wi) XI x2;have s1:=Zd y2 hlb' cl1';have s2:=Zd y2 hgs cy'))
      have Y2:Ext wo w2:=Y.tr y2;clear Y s1 s2 x2 y2 cy cy' hgs CMP;obtain⟨wj,rfl⟩:∃ wj,wj=w2:=⟨_,rfl⟩;clear cl0' cl1' hlb' clb;have hRle:R.b<=wj.heap.size:=by rw[hRb.out];exact(X.tr Y2).size
      have kk:k<=1000:=by omega
      go_wp2_with (at_builtin;refine ZU _ (e:=38) Tryz.underlying34 hi.out hz0.out hz1.out hz2.out (by simp[Value.cells]) (by omega) rfl _ _ rfl R.b (some ⟨g0,0,none⟩) k c (Z4 R L) (some ⟨wj.heap.size,0,none⟩) 1 1 [.int .i64 0,.slice none 0 0] rfl rfl ?_ ?_ ?_ ?_ ?_ ?_ ?_ ?_;(exact(ho.out.ext Y2).ext XI);(exact(RdV.blk (.new (by simp))).rdC);(simp);(simp[Value.oneCell']);(simp only[maxLen];omega);omega;(simp;omega);rintro A5 c5 w5 o5 g5 _);have M5:ModT R.b [38] wj w5:=(ModT.of_ext XI).tr (((ho.out.ext Y2).ext XI).grownT g5);have X5:Ext w w5:=(X.tr Y2).modT M5 (by rw[hRb.out];exact Nat.le_refl _);obtain⟨g,hg5⟩:∃ g,A5=some ⟨g,0,none⟩:=by
       rcases o5.cases with⟨_,_,h1,_⟩ | ⟨g,_,h1,_⟩
       ·omega
       ·exact⟨g,h1⟩
      subst hg5;have hlen2:Hid (B1.length+B2.length=k):=by
       have:=hIl.out;rw[hLB.out,List.length_append] at this;exact this
      have O0:Hid (OwM w5 R g c5 (B1++B2++[rs.length])):=by
       unfold OwM;have e1:(B1++B2++[rs.length]).length=k+1:=by rw[List.length_append,List.length_append,hlen2.out];rfl
       rw[e1,JN,hz.out,<-hLB.out];exact o5
      have SH0:Hid (ShR B1 B2 (q+1) k (B1++B2++[rs.length])):=by
       have:=ShR.start (B1:=B1) (B2:=B2) rs.length;rw[hB1.out,List.length_append,hlen2.out] at this;exact this
      have pk2:((q:Int)+1)<=(k:Int):=by omega
      clear ho hI hIl o5 M5 g5 hLB hRle Y2;go_loopw [6] (fun v wr=>∃ (j:Nat) (Z:List Nat),v=.int .i64 j/\(q+1)<=j/\j<=k/\Hid (ShR B1 B2 (q+1) j Z)/\Hid (OwM wr R g c5 Z)/\Ext w wr) (fun v _=>(intOf v).toNat)
      case atStart=>exact⟨k,B1++B2++[rs.length],by first | rfl | go_num,by omega,by omega,SH0,O0,X5⟩
      case round =>
       clear SH0 O0 X5;obtain⟨ws,rfl⟩:=Wq wr;obtain⟨j,Z,rfl,hj1,hj2,SH,OM,XS⟩:=hrel;have hgs:=OM.out.lt
       by_cases hj:(q+1)<j
       ·obtain⟨i,rfl⟩:∃ i,j=i+1:=⟨j-1,by omega⟩
        obtain⟨y,z,hy,hz',SH2⟩:=SH.out.step hB1.out (by omega);obtain⟨⟨c1,c1'⟩,⟨f1,f1'⟩,-⟩:=OM.out.cell hy;obtain⟨⟨c2,c2'⟩,⟨f2,f2'⟩,st⟩:=OM.out.cell hz';have OM2:=Hd (st.out y);replace SH2:=Hd SH2;have t0:((q:Int)+1)<(i:Int)+1:=by omega
        have wi1:IntKind.i64.wrap (i:Int)=(i:Int):=IntWalk.i64_in _ (by omega);have i0:(0:Int)<=(i:Int):=by omega
        have i1:(i:Int)<(k:Int)+1:=by omega
        have i2:(i:Int)+1<(k:Int)+1:=by omega
        have i3:(0:Int)<=(i:Int)+1:=by omega
        have e0:((i:Int)+1).toNat=i+1:=by omega
        have XF:Ext w (setR ws R g (i+1) y):=(XS.setNew (p:=⟨g,(i+1)*2,none⟩) (by have:=hgs.1;rw[hRb.out] at this;exact this) _).setNew (p:=⟨g,(i+1)*2+1,none⟩) (by have:=hgs.1;rw[hRb.out] at this;exact this) _;clear SH OM st hy hz' hgs;go_wp2_with (fail);go_roundw
        case rel=>exact⟨i,_,by first | rfl | go_num,by omega,by omega,SH2,OM2,XF⟩
        case measure=>simp[intOf]
       ·obtain rfl:j=(q+1):=by omega
        obtain⟨z,hzz,ez⟩:=SH.out.fin hB1.out k;obtain⟨⟨c1,c1'⟩,⟨f1,f1'⟩,st⟩:=OM.out.cell hzz;have OM2:=st.out k;rw[ez] at OM2;have XF:Ext w (setR ws R g ((q+1)) k):=(XS.setNew (p:=⟨g,((q+1))*2,none⟩) (by have:=hgs.1;rw[hRb.out] at this;exact this) _).setNew (p:=⟨g,((q+1))*2+1,none⟩) (by have:=hgs.1;rw[hRb.out] at this;exact this) _;have OM3:Hid (OwV (setR ws R g ((q+1)) k) R.b 38 2 (some ⟨g,0,none⟩) (k+1) c5 (Z4 R (B1++(k::B2)))):=by
         have e1:(B1++(k::B2)).length=k+1:=by rw[List.length_append,List.length_cons];have:=hlen2.out;omega
         have h1:=OM2;unfold OwM at h1;rw[e1] at h1;exact h1
        have d0:=Zd XS hlb cl0;have d1:=Zd XS hlb cl1;have t0:¬((q:Int)+1)<((q:Int)+1):=by omega
        have p3:((q:Int)+1)<(k:Int)+1:=by omega
        have p4:(0:Int)<=((q:Int)+1):=by omega
        clear SH OM st OM2 hzz ez hgs;go_wp2_with (fail);go_roundw
        case rel=>exact⟨k+1,some ⟨g,0,none⟩,c5,B1++(k::B2),by go_num,rfl,by omega,OM3,hI2,XF⟩
        case measure=>simp[intOf];omega
  ·obtain rfl:k=rs.length:=by omega
   have FIN:Hid (RdR wo 38 A (ZC rs)):=by
    have e:=ZaW hwk.out (QA _) hI.out;refine⟨_,ho.out.read,?_⟩;rw[e];exact hend.out _ X
   clear ho hI hIl;go_wp2_with (fail);go_ret;exact⟨A,c,rfl,FIN.out,X⟩
theorem ZjC (P:Program)(t:TypeId)(a b:Txt)(h:a.length+b.length<=1000000)(u:World) : (binOp .add t (.string ⟨a.toArray⟩) (.string ⟨b.toArray⟩)).run P u=.ok (.string ⟨(a++b).toArray⟩) u:=by
 rw[binOp_string_add,run_string_add_sum _ _ _ (by simp[ByteArray.size];omega)]
 congr 2
theorem Zc6 {P:Program}{ops:Array Oper}{i:Nat}{T T2 t:TypeId}{x y:Operand}{d:Option Tmp}{A:Act}{w:World}{K:Act->World->Prop}{Q:Exit->Act->World->Prop}(hi:XU ops i=some (none,.binOp .add T x y T2,t,d))(a b:Txt)(hx:A.eval x=.string ⟨a.toArray⟩)(hy:A.eval y=.string ⟨b.toArray⟩)(hl:a.length+b.length<=1000000)(hK:K (A.put d (.string ⟨(a++b).toArray⟩)) w) : wpOp P ops Q i K A w :=
 Z5 hi _ (by simp[Ze,execOp,hx,hy,eqGuard,ZjC P T a b hl]) hK
theorem XD (a b:Txt) : (⟨a.toArray⟩:ByteArray)++⟨b.toArray⟩=⟨(a++b).toArray⟩:=by
 refine ByteArray.ext ?_;simp
theorem JO (S:List Rec)(k:Nat) : ((S.take k).map fun r=>Yf r.kind).length<=k:=by rw[List.length_map];exact List.length_take_le _ _
theorem ZeD (i:InstP)(us:List Value)(A0:Option Addr)(c0:Nat)(rs:List Rec)(w:World)(H:RInst w us i)(hc:Zk i=0)(hx:RdR w 38 A0 rs)(hl:rs.length<=1000)(hp:∀ r∈rs,r.path.length<=1000) :
  Calls Tryz.prog 26 #[.agg (List.toArray us),.slice A0 rs.length c0] w (YQ (Yi (Zo i) (ZB i) rs) w):=by
 have KO:=XT hc;have DL:=Wo hc;have SO:=fun(W:World) (x:Ext w W)=>ZbJ A0 c0 rs W (hx.ext x) hl hp
 unfold Jl at SO;have RE:=fun(W:World) (x:Ext w W) (l:Wd) (h:l.length<=1000)=>QJ i us l W (H.ext x) hc h
 have RK:Hid (∀ (l:Wd) (a:List Rec),YF (Zo i) (ZB i) l=some a->(∀ r∈a,r.path.length<=1000)/\a.length=l.length):=Hd fun l a h=>by
  obtain⟨h1,h2⟩:=Zbr (U5 hc) KO.len KO.kid h;exact⟨fun r hr=>by have:=KO.len _ (h1 r hr).1;omega,h2⟩
 have WB:Hid (∀ r∈ZC rs,Yf r.kind=0->Yi (Zo i) (ZB i) rs=([],8)):=Hd fun r hr h=>ZcB hr h
 have WR:Hid ((∀ r∈ZC rs,Yf r.kind≠0)->Yi (Zo i) (ZB i) rs=if YF (Zo i) (ZB i) ((ZC rs).map fun r=>Yf r.kind)=some (ZC rs) then((ZC rs).map fun r=>Yf r.kind,0) else([],8)):=Hd fun h=>Zbs h
 have SL:=Hd (XC rs);have SP:Hid (∀ r∈ZC rs,r.path.length<=1000):=Hd fun r hr=>hp r (J5 hr)
 generalize ZC rs=S at *;obtain⟨R,hR⟩:∃ R,Yi (Zo i) (ZB i) rs=R:=⟨_,rfl⟩;rw[hR] at WB WR ⊢;generalize Zo i=D at *;generalize ZB i=kd at *;clear KO hx hp hR DL hc;obtain⟨A,a,B,b,Dd,d,rfl,-,-,-⟩:=H;obtain⟨kind,hkd⟩:∃ q,Hid (q=i.kind):=⟨_,rfl⟩;obtain⟨nn,hnn⟩:∃ q,Hid (q=i.n):=⟨_,rfl⟩;obtain⟨cap,hcap⟩:∃ q,Hid (q=i.cap):=⟨_,rfl⟩;obtain⟨lxw,hxw⟩:∃ q,Hid (q=i.weight.length):=⟨_,rfl⟩;obtain⟨lxv,hxv⟩:∃ q,Hid (q=i.value.length):=⟨_,rfl⟩;obtain⟨lco,hco⟩:∃ q,Hid (q=i.cost.length):=⟨_,rfl⟩;rw[<-hkd.out,<-hnn.out,<-hcap.out,<-hxw.out,<-hxv.out,<-hco.out] at RE ⊢;clear hkd hnn hcap hxw hxv hco;obtain⟨n,hn⟩:∃ n,rs.length=n:=⟨_,rfl⟩;rw[hn] at SL hl SO ⊢;replace SO:=Hd SO;replace RE:=Hd RE;clear hn;have B1:Hid (Blk (w.alloc (.cells #[.int .i64 kind,.int .i64 nn,.int .i64 cap,.slice A lxw a,.slice B lxv b,.slice Dd lco d] 25)) w.heap.size 25 #[.int .i64 kind,.int .i64 nn,.int .i64 cap,.slice A lxw a,.slice B lxv b,.slice Dd lco d]):=.new rfl;go_enter Tryz.func26,Tryz.ntmps26;go_wp2_with (fail);refine(SO.out _ XI).mono ?_;rintro e w2 ⟨A1,c1,rfl,r2,x2⟩;have X2:=Hd (Ext.tr (a:=w) XI x2);have B2:=Hd (B1.out.ext x2);have R2:=Hd r2;clear r2 x2 SO B1;go_wp2_with (fail);go_loopw [7,8] (fun v u wr=>∃ (k:Nat) (L:Wd),v=.string ⟨L.toArray⟩/\u=.int .i64 k/\k<=n/\Hid (L=(S.take k).map fun r=>Yf r.kind)/\Hid (∀ r∈S.take k,Yf r.kind≠0)/\Hid (Ext w2 wr)) (fun _ u _=>n-(intOf u).toNat)
 case atStart=>exact⟨0,[],rfl,rfl,by omega,Hd (by simp),Hd (by simp),Hd XI⟩
 case round =>
  obtain⟨wo,rfl⟩:=Wq wr;obtain⟨k,L1,rfl,rfl,hk,hL1,OK,Y⟩:=hrel;have sn:=SL.out
  by_cases hlt:k<n
  ·obtain⟨vs,d1,d2⟩:=R2.out
   obtain⟨bb,off,r,A2,c2,rfl,hb,a0,a1,o2,hr⟩:=(d2.ext Y.out).at (d1.ext Y.out) (by omega:k<S.length);have hrm:=List.mem_of_getElem? hr.out;have hsn:=Hd (Qz hr.out);clear d1 d2 o2 a1;obtain⟨rk,hrk⟩:∃ rk,r.kind=rk:=⟨_,rfl⟩;rw[hrk] at a0
   by_cases hbad:1<=rk/\rk<=3
   ·have hrk3:rk=1\/rk=2\/rk=3:=by omega
    clear hrm hbad sn hr WB WR RE RK SP;replace hrk:=Hd hrk;rcases hrk3 with rfl | rfl | rfl
    ·have e9:Hid ((S.take (k+1)).map (fun r=>Yf r.kind)=(S.take k).map (fun r=>Yf r.kind)++[112]):=Hd (by rw[hsn.out,List.map_append,List.map_cons,List.map_nil,hrk.out];rfl)
     have e8:Hid ((⟨((S.take k).map fun r=>Yf r.kind).toArray⟩:ByteArray)++⟨#[112]⟩=⟨((S.take (k+1)).map fun r=>Yf r.kind).toArray⟩):=Hd (by rw[e9.out];exact XD _ [112]);have OK2:Hid (∀ r∈S.take (k+1),Yf r.kind≠0):=Hd (by
      rw[hsn.out];intro q hq;rcases List.mem_append.1 hq with h | h
      ·exact OK.out q h
      ·obtain rfl:=List.mem_singleton.1 h
       rw[hrk.out]
       decide)
     have l8:=Hd (JO S k);clear hsn hrk OK e9;obtain⟨L2,hL2⟩:∃ L2,Hid (L2=(S.take (k+1)).map fun r=>Yf r.kind):=⟨_,Hd rfl⟩;rw[<-hL2.out] at e8;rw[<-hL1.out] at e8 l8;have l9:¬9223372036854775807<L1.length+1:=by have:=l8.out;omega
     go_wp2_with (fail);go_roundw
     case rel=>exact⟨k+1,L2,by rw[e8.out],by go_num,by omega,hL2,OK2,Y.out.tr XI⟩
     case measure=>(simp only[intOf];omega)
    ·have e9:Hid ((S.take (k+1)).map (fun r=>Yf r.kind)=(S.take k).map (fun r=>Yf r.kind)++[98]):=Hd (by rw[hsn.out,List.map_append,List.map_cons,List.map_nil,hrk.out];rfl)
     have e8:Hid ((⟨((S.take k).map fun r=>Yf r.kind).toArray⟩:ByteArray)++⟨#[98]⟩=⟨((S.take (k+1)).map fun r=>Yf r.kind).toArray⟩):=Hd (by rw[e9.out];exact XD _ [98]);have OK2:Hid (∀ r∈S.take (k+1),Yf r.kind≠0):=Hd (by
      rw[hsn.out];intro q hq;rcases List.mem_append.1 hq with h | h
      ·exact OK.out q h
      ·obtain rfl:=List.mem_singleton.1 h
       rw[hrk.out]
       decide)
     have l8:=Hd (JO S k);clear hsn hrk OK e9;obtain⟨L2,hL2⟩:∃ L2,Hid (L2=(S.take (k+1)).map fun r=>Yf r.kind):=⟨_,Hd rfl⟩;rw[<-hL2.out] at e8;rw[<-hL1.out] at e8 l8;have l9:¬9223372036854775807<L1.length+1:=by have:=l8.out;omega
     go_wp2_with (fail);go_roundw
     case rel=>exact⟨k+1,L2,by rw[e8.out],by go_num,by omega,hL2,OK2,Y.out.tr XI⟩
     case measure=>(simp only[intOf];omega)
    ·have e9:Hid ((S.take (k+1)).map (fun r=>Yf r.kind)=(S.take k).map (fun r=>Yf r.kind)++[108]):=Hd (by rw[hsn.out,List.map_append,List.map_cons,List.map_nil,hrk.out];rfl)
     have e8:Hid ((⟨((S.take k).map fun r=>Yf r.kind).toArray⟩:ByteArray)++⟨#[108]⟩=⟨((S.take (k+1)).map fun r=>Yf r.kind).toArray⟩):=Hd (by rw[e9.out];exact XD _ [108]);have OK2:Hid (∀ r∈S.take (k+1),Yf r.kind≠0):=Hd (by
      rw[hsn.out];intro q hq;rcases List.mem_append.1 hq with h | h
      ·exact OK.out q h
      ·obtain rfl:=List.mem_singleton.1 h
       rw[hrk.out]
       decide)
     have l8:=Hd (JO S k);clear hsn hrk OK e9;obtain⟨L2,hL2⟩:∃ L2,Hid (L2=(S.take (k+1)).map fun r=>Yf r.kind):=⟨_,Hd rfl⟩;rw[<-hL2.out] at e8;rw[<-hL1.out] at e8 l8;have l9:¬9223372036854775807<L1.length+1:=by have:=l8.out;omega
     go_wp2_with (fail);go_roundw
     case rel=>exact⟨k+1,L2,by rw[e8.out],by go_num,by omega,hL2,OK2,Y.out.tr XI⟩
     case measure=>(simp only[intOf];omega)
   ·obtain rfl:=WB.out r hrm (by
     by_cases h:Yf r.kind=0
     ·exact h
     ·exact absurd (ZcA h) (by rw[hrk];exact hbad))
    have X5:=Hd (X2.out.tr Y.out);clear WB WR hrm hrk hsn sn hr RE RK SP OK hL1
    by_cases h1:rk<1
    ·clear hbad
     go_wp2_with (fail);go_ret2;exact⟨rfl,X5.out.tr XI⟩
    ·have h3:3<rk:=by omega
     clear hbad;go_wp2_with (fail);go_ret2;exact⟨rfl,X5.out.tr XI⟩
  ·obtain rfl:k=n:=by omega
   have ht:S.take k=S:=by rw[<-sn];exact List.take_length
   rw[ht] at hL1 OK;have WR1:=WR.out OK.out;rw[<-hL1.out] at WR1;have ll:L1.length=k:=by rw[hL1.out,List.length_map,sn]
   have RD:=Hd (fun(W:World) (x:Ext w W)=>RE.out W x L1 (by omega));have RK1:=Hd (RK.out L1);have X5:=Hd (X2.out.tr Y.out);have B5:=B2.out.ext Y.out;have t0:=B5.c0;have t1:=B5.c1;have t2:=B5.c2;have t3:=B5.c3;have t4:=B5.c4;have t5:=B5.c5;replace WR1:=Hd WR1;replace ll:=Hd ll;clear WB WR OK RE RK ht hL1 B5 B2;go_wp2_with (fail);refine(RD.out _ (X5.out.tr XI)).mono ?_;intro e w5 hpost;clear t0 t1 t2 t3 t4 t5
   cases hm:YF D kd L1 with
   | none =>
    rw[hm] at hpost;obtain⟨pl,er,rfl,hne,x5⟩:=hpost;have e1:(er != 0)=true:=by simpa using hne
    have ER:Hid (R=([],8)):=Hd (by rw[WR1.out,hm,if_neg (by simp)]);have X6:=Hd (X5.out.tr (Ext.tr XI x5));clear x5 hne hm WR1 RK1 RD;go_wp2_with (fail);go_ret2;rw[ER.out];exact⟨rfl,X6.out.tr XI⟩
   | some m =>
    rw[hm] at hpost;obtain⟨M,mc,rfl,r5,x5⟩:=hpost;obtain⟨pm,lm⟩:=RK1.out m hm;have X6:=Hd (X5.out.tr (Ext.tr XI x5));have EF:=fun(W:World) (x:Ext w5 W)=>Zhr M A1 mc c1 m S W ⟨_,(r5.ext x).choose_spec.1.read,(r5.ext x).choose_spec.2.more (Nat.zero_le _)⟩ (R2.out.ext (Y.out.tr (Ext.tr XI (x5.tr x)))) (by have:=ll.out;omega) (by omega) pm SP.out
    have ER:Hid (R=if m=S then(L1,0) else([],8)):=Hd (by
     rw[WR1.out,hm]
     by_cases h:m=S
     ·rw[if_pos (by rw[h]),if_pos h]
     ·rw[if_neg (fun hh=>h (Option.some.inj hh)),if_neg h])
    obtain⟨q,hq⟩:∃ q,decide (m=S)=q:=⟨_,rfl⟩;rw[sn,hq] at EF;replace EF:=Hd EF;replace hq:=Hd hq;clear r5 RK1 RD WR1 hm pm lm x5;go_wp2_with (fail);refine(EF.out _ XI).mono ?_;rintro e w6 ⟨rfl,x6⟩;have X7:=Hd (X6.out.tr (Ext.tr XI x6));clear x6 EF
    cases q with
    | true =>
     have EL:Hid (R=(L1,0)):=Hd (by rw[ER.out,if_pos (of_decide_eq_true hq.out)]);clear ER hq;go_wp2_with (fail);go_ret2;rw[EL.out];exact⟨rfl,X7.out.tr XI⟩
    | false =>
     have EL:Hid (R=([],8)):=Hd (by rw[ER.out,if_neg (of_decide_eq_false hq.out)]);clear ER hq;go_wp2_with (fail);go_ret2;rw[EL.out];exact⟨rfl,X7.out.tr XI⟩
theorem Zkd (i:InstP)(us:List Value)(P:Option Addr)(c:Nat)(p:List Int)(w:World)(H:RInst w us i)(hc:Zk i=0)(hk:i.kind=1)(hP:RdI w P p)(lp:p.length<=1000000000) :
  Calls Tryz.prog 56 #[.agg (List.toArray us),.slice P p.length c] w fun e w'=>e=.returned (.tuple #[.int .i64 (Zw i p).1,.int .i64 (Zw i p).2])/\Ext w w':=by
 have e:Zw i p=Ym i.cap (wsP i) (vsP i) p:=by unfold Zw;rw[if_pos hk]
 have KI:Hid (∀ W,Ext w W->Calls Tryz.prog 86 #[.agg (List.toArray us),.slice P p.length c] W fun e w'=>e=.returned (.tuple #[.int .i64 (Zw i p).1,.int .i64 (Zw i p).2])/\Ext W w'):=fun W x=>by
  refine(ZfU i us P c p W (H.ext x) (Yj hc hk) (hP.ext x) lp).mono ?_;rintro e1 w1 ⟨rfl,x1⟩;exact⟨by first | (rw[e];done) | (rw[e];rfl),x1⟩
 clear e hc;generalize (Zw i p).1=l at *;generalize (Zw i p).2=er at *;obtain⟨kind,nn,cap,xw,xv,co⟩:=i;obtain⟨A,a,B,b,D,d,rfl,-,-,-⟩:=H;simp only at *;subst hk;go_enter Tryz.func56,Tryz.ntmps56;go_wp2_with (fail);refine(KI.out _ XI).mono ?_;rintro e w1 ⟨rfl,x1⟩;have X1:=Hd (Ext.tr (a:=w) XI x1);clear x1 KI;go_wp2_with (fail);go_ret2;exact⟨rfl,X1.out.tr XI⟩
theorem Zke (i:InstP)(us:List Value)(P:Option Addr)(c:Nat)(p:List Int)(w:World)(H:RInst w us i)(hc:Zk i=0)(hk:i.kind=2)(hP:RdI w P p)(lp:p.length<=1000000000) :
  Calls Tryz.prog 56 #[.agg (List.toArray us),.slice P p.length c] w fun e w'=>e=.returned (.tuple #[.int .i64 (Zw i p).1,.int .i64 (Zw i p).2])/\Ext w w':=by
 have e:Zw i p=ZX i.cost p:=by unfold Zw;rw[if_neg (by omega),if_pos hk]
 have KI:Hid (∀ W,Ext w W->Calls Tryz.prog 87 #[.agg (List.toArray us),.slice P p.length c] W fun e w'=>e=.returned (.tuple #[.int .i64 (Zw i p).1,.int .i64 (Zw i p).2])/\Ext W w'):=fun W x=>by
  refine(ZcU i us P c p W (H.ext x) (Zt hc (by omega)) (hP.ext x) lp).mono ?_;rintro e1 w1 ⟨rfl,x1⟩;exact⟨by first | (rw[e];done) | (rw[e];rfl),x1⟩
 clear e hc;generalize (Zw i p).1=l at *;generalize (Zw i p).2=er at *;obtain⟨kind,nn,cap,xw,xv,co⟩:=i;obtain⟨A,a,B,b,D,d,rfl,-,-,-⟩:=H;simp only at *;subst hk;go_enter Tryz.func56,Tryz.ntmps56;go_wp2_with (fail);refine(KI.out _ XI).mono ?_;rintro e w1 ⟨rfl,x1⟩;have X1:=Hd (Ext.tr (a:=w) XI x1);clear x1 KI;go_wp2_with (fail);go_ret2;exact⟨rfl,X1.out.tr XI⟩
theorem Zkf (i:InstP)(us:List Value)(P:Option Addr)(c:Nat)(p:List Int)(w:World)(H:RInst w us i)(hc:Zk i=0)(hk:i.kind=3)(hP:RdI w P p)(lp:p.length<=1000000000) :
  Calls Tryz.prog 56 #[.agg (List.toArray us),.slice P p.length c] w fun e w'=>e=.returned (.tuple #[.int .i64 (Zw i p).1,.int .i64 (Zw i p).2])/\Ext w w':=by
 have e:Zw i p=ZZ i.cost (Wh i.cost) p:=by unfold Zw;rw[if_neg (by omega),if_neg (by omega)]
 have KI:Hid (∀ W,Ext w W->Calls Tryz.prog 88 #[.agg (List.toArray us),.slice P p.length c] W fun e w'=>e=.returned (.tuple #[.int .i64 (Zw i p).1,.int .i64 (Zw i p).2])/\Ext W w'):=fun W x=>by
  refine(ZcW i us P c p W (H.ext x) (Zt hc (by omega)) (hP.ext x) lp).mono ?_;rintro e1 w1 ⟨rfl,x1⟩;exact⟨by first | (rw[e];done) | (rw[e];rfl),x1⟩
 clear e hc;generalize (Zw i p).1=l at *;generalize (Zw i p).2=er at *;obtain⟨kind,nn,cap,xw,xv,co⟩:=i;obtain⟨A,a,B,b,D,d,rfl,-,-,-⟩:=H;simp only at *;subst hk;go_enter Tryz.func56,Tryz.ntmps56;go_wp2_with (fail);refine(KI.out _ XI).mono ?_;rintro e w1 ⟨rfl,x1⟩;have X1:=Hd (Ext.tr (a:=w) XI x1);clear x1 KI;go_wp2_with (fail);go_ret2;exact⟨rfl,X1.out.tr XI⟩
theorem ZjD (i:InstP)(us:List Value)(P:Option Addr)(c:Nat)(p:List Int)(w:World)(H:RInst w us i)(hc:Zk i=0)(hP:RdI w P p)(lp:p.length<=1000000000) :
  Calls Tryz.prog 56 #[.agg (List.toArray us),.slice P p.length c] w fun e w'=>e=.returned (.tuple #[.int .i64 (Zw i p).1,.int .i64 (Zw i p).2])/\Ext w w':=by
 rcases ZL hc with h | h | h
 ·exact Zkd i us P c p w H hc h hP lp
 ·exact Zke i us P c p w H hc h hP lp
 ·exact Zkf i us P c p w H hc h hP lp
theorem ZeE (i:InstP)(us:List Value)(n:Int)(P:Option Addr)(c:Nat)(p:List Int)(w:World)(H:RInst w us i)(hc:Zk i=0)(hP:RdI w P p)(ip:Ints p)(lp:p.length<=1000) :
  Calls Tryz.prog 27 #[.agg (List.toArray us),.agg #[.int .i64 n,.slice P p.length c]] w fun e w'=>e=.returned (.tuple #[txS (YV i n p).1,.int .i64 (YV i n p).2])/\Ext w w':=by
 have BO:=fun(W:World) (y:Ext w W)=>ZjD i us P c p W (H.ext y) hc (hP.ext y) (by omega)
 have rg:=QG hc p;have LK:=Hd (fun h:(Zw i p).2=0=>fun hn:n<1\/3<n=>Zbt h hn);have LY:=Hd (fun h:(Zw i p).2=0=>fun hn:¬(n<1\/3<n)=>JM h hn);have LN:=Hd (fun h:(Zw i p).2≠0=>Zez (n:=n) h);unfold txS;generalize YV i n p=LL at *;generalize (Zw i p).1=b at *;generalize (Zw i p).2=er at *;clear hc;obtain⟨kind,nn,cap,xw,xv,co⟩:=i;obtain⟨A,a,B,b2,D,d,rfl,-,-,-⟩:=H;simp only at *;have B1:Hid (Blk ((w.alloc (.cells #[.int .i64 kind,.int .i64 nn,.int .i64 cap,.slice A xw.length a,.slice B xv.length b2,.slice D co.length d] 25)).alloc (.cells #[.int .i64 n,.slice P p.length c] 38)) (w.heap.size+1) 38 #[.int .i64 n,.slice P p.length c]):=.new (by simp)
 by_cases h:er=0
 ·subst h
  by_cases hn:n<1\/3<n
  ·rw[LK.out rfl hn]
   replace BO:=Hd BO;have hn2:Hid (n<1\/3<n):=hn;clear LK LY LN rg hP ip
   by_cases h1:n<1
   all_goals
    have h3:Hid (n<1\/3<n):=hn;clear hn
    try (have h4:3<n:=(hn2.out.resolve_left h1))
    go_enter Tryz.func27,Tryz.ntmps27;go_wp2_with (fail);refine(BO.out _ XI).mono ?_;rintro e w1 ⟨rfl,x1⟩;have X1:=Hd (Ext.tr (a:=w) XI x1);have b1:=B1.out.ext x1;have t0:=b1.c0;have t1:=b1.c1;clear x1 b1 B1;go_wp2_with (fail);go_ret2;exact⟨rfl,X1.out.tr XI⟩
  ·rw[LY.out rfl hn]
   have h1:¬n<1:=fun h=>hn (.inl h)
   have h3:¬3<n:=fun h=>hn (.inr h)
   have WB:=Hd (fun(W:World)=>Qw b rg.1 rg.2 W);have lb:=Lib.itoa_length_le _ rg.1 rg.2;have lr:∀ k:Nat,(Lib.repeatL ([32,32]:Txt) k).length=2*k:=Zar;have SN:∀ k:Nat,(⟨(Lib.repeatL ([32,32]:Txt) k).toArray⟩:ByteArray)++⟨#[32,32]⟩=⟨(Lib.repeatL ([32,32]:Txt) (k+1)).toArray⟩:=fun k=>by rw[<-ZeA,<-XD]
   replace lr:=Hd lr;replace SN:=Hd SN;replace BO:=Hd BO;clear LK LY LN hn;go_enter Tryz.func27,Tryz.ntmps27;go_wp2_with (fail);refine(BO.out _ XI).mono ?_;rintro e w1 ⟨rfl,x1⟩;have X1:=Hd (Ext.tr (a:=w) XI x1);have b1:=Hd (B1.out.ext x1);have t0:=b1.out.c0;have t1:=b1.out.c1;clear x1 B1 BO;go_wp2_with (fail);clear t0 t1;go_loopw [8,9] (fun v8 v9 wr=>∃ k:Nat,v8=.string ⟨(Lib.repeatL ([32,32]:Txt) k).toArray⟩/\v9=.int .i64 k/\k<=p.length/\Hid (Ext w1 wr)) (fun _ v9 _=>p.length-(intOf v9).toNat)
   case atStart=>exact⟨0,rfl,rfl,by omega,XI⟩
   case round =>
    obtain⟨wo,rfl⟩:=Wq wr;obtain⟨k,rfl,rfl,hk,Y⟩:=hrel;have bb:=Hd (b1.out.ext Y.out);have X2:=Hd (X1.out.tr Y.out);have d0:=bb.out.c0;have d1:=bb.out.c1;have lk:¬9223372036854775807<(Lib.repeatL ([32,32]:Txt) k).length+2:=by have:=lr.out k;omega
    by_cases hkl:(k:Int)<(p.length:Int)
    ·go_wp2_with (fail)
     go_roundw
     case rel=>exact⟨k+1,by rw[<-SN.out k],by go_num,by omega,Y.out.tr XI⟩
     case measure=>(simp only[intOf];omega)
    ·obtain rfl:k=p.length:=by omega
     have lt:=lr.out p.length;have zB:=bb.out.lt;have LT:Hid (Zaa n p b=Lib.repeatL [32,32] p.length++Ur p++[32]++V7 n++[32,97,116,32]++Lib.itoa b):=Hd rfl;have NM:Hid (Ur p=if p.length=0 then [114,111,111,116] else Lib.itoa (p.getD (p.length-1) 0)):=Hd rfl;generalize hlt:Zaa n p b=LTX at *;generalize hnm:Ur p=nx at *;replace hlt:=Hd hlt;replace hnm:=Hd hnm;clear lr SN;have hn3:n=1\/n=2\/n=3:=by omega
     clear h1 h3 lk;generalize Lib.repeatL ([32,32]:Txt) p.length=tr at *;go_upto_if 39 with(fail);go_cut [8] (fun v8 wx=>∃ PX:Txt,v8=.string ⟨PX.toArray⟩/\Hid (PX=tr++nx)/\PX.length<=3000/\Hid (Ext wo wx))
     case first =>
      clear hn3 LT hlt
      by_cases hp:p.length=0
      ·have hp0:((p.length:Int)==0)=true:=by rw[beq_iff_eq];omega
       rw[if_pos hp] at NM;obtain⟨PX,hPX⟩:∃ PX,tr++nx=PX:=⟨_,rfl⟩;have e0:(⟨tr.toArray⟩:ByteArray)++⟨#[114,111,111,116]⟩=⟨PX.toArray⟩:=by rw[<-hPX,NM.out,show (#[114,111,111,116]:Array UInt8)=[114,111,111,116].toArray from rfl,XD]
       have lPX:PX.length<=3000:=by rw[<-hPX,NM.out,List.length_append,List.length_cons,List.length_cons,List.length_cons,List.length_cons,List.length_nil];omega
       have lA:¬9223372036854775807<tr.length+4:=by omega
       replace hPX:=Hd hPX.symm;clear NM hnm hP ip;replace hp:=Hd hp;replace e0:=Hd e0;go_wp2_with (fail);go_meet;exact⟨PX,by rw[<-e0.out],hPX,lPX,XI⟩
      ·have hp0:((p.length:Int)==0)=false:=by rw[beq_eq_false_iff_ne];omega
       obtain⟨pb,po,x,rfl,zb,cx,ex,-⟩:=hP.at (k:=p.length-1) (by omega);have ix:=ip.get ex.out;rw[if_neg hp,getD_some ex.out] at NM;have lx:=Lib.itoa_length_le _ ix.1 ix.2;obtain⟨PX,hPX⟩:∃ PX,tr++nx=PX:=⟨_,rfl⟩;have e0:(⟨tr.toArray⟩:ByteArray)++⟨(Lib.itoa x).toArray⟩=⟨PX.toArray⟩:=by rw[<-hPX,NM.out,XD]
       have lPX:PX.length<=3000:=by rw[<-hPX,NM.out,List.length_append];omega
       have WX:=Hd (fun W:World=>Qw x ix.1 ix.2 W);have lA:¬9223372036854775807<tr.length+(Lib.itoa x).length:=by omega
       have wl:IntKind.i64.wrap ((p.length:Int)-1)=((p.length-1:Nat):Int):=by rw[show (p.length:Int)-1=((p.length-1:Nat):Int) by omega];exact IntWalk.i64_in _ (by omega)
       have q1:(0:Int)<=((p.length-1:Nat):Int):=by omega
       have q2:((p.length-1:Nat):Int)<(p.length:Int):=by omega
       have d9:wo.cell? ⟨pb,po+(p.length-1),none⟩=some (.int .i64 x):=(X2.out.cell (p:=⟨pb,po+(p.length-1),none⟩) zb).trans cx;replace hPX:=Hd hPX.symm;replace e0:=Hd e0;clear NM hnm hP ip ex ix lx;go_wp2_with (fail);refine(WX.out _).mono ?_;rintro e w7 ⟨rfl,x7⟩;have y7:=Hd (Ext.tr (a:=wo) XI x7);clear x7;go_wp2_with (fail);go_meet;exact⟨PX,by rw[<-e0.out],hPX,lPX,y7⟩
     case rest =>
      obtain⟨PX,rfl,hPX,lPX,y7⟩:=hcut;obtain⟨w7,rfl⟩:=Wq wc;have X7:=Hd (X2.out.tr y7.out);have b7:=Hd (bb.out.ext y7.out);rw[<-hPX.out] at LT;obtain⟨m,KW,rfl,hm3,hkw,lKW,hcell⟩:∃ (m:Nat) (KW:Txt),n=(m:Int)+1/\m<3/\V7 n=KW/\KW.length<=6/\Hid ((#[.string ⟨#[112,114,117,110,101,100]⟩,.string ⟨#[98,114,97,110,99,104]⟩,.string ⟨#[108,101,97,102]⟩]:Array Value)[m]?=some (.string ⟨KW.toArray⟩)):=by
       rcases hn3 with rfl | rfl | rfl
       ·exact⟨0,[112,114,117,110,101,100],rfl,by omega,rfl,by decide,Hd rfl⟩
       ·exact⟨1,[98,114,97,110,99,104],rfl,by omega,rfl,by decide,Hd rfl⟩
       ·exact⟨2,[108,101,97,102],rfl,by omega,rfl,by decide,Hd rfl⟩
      rw[hkw] at LT;have hm0:(0:Int)<=(m:Int):=by omega
      have hm4:(m:Int)<3:=by omega
      have hmw:IntKind.i64.wrap (m:Int)=(m:Int):=IntWalk.i64_in _ (by omega);have f0:=b7.out.c0;have zC:=b7.out.lt;clear hkw hn3 d0 d1 NM hnm hP ip;go_upto_region 14 with(fail);refine wp_region_any (by kernel_rfl) ?_
      change wpAny _ _ _ _ _ _ _ (World.drew _)
      refine Zc (i:=0) (op:=Op.move (Operand.tmp 8)) (t:=9) (d:=some 53) (v:=_) rfl (by decide +kernel) (fun _ _ _ h=>h) (by intro _;unfold Ze;go_simp;try with_reducible rfl) ?_
      try simp only[lay]
      refine Zc (i:=3) (op:=Op.fieldAddr 38 (Operand.tmp 3) 0) (t:=0) (d:=some 56) (v:=_) rfl (by decide +kernel) (fun _ _ _ h=>h) (by intro _;unfold Ze;go_simp;try with_reducible rfl) ?_
      try simp only[lay]
      refine Zc (i:=10) (op:=Op.move (Operand.tmp 6)) (t:=3) (d:=some 63) (v:=_) rfl (by decide +kernel) (fun _ _ _ h=>h) (by intro _;unfold Ze;go_simp;try with_reducible rfl) ?_
      try simp only[lay]
      refine ZM (n:=2) [(1,some 54),(2,some 55),(4,some 57),(5,some 58),(6,some 59),(7,some 60),(8,some 61),(9,some 62),(11,some 64),(12,some 65)] (Ext w7) (VF (fun | 1=>some (.string ⟨(PX++[32]).toArray⟩) | 4=>some (.int .i64 ((m:Int)+1)) | 5=>some (.int .i64 (m:Int)) | 7=>some (.string ⟨KW.toArray⟩) | 8=>some (.string ⟨((PX++[32])++KW).toArray⟩) | 9=>some (.string ⟨(((PX++[32])++KW)++[32,97,116,32]).toArray⟩) | 11=>some (.string ⟨(Lib.itoa b).toArray⟩) | 12=>some (.string ⟨((((PX++[32])++KW)++[32,97,116,32])++Lib.itoa b).toArray⟩) | _=>none) (fun i v W=>(i=2->∃ z,v=.slice (some ⟨z,0,none⟩) 3 3/\Blk W z 9 #[.string ⟨#[112,114,117,110,101,100]⟩,.string ⟨#[98,114,97,110,99,104]⟩,.string ⟨#[108,101,97,102]⟩])/\(i=6->∃ z,v=.pointer (some ⟨z,m,none⟩)/\Blk W z 9 #[.string ⟨#[112,114,117,110,101,100]⟩,.string ⟨#[98,114,97,110,99,104]⟩,.string ⟨#[108,101,97,102]⟩]))) Ext #[true,true,true,true,true,true,true,true,true,true,true,true,true,false,false] (by decide +kernel) (VF.stab ?_) ?_ ?_ (by first | exact(Ext.rf _).drew | exact Ext.rf _)
      ·intro j v W W' _ gz hx
       obtain⟨g0,g1⟩:=gz;exact⟨fun h=>(g0 h).imp fun z hz=>⟨hz.1,hz.2.ext hx⟩,fun h=>(g1 h).imp fun z hz=>⟨hz.1,hz.2.ext hx⟩⟩
      ·intro pS hpm uS wS hRW hD K hK
       simp only[List.mem_cons,List.not_mem_nil,or_false] at hpm;rcases hpm with rfl | rfl | rfl | rfl | rfl | rfl | rfl | rfl | rfl | rfl
       ·( exact Zc6 (t:=9) (d:=some 54) rfl (PX) ([32]) (by kernel_rfl) (by kernel_rfl) (by simp only[List.length_append,List.length_cons,List.length_nil];omega) (hK _ _ (VF.mk rfl) hRW (Ext.rf _)))
       ·( exact Z5 (op:=Op.buildSlice 106 3 #[(0,Operand.const (Value.string { data:=#[112,114,117,110,101,100] })),(1,Operand.const (Value.string { data:=#[98,114,97,110,99,104] })),(2,Operand.const (Value.string { data:=#[108,101,97,102] }))]) (t:=106) (d:=some 55) rfl _ (by unfold Ze;go_simp;try rfl) (hK _ _ (VF.mg rfl ⟨(fun _=>⟨_,rfl,.new rfl⟩),(fun h=>absurd h (by decide))⟩) (hRW.alloc _) ((Ext.rf _).alloc _)))
       ·( have rX:=Zd hRW zC f0;exact Zv (T:=3) (x:=Operand.tmp 56) (t:=3) (d:=some 57) rfl (.pointer (some ⟨w.heap.size+1,0,none⟩)) (by kernel_rfl) (.int .i64 ((m:Int)+1)) (by go_simp) (hK _ _ (VF.mk rfl) hRW (Ext.rf _)))
       ·(have e4:uS 4=.int .i64 ((m:Int)+1):=(hD 4 (Zp (by kernel_rfl))).k rfl;exact Z5 (op:=Op.binOp BinOp.sub 3 (Operand.tmp 57) (Operand.const (Value.int IntKind.i64 1)) 3) (t:=3) (d:=some 58) rfl (.int .i64 (m:Int)) (by simp only[Zn,Act.put,List.setIfInBounds_toArray,List.set_cons_zero,List.set_cons_succ];unfold Ze;(try go_simp);(try simp only[e4]);(try go_simp);(try rfl);(try (exact IntWalk.i64_in _ (by omega)))) (hK _ _ (VF.mk rfl) hRW (Ext.rf _)))
       ·(have e5:uS 5=.int .i64 (m:Int):=(hD 5 (Zp (by kernel_rfl))).k rfl;obtain⟨z,ez,bz⟩:=((hD 2 (Zp (by kernel_rfl))).g rfl).1 rfl;exact XY (T:=106) (x:=Operand.tmp 55) (y:=Operand.tmp 58) (t:=0) (d:=some 59) rfl (.slice (some ⟨z,0,none⟩) 3 3) (.int .i64 (m:Int)) (Eq.trans (b:=uS 2) (by kernel_rfl) ez) (Eq.trans (b:=uS 5) (by kernel_rfl) e5) (.pointer (some ⟨z,m,none⟩)) (by go_simp) (hK _ _ (VF.mg rfl ⟨(fun h=>absurd h (by decide)),(fun _=>⟨z,rfl,bz⟩)⟩) hRW (Ext.rf _)))
       ·(obtain⟨z,ez,bz⟩:=((hD 6 (Zp (by kernel_rfl))).g rfl).2 rfl;have rX:wS.cell? ⟨z,m,none⟩=some (.string ⟨KW.toArray⟩):=(bz.cell m).trans (hcell.out);exact Zv (T:=9) (x:=Operand.tmp 59) (t:=9) (d:=some 60) rfl (.pointer (some ⟨z,m,none⟩)) (Eq.trans (b:=uS 6) (by kernel_rfl) ez) (.string ⟨KW.toArray⟩) (by go_simp) (hK _ _ (VF.mk rfl) hRW (Ext.rf _)))
       ·(have e1:uS 1=.string ⟨(PX++[32]).toArray⟩:=(hD 1 (Zp (by kernel_rfl))).k rfl;have e7:uS 7=.string ⟨KW.toArray⟩:=(hD 7 (Zp (by kernel_rfl))).k rfl;exact Zc6 (t:=9) (d:=some 61) rfl ((PX++[32])) (KW) (Eq.trans (b:=uS 1) (by kernel_rfl) e1) (Eq.trans (b:=uS 7) (by kernel_rfl) e7) (by simp only[List.length_append,List.length_cons,List.length_nil];omega) (hK _ _ (VF.mk rfl) hRW (Ext.rf _)))
       ·(have e8:uS 8=.string ⟨((PX++[32])++KW).toArray⟩:=(hD 8 (Zp (by kernel_rfl))).k rfl;exact Zc6 (t:=9) (d:=some 62) rfl (((PX++[32])++KW)) ([32,97,116,32]) (Eq.trans (b:=uS 8) (by kernel_rfl) e8) (by kernel_rfl) (by simp only[List.length_append,List.length_cons,List.length_nil];omega) (hK _ _ (VF.mk rfl) hRW (Ext.rf _)))
       ·( exact YC (f:=57) (xs:=#[Operand.tmp 63]) (ts:=#[3]) (t:=9) (d:=some 64) rfl #[.int .i64 b] (by go_simp) (by kernel_rfl) _ (Qw b rg.1 rg.2 _) (by rintro e w9 ⟨rfl,xx⟩;exact⟨_,rfl,hK _ _ (VF.mk rfl) (hRW.tr xx) xx⟩))
       ·(have e9:uS 9=.string ⟨(((PX++[32])++KW)++[32,97,116,32]).toArray⟩:=(hD 9 (Zp (by kernel_rfl))).k rfl;have e11:uS 11=.string ⟨(Lib.itoa b).toArray⟩:=(hD 11 (Zp (by kernel_rfl))).k rfl;exact Zc6 (t:=9) (d:=some 65) rfl ((((PX++[32])++KW)++[32,97,116,32])) (Lib.itoa b) (Eq.trans (b:=uS 9) (by kernel_rfl) e9) (Eq.trans (b:=uS 11) (by kernel_rfl) e11) (by simp only[List.length_append,List.length_cons,List.length_nil];omega) (hK _ _ (VF.mk rfl) hRW (Ext.rf _)))
      intro u w8 hR8 hV;have h1:=(hV (1,some 54) (by simp)).k rfl;have h4:=(hV (4,some 57) (by simp)).k rfl;have h5:=(hV (5,some 58) (by simp)).k rfl;have h7:=(hV (7,some 60) (by simp)).k rfl;have h8:=(hV (8,some 61) (by simp)).k rfl;have h9:=(hV (9,some 62) (by simp)).k rfl;have h11:=(hV (11,some 64) (by simp)).k rfl;have h12:=(hV (12,some 65) (by simp)).k rfl;simp only[Zn,h1,h4,h5,h7,h8,h9,h11,h12];clear hV h1 h4 h5 h7 h8 h9 h11 h12
      try simp only[lay]
      have X8:=Hd (X7.out.tr hR8);clear hR8
      try simp only[lay]
      refine Zc (i:=13) (op:=Op.assign (Operand.tmp 65)) (t:=9) (d:=some 4) (v:=_) rfl (by decide +kernel) (fun _ _ _ h=>h) (by intro _;unfold Ze;go_simp;try with_reducible rfl) ?_
      try simp only[lay]
      refine Zc (i:=14) (op:=Op.assign (Operand.const (Value.int IntKind.i64 0))) (t:=27) (d:=some 5) (v:=_) rfl (by decide +kernel) (fun _ _ _ h=>h) (by intro _;unfold Ze;go_simp;try with_reducible rfl) ?_
      try simp only[lay]
      refine wpAny_done (by kernel_rfl) ?_ _;go_simp;go_wp2_with (fail);go_ret2;exact⟨by rw[hlt.out.trans LT.out];simp,X8.out⟩
 ·rw[LN.out h]
  have e1:(er != 0)=true:=by simpa using h
  replace BO:=Hd BO;clear h LK LY LN rg hP ip B1;go_enter Tryz.func27,Tryz.ntmps27;go_wp2_with (fail);refine(BO.out _ XI).mono ?_;rintro e w1 ⟨rfl,x1⟩;have X1:=Hd (Ext.tr (a:=w) XI x1);clear x1;go_wp2_with (fail);go_ret2;exact⟨rfl,X1.out.tr XI⟩
theorem ZeF (i:InstP)(us:List Value)(A0:Option Addr)(c0:Nat)(rs:List Rec)(d:Int)(w:World)(H:RInst w us i)(hc:Zk i=0)(hx:RdR w 38 A0 rs)(hl:rs.length<=1000)(hp:∀ r∈rs,r.path.length<=1000) :
  Calls Tryz.prog 10 #[.agg (List.toArray us),.slice A0 rs.length c0,.int .i64 d] w (YQ (UV i rs d) w):=by
 have WA:=fun(W:World) (x:Ext w W)=>ZeD i us A0 c0 rs W (H.ext x) hc (hx.ext x) hl hp
 unfold YQ at WA;have RE:=fun(W:World) (x:Ext w W) (l:Wd) (h:l.length<=1000)=>QJ i us l W (H.ext x) hc h
 have LN:=fun(W:World) (x:Ext w W) (n:Int) (P:Option Addr) (c:Nat) (p:List Int) (hP:RdI W P p) (ip:Ints p) (lp:p.length<=1000)=>ZeE i us n P c p W (H.ext x) hc hP ip lp
 have OKS:=Hd (fun(h:(Yi (Zo i) (ZB i) rs).2=0)=>Zey h);have OKL:=Hd (fun(l:Wd) (a:List Rec) (h:YF (Zo i) (ZB i) l=some a)=>(Zbw hc h).1);have LO:=Hd (fun(p:List Int) (n:Int) (h:okW i p) (h1:1<=n) (h3:n<=3)=>Zgl hc h h1 h3);have OI:Hid (∀ p,okW i p->Ints p/\p.length<=1000):=Hd fun p h=>⟨Zbv h,by have:=(XT hc).len p h.1;have:=Wo hc;omega⟩
 have WE:=Hd (ZcC (Zo i) (ZB i) rs);have TE:=Hd (fun h:Yi (Zo i) (ZB i) rs=([],8)=>ZcE (d:=d) h);have TN:=Hd (fun(h:(Yi (Zo i) (ZB i) rs).2=0) (hd:d<0)=>ZcF h hd);have TY:=Hd (fun(h:(Yi (Zo i) (ZB i) rs).2=0) (hd:¬d<0)=>ZcG h hd);have LS:=XC rs;generalize UV i rs d=TR at *;generalize Yi (Zo i) (ZB i) rs=WO at *;generalize ZC rs=S at *;obtain⟨n,hn⟩:∃ n,rs.length=n:=⟨_,rfl⟩;rw[hn] at LS hl WA ⊢;clear hx hp hc;obtain⟨A,a,B,b,Dd,q,rfl,-,-,-⟩:=H;obtain⟨kind,hkd⟩:∃ q,Hid (q=i.kind):=⟨_,rfl⟩;obtain⟨nn,hnn⟩:∃ q,Hid (q=i.n):=⟨_,rfl⟩;obtain⟨cap,hcap⟩:∃ q,Hid (q=i.cap):=⟨_,rfl⟩;obtain⟨lxw,hxw⟩:∃ q,Hid (q=i.weight.length):=⟨_,rfl⟩;obtain⟨lxv,hxv⟩:∃ q,Hid (q=i.value.length):=⟨_,rfl⟩;obtain⟨lco,hco⟩:∃ q,Hid (q=i.cost.length):=⟨_,rfl⟩;rw[<-hkd.out,<-hnn.out,<-hcap.out,<-hxw.out,<-hxv.out,<-hco.out] at RE WA LN ⊢;clear hkd hnn hcap hxw hxv hco;replace hn:=Hd hn;replace WA:=Hd WA;replace RE:=Hd RE;replace LN:=Hd LN;have B1:Hid (Blk (w.alloc (.cells #[.int .i64 kind,.int .i64 nn,.int .i64 cap,.slice A lxw a,.slice B lxv b,.slice Dd lco q] 25)) w.heap.size 25 #[.int .i64 kind,.int .i64 nn,.int .i64 cap,.slice A lxw a,.slice B lxv b,.slice Dd lco q]):=.new rfl;unfold YQ;rcases WE.out with h0 | h0
 ·obtain⟨rd,ll⟩:=OKS.out h0
  obtain⟨L,er⟩:=WO;simp only at h0 rd ll;subst h0;simp only at WA
  by_cases hd:d<0
  ·obtain rfl:=TN.out rfl hd
   clear LN OKL LO OI OKS RE TE TN TY WE rd ll;go_enter Tryz.func10,Tryz.ntmps10;go_wp2_with (fail);refine(WA.out _ XI).mono ?_;rintro e w1 ⟨rfl,x1⟩;go_wp2_with (fail);go_ret2;exact⟨rfl,Ext.tr XI (x1.tr XI)⟩
  ·obtain rfl:=TY.out rfl hd
   have AL:=Hd (OKL.out _ _ rd);have RD:Hid (∀ W:World,Ext w W->Calls Tryz.prog 8 #[.agg (List.toArray [.int .i64 kind,.int .i64 nn,.int .i64 cap,.slice A lxw a,.slice B lxv b,.slice Dd lco q]),.string ⟨L.toArray⟩] W (U7 (some S) W)):=Hd fun W x=>by
    have h:=RE.out W x L (by have:=hn.out;omega);rw[rd] at h;exact h
   have FL:Hid (∀ r∈S,(YV i r.kind r.path).2=0/\(YV i r.kind r.path).1.length<=200):=Hd fun r hr=>by
    obtain⟨h1,h2,h3⟩:=AL.out r hr;exact LO.out _ _ h1 h2 h3
   have PI:Hid (∀ r∈S,Ints r.path/\r.path.length<=1000):=Hd fun r hr=>OI.out _ (AL.out r hr).1
   clear OKL LO OI OKS RE AL TE TN TY WE rd ll;unfold txS at LN;generalize hf:(fun r:Rec=>(YV i r.kind r.path).1)=f at *;have hF:Hid (∀ r,(YV i r.kind r.path).1=f r):=Hd fun r=>by rw[<-hf]
   clear hf;have sn:=Hd LS;clear LS;go_enter Tryz.func10,Tryz.ntmps10;go_wp2_with (fail);refine(WA.out _ XI).mono ?_;rintro e w1 ⟨rfl,x1⟩;have X1:=Hd (Ext.tr (a:=w) XI x1);have B5:=B1.out.ext x1;have t0:=B5.c0;have t1:=B5.c1;have t2:=B5.c2;have t3:=B5.c3;have t4:=B5.c4;have t5:=B5.c5;have B2:=Hd B5;clear x1 WA B5 B1;go_wp2_with (fail);refine(RD.out _ (X1.out.tr XI)).mono ?_;rintro e w2 ⟨M,mc,rfl,r2,x2⟩;have X2:=Hd (X1.out.tr (Ext.tr XI x2));rw[sn.out];have R2:Hid (∃ vs,RdV w2 38 M vs/\RecsO w2 0 vs S):=by
    obtain⟨vs,h1,h2⟩:=r2;exact Hd ⟨vs,h1.read,h2.more (Nat.zero_le _)⟩
   have B3:=Hd (B2.out.ext (Ext.tr XI x2));clear r2 x2 X1 RD t0 t1 t2 t3 t4 t5 B2;have F0:Hid (([]:Txt)=Yr f d (S.take 0)):=Hd (by simp[Yr]);go_wp2_with (fail);go_loopw [13,14,15,16] (fun v u _ _ wr=>∃ (k:Nat) (L:Txt),v=.string ⟨L.toArray⟩/\u=.int .i64 k/\k<=n/\Hid (L=Yr f d (S.take k))/\Hid (Ext w2 wr)) (fun _ u _ _ _=>n-(intOf u).toNat)
   case atStart=>exact⟨0,[],rfl,rfl,by omega,F0,Hd XI⟩
   case round =>
    obtain⟨wo,rfl⟩:=Wq wr;obtain⟨k,L1,rfl,rfl,hk,hL1,Y⟩:=hrel
    by_cases hlt:k<n
    ·obtain⟨vs,d1,d2⟩:=R2.out
     obtain⟨bb,off,r,A2,c2,rfl,hb,a0,a1,o2,hr⟩:=(d2.ext Y.out).at (d1.ext Y.out) (by have:=sn.out;omega:k<S.length);have hrm:=List.mem_of_getElem? hr.out
     by_cases hdp:(r.path.length:Int)<=d
     ·have HN:=Hd (ZcD (f:=f) hr.out hdp)
      obtain⟨fl0,fl1⟩:=FL.out r hrm;have LR:=Hd (fun(W:World) (x:Ext wo W)=>LN.out W (X2.out.tr (Y.out.tr x)) r.kind A2 c2 r.path (o2.read.ext x) (PI.out r hrm).1 (PI.out r hrm).2);have e5:(YV i r.kind r.path).1=f r:=hF.out r;rw[fl0,e5] at LR;rw[e5] at fl1;have LL:=QH (f:=f) (d:=d) (l:=S.take k) fun q hq=>by
       have:=(FL.out q (List.mem_of_mem_take hq)).2;rw[hF.out q] at this;exact this
      rw[List.length_take] at LL;have l9:L1.length<=201000:=by
       rw[hL1.out];have:=Nat.min_le_left k S.length;have:201*min k S.length<=201*1000:=Nat.mul_le_mul_left _ (by omega);omega
      have B6:=B3.out.ext Y.out;have t0:=B6.c0;have t1:=B6.c1;have t2:=B6.c2;have t3:=B6.c3;have t4:=B6.c4;have t5:=B6.c5;have hw:=B6.lt;rw[<-hL1.out] at HN;obtain⟨L2,hL2⟩:∃ L2,L1++f r++[10]=L2:=⟨_,rfl⟩;have HN2:Hid (L2=Yr f d (S.take (k+1))):=Hd (by rw[HN.out,hL2]);generalize f r=tx at *;have lA:¬9223372036854775807<L1.length+tx.length:=by omega
      have lB:¬9223372036854775807<L1.length+tx.length+1:=by omega
      have eL:Hid ((⟨L1.toArray⟩:ByteArray)++⟨tx.toArray⟩++⟨#[10]⟩=⟨L2.toArray⟩):=Hd (by rw[XD L1 tx];exact(XD _ [10]).trans (by rw[hL2]));clear d1 d2 o2 fl0 e5 LL hrm B6 HN hL1 hL2 fl1;replace hr:=Hd hr;go_upto_region 12 with(fail);go_region_held3 (fun w'=>w'.cell? ⟨w.heap.size,0,none⟩=some (.int .i64 kind)/\w'.cell? ⟨w.heap.size,1,none⟩=some (.int .i64 nn)/\w'.cell? ⟨w.heap.size,2,none⟩=some (.int .i64 cap)/\w'.cell? ⟨w.heap.size,3,none⟩=some (.slice A lxw a)/\w'.cell? ⟨w.heap.size,4,none⟩=some (.slice B lxv b)/\w'.cell? ⟨w.heap.size,5,none⟩=some (.slice Dd lco q)/\w'.cell? ⟨bb,off+k*2,none⟩=some (.int .i64 r.kind)/\w'.cell? ⟨bb,off+k*2+1,none⟩=some (.slice A2 r.path.length c2)) (go_keep)
       (first | (go_at_call 27;refine(LR.out _ XI).mono ?_;rintro e w5 ⟨rfl,x5⟩;have y5:=Ext.tr (a:=wo) XI x5;have s1:=Zd y5 hw t0;have s2:=Zd y5 hw t1;have s3:=Zd y5 hw t2;have s4:=Zd y5 hw t3;have s5:=Zd y5 hw t4;have s6:=Zd y5 hw t5;have s7:=Zd y5 hb a0;have s8:=Zd y5 hb a1))
      all_goals
       have y6:=Hd (Y.out.tr y5);clear t0 t1 t2 t3 t4 t5 a0 a1 s1 s2 s3 s4 s5 s6 s7 s8 LR;go_wp2_with (fail);go_roundw
       case rel=>exact⟨k+1,L2,by rw[<-eL.out],by go_num,by omega,HN2,Hd (y6.out.tr XI)⟩
       case measure=>simp[intOf];omega
     ·have HN:=Hd (Zbu (f:=f) hr.out hdp)
      clear d1 d2 o2 hrm;replace hr:=Hd hr;go_wp2_with (fail);go_roundw
      case rel=>exact⟨k+1,L1,rfl,by go_num,by omega,by rw[HN.out];exact hL1,Hd (Y.out.tr XI)⟩
      case measure=>simp[intOf];omega
    ·obtain rfl:k=n:=by omega
     have ht:S.take k=S:=by rw[<-sn.out];exact List.take_length
     rw[ht] at hL1;clear ht;go_wp2_with (fail);go_ret2;exact⟨by rw[hL1.out];rfl,X2.out.tr (Y.out.tr XI)⟩
 ·subst h0
  obtain rfl:=TE.out rfl;simp only at WA;clear LN OKL LO OI OKS RE TE TN TY WE;go_enter Tryz.func10,Tryz.ntmps10;go_wp2_with (fail);refine(WA.out _ XI).mono ?_;rintro e w1 ⟨rfl,x1⟩;go_wp2_with (go_quiet (fail));go_ret2;exact⟨rfl,Ext.tr XI (x1.tr XI)⟩
def Jm (rs:List Rec)(w:World)(e:Ending)(w':World) : Prop:=∃ A c,e=.returned (.slice A rs.length c)/\RecSl w' w.heap.size 51 A c rs/\Ext w w'
theorem ZeG (A:Option Addr)(c:Nat)(rs:List Rec)(w:World)(hA:RdR w 38 A rs)(hl:rs.length<=200)(hp:∀ r∈rs,r.path.length<=1000) :
  Calls Tryz.prog 9 #[.slice A rs.length c] w (Jm rs w):=by
 obtain⟨i0,hi,hz0,hz1,hz2⟩:=info_parts Zbi;replace hi:=Hd hi;replace hz0:=Hd hz0;replace hz1:=Hd hz1;replace hz2:=Hd hz2;have hbs:∀ (u:World) (k:Int) (A':Option Addr) (n c':Nat),(Instr.buildSlice 39 1 #[(0,.agg #[.int .i64 k,.slice A' n c'])]).run Tryz.prog u=.ok (.slice (some ⟨u.heap.size,0,none⟩) 1 1) (u.alloc (.cells #[.int .i64 k,.slice A' n c'] 51)):=fun u k A' n c'=>by go_simp
 replace hbs:=Hd hbs;replace hA:=Hd hA;replace hp:=Hd hp;obtain⟨n,hn⟩:∃ n,rs.length=n:=⟨_,rfl⟩;rw[hn] at hl;have FIN:Hid (∀ (e:Ending) (w':World) (B:Option Addr) (d:Nat) (us:List Value),e=.returned (.slice B n d)->OwV w' w.heap.size 51 2 B n d us->RecsO w' w.heap.size us rs->Ext w w'->Jm rs w e w'):=Hd fun e w' B d us h1 h2 h3 h4=>⟨B,d,by rw[hn];exact h1,⟨us,by rw[hn];exact h2,h3⟩,h4⟩
 rw[hn];replace hn:=Hd hn;go_enter Tryz.func9,Tryz.ntmps9;go_wp2_with (fail);go_loopw [3,4] (fun v u wr=>∃ (k:Nat) (B:Option Addr) (d:Nat) (us:List Value),v=.slice B k d/\u=.int .i64 k/\k<=n/\Hid (OwV wr w.heap.size 51 2 B k d us)/\Hid (RecsO wr w.heap.size us (rs.take k))/\Hid (Ext w wr)) (fun _ u _=>n-(intOf u).toNat)
 case atStart=>exact⟨0,none,0,[],rfl,rfl,by omega,Hd (OwV.nil _ _ _ _),Hd (RecsO.nil _ _),Hd XI⟩
 case round =>
  obtain⟨wo,rfl⟩:=Wq wr;obtain⟨k,B,d,us,rfl,rfl,hk,OB,RO,Y⟩:=hrel
  by_cases hlt:k<n
  ·have h2:(k:Int)<200:=by omega
   obtain⟨vs,d1,d2⟩:=hA.out;obtain⟨bb,off,r,A2,c2,rfl,hb,a0,a1,o2,hr⟩:=(d2.ext Y.out).at (d1.ext Y.out) (by have:=hn.out;omega:k<rs.length);have hrp:=hp.out r (List.mem_of_getElem? hr.out);have hsn:=Hd (Qz hr.out);have RD:=Hd o2.read;obtain⟨rk,rp⟩:=r;simp only at a0 a1 hrp RD;have zy:=Y.out.size;clear d1 d2 o2 hr;go_upto_region 5 with(fail);refine wp_region_any (by kernel_rfl) ?_
   change wpAny _ _ _ _ _ _ _ (World.drew _)
   refine Zc (i:=0) (op:=Op.move (Operand.tmp 3)) (t:=39) (d:=some 15) (v:=_) rfl (by decide +kernel) (fun _ _ _ h=>h) (by intro _;unfold Ze;go_simp;try with_reducible rfl) ?_
   try simp only[lay]
   refine Zc (i:=1) (op:=Op.move (Operand.tmp 0)) (t:=34) (d:=some 16) (v:=_) rfl (by decide +kernel) (fun _ _ _ h=>h) (by intro _;unfold Ze;go_simp;try with_reducible rfl) ?_
   try simp only[lay]
   refine Zc (i:=2) (op:=Op.move (Operand.tmp 4)) (t:=3) (d:=some 17) (v:=_) rfl (by decide +kernel) (fun _ _ _ h=>h) (by intro _;unfold Ze;go_simp;try with_reducible rfl) ?_
   try simp only[lay]
   refine Zc (i:=3) (op:=Op.indexAddr 34 (Operand.tmp 16) (Operand.tmp 17)) (t:=0) (d:=some 18) (v:=_) rfl (by decide +kernel) (fun _ _ _ h=>h) (by intro _;unfold Ze;go_simp;try with_reducible rfl) ?_
   try simp only[lay]
   refine Zc (i:=4) (op:=Op.fieldAddr 38 (Operand.tmp 18) 0) (t:=0) (d:=some 19) (v:=_) rfl (by decide +kernel) (fun _ _ _ h=>h) (by intro _;unfold Ze;go_simp;try with_reducible rfl) ?_
   try simp only[lay]
   refine Zc (i:=7) (op:=Op.move (Operand.tmp 0)) (t:=34) (d:=some 22) (v:=_) rfl (by decide +kernel) (fun _ _ _ h=>h) (by intro _;unfold Ze;go_simp;try with_reducible rfl) ?_
   try simp only[lay]
   refine Zc (i:=8) (op:=Op.move (Operand.tmp 4)) (t:=3) (d:=some 23) (v:=_) rfl (by decide +kernel) (fun _ _ _ h=>h) (by intro _;unfold Ze;go_simp;try with_reducible rfl) ?_
   try simp only[lay]
   refine Zc (i:=9) (op:=Op.indexAddr 34 (Operand.tmp 22) (Operand.tmp 23)) (t:=0) (d:=some 24) (v:=_) rfl (by decide +kernel) (fun _ _ _ h=>h) (by intro _;unfold Ze;go_simp;try with_reducible rfl) ?_
   try simp only[lay]
   refine Zc (i:=10) (op:=Op.fieldAddr 38 (Operand.tmp 24) 1) (t:=0) (d:=some 25) (v:=_) rfl (by decide +kernel) (fun _ _ _ h=>h) (by intro _;unfold Ze;go_simp;try with_reducible rfl) ?_
   try simp only[lay]
   refine ZM (n:=4) [(5,some 20),(6,some 21),(11,some 26),(12,some 27)] (Ext wo)
    (VF (fun | 5=>some (.int .i64 rk) | 11=>some (.slice A2 rp.length c2) | _=>none)
     (fun i v W=>(i=6->∃ q,v=.slice (some ⟨q,0,none⟩) 0 0/\Blk W q 3 #[]/\wo.heap.size<=q)/\(i=12->∃ A' c',v=.slice A' rp.length c'/\OwI W wo.heap.size A' c' rp)))
    Ext #[true,true,true,true,true,true,true,true,true,true,true,true,true,false,false,false,false] (by decide +kernel) (VF.stab ?_) ?_ ?_ ((Ext.rf _).drew)
   ·intro j v W W' _ ⟨g6,g12⟩ hx
    refine⟨fun h=>?_,fun h=>?_⟩
    ·obtain⟨q,q1,q2,q3⟩:=g6 h
     exact⟨q,q1,q2.ext hx,q3⟩
    ·obtain⟨A',c',q1,q2⟩:=g12 h
     exact⟨A',c',q1,q2.ext hx⟩
   ·intro pq hpm uS wS hRW hD K hK
    simp only[List.mem_cons,List.not_mem_nil,or_false] at hpm;rcases hpm with rfl | rfl | rfl | rfl
    ·have rX:wS.cell? ⟨bb,off+k*2,none⟩=some (.int .i64 rk):=Zd hRW hb a0
     exact Zv (T:=3) rfl (.pointer (some ⟨bb,off+k*2,none⟩)) (by kernel_rfl) (.int .i64 rk) (by go_simp) (hK _ _ (VF.mk rfl) hRW (Ext.rf _))
    ·exact Z5 rfl (.slice (some ⟨wS.heap.size,0,none⟩) 0 0) (by unfold Ze;go_simp;try rfl) (hK _ _ (VF.mg rfl ⟨fun _=>⟨_,rfl,.new rfl,hRW.size⟩,fun h=>by cases h⟩) (hRW.alloc _) ((Ext.rf _).alloc _))
    ·have rX:wS.cell? ⟨bb,off+k*2+1,none⟩=some (.slice A2 rp.length c2):=Zd hRW hb a1
     exact Zv (T:=22) rfl (.pointer (some ⟨bb,off+k*2+1,none⟩)) (by kernel_rfl) (.slice A2 rp.length c2) (by go_simp) (hK _ _ (VF.mk rfl) hRW (Ext.rf _))
    ·obtain⟨q,e6,b6,z6⟩:=((hD 6 (Zp (by kernel_rfl))).g rfl).1 rfl
     have e11:=(hD 11 (Zp (by kernel_rfl))).k rfl;obtain⟨A3,c3,w3,hrun,o3,x3⟩:=Qc wS wo.heap.size 22 q rp A2 c2 b6 z6 (RD.out.ext hRW) (by omega);exact WQ rfl (.slice (some ⟨q,0,none⟩) 0 0) (.slice A2 rp.length c2) (Eq.trans (b:=uS 6) (by kernel_rfl) e6) (Eq.trans (b:=uS 11) (by kernel_rfl) e11) _ hrun (hK _ _ (VF.mg rfl ⟨(fun h=>by cases h),fun _=>⟨A3,c3,rfl,o3⟩⟩) (hRW.tr x3) x3)
   ·intro u w3 hRW hV
    have h5:=(hV (5,some 20) (by simp)).k rfl;obtain⟨q,h6,_,_⟩:=((hV (6,some 21) (by simp)).g rfl).1 rfl;have h11:=(hV (11,some 26) (by simp)).k rfl;obtain⟨A3,c3,h12,o3⟩:=((hV (12,some 27) (by simp)).g rfl).2 rfl;simp only[Zn,h5,h6,h11,h12];clear h5 h6 h11 h12 hV
    try simp only[lay]
    refine Zc (i:=13) (op:=Op.build 51 #[(0,Operand.tmp 20),(1,Operand.tmp 27)]) (t:=51) (d:=some 28) (v:=_) rfl (by decide +kernel) (fun _ _ _ h=>h) (by intro _;unfold Ze;go_simp;try with_reducible rfl) ?_
    try simp only[lay]
    refine Zl 14 (by decide +kernel) (Vw rfl (.agg #[.int .i64 rk,.slice A3 rp.length c3]) (by kernel_rfl) _ (hbs.out _ _ _ _ _) ?_)
    try simp only[lay]
    have z3:=hRW.size;have b4:Blk (w3.alloc (.cells #[.int .i64 rk,.slice A3 rp.length c3] 51)) w3.heap.size 51 #[.int .i64 rk,.slice A3 rp.length c3]:=.new rfl;have x4:Ext wo (w3.alloc (.cells #[.int .i64 rk,.slice A3 rp.length c3] 51)):=hRW.alloc _;have z4:=x4.size;have o4:=o3.ext ((Ext.rf w3).alloc (.cells #[.int .i64 rk,.slice A3 rp.length c3] 51));obtain⟨A5,c5,w5,hrun,o5,g5,_⟩:=VB _ (e:=51) Tryz.underlying39 hi.out hz0.out hz1.out hz2.out (by simp[Value.cells]) (by omega) w.heap.size 39 B k d us (some ⟨w3.heap.size,0,none⟩) 1 1 [.int .i64 rk,.slice A3 rp.length c3] (OB.out.ext x4) ((RdV.blk b4).rdC) (by simp) (by simp[Value.oneCell']) (by simp only[maxLen];omega) (by omega) (by omega);have M5:=(OB.out.ext x4).grownT g5;have R5:Hid (RecsO w5 w.heap.size (us++[.int .i64 rk,.slice A3 rp.length c3]) (rs.take (k+1))):=Hd (by rw[hsn.out];exact(((RO.out.ext x4).modT M5 (by decide)).snoc (r:=⟨rk,rp⟩) ((o4.more zy).modT M5 (by decide))));have X5:Hid (Ext w w5):=Hd ((Y.out.tr x4).grow g5 (fun z hz=>((OB.out.ext x4).lt z hz).1));replace o5:=Hd o5;clear M5 g5 b4 o4 x4 o3;refine Zl 15 (by decide +kernel) (WQ rfl (.slice B k d) (.slice (some ⟨w3.heap.size,0,none⟩) 1 1) (by kernel_rfl) (by kernel_rfl) _ hrun ?_)
    try simp only[lay]
    refine Zc (i:=16) (op:=Op.assign (Operand.tmp 30)) (t:=39) (d:=some 3) (v:=_) rfl (by decide +kernel) (fun _ _ _ h=>h) (by intro _;unfold Ze;go_simp;try with_reducible rfl) ?_
    try simp only[lay]
    refine wpAny_done (by kernel_rfl) ?_ _;clear hrun;go_simp;go_wp2_with (fail);go_roundw
    case rel=>exact⟨k+1,A5,c5,_,rfl,by go_num,by omega,o5,R5,X5⟩
    case measure=>simp[intOf];omega
  ·obtain rfl:k=n:=by omega
   have ht:rs.take k=rs:=by rw[<-hn.out];exact List.take_length
   rw[ht] at RO;go_wp2_with (fail);go_ret;exact FIN.out _ _ B d us rfl (OB.out.ext XI) (RO.out.ext XI) (Y.out.tr XI)
open Go.ChangeMaps
section
variable {H:Type} {enc:TypeId×Value->H} {W:World}
theorem ZiR {base:Nat}{v:Value}{d:DataW H}{p:List MemPlace}(hd:DataW.Trod enc Tryz.prog W 0 (fun _=>true) true 9 v d p)(hv:Value.okWide Tryz.prog W .any base 9 v) :
  ∃ s:List UInt8,v=.string ⟨s.toArray⟩/\s.length<=maxLen:=by
 obtain⟨s,rfl,-,-,h⟩:=open_string Tryz.underlying9 hv hd;exact⟨s.data.toList,rfl,by rw[Array.length_toList];exact h⟩
end
end
section
def Zhs : List (String×DataW Unit):=[("math/bits.deBruijn32tab",Rows.laid_math_bits_deBruijn32tab),("math/bits.deBruijn64tab",Rows.laid_math_bits_deBruijn64tab),("internal/strconv.uint64pow10",Rows.laid_internal_strconv_uint64pow10)]
theorem ZiS : (Rows.laid_math_bits_deBruijn64tab:DataW Unit)=Lib.tabData .u8 (Lib.deBruijn64tab.map fun n:Nat=>(n:Int)):=by kernel_rfl
theorem ZjE : (Rows.laid_internal_strconv_uint64pow10:DataW Unit)=Lib.tabData .u64 Lib.pow10Tab:=by kernel_rfl
theorem Zc7 {W:World}(h:Lib.TabIs Tryz.prog W "math/bits.deBruijn64tab" .u8 (Lib.deBruijn64tab.map fun n:Nat=>(n:Int))) : Tab W:=by
 have hlen:Lib.deBruijn64tab.length=64:=by kernel_rfl
 intro r hr;rw[hlen] at hr;have:=h.cell (g:=3) (by kernel_rfl) r (by rw[List.length_map];omega);rw[this]
 congr 2
 simp[List.getD,hlen,hr]
theorem Zc8 {W:World}(h:laidMetH Tryz.prog Zhs W) : Tab W/\Ten W:=by
 rw[MakeChecks.laidMetH_plain _ _ _ (by kernel_rfl)] at h;unfold Zhs at h;have h1:=laidMet.tail h;have h2:=laidMet.tail h1;rw[ZiS] at h1;rw[ZjE] at h2;refine⟨Zc7 ?_,?_⟩
 ·exact Lib.tabIs_of_head (g:=3) (t:=206) (e:=5) (n:=64) (by kernel_rfl) (by kernel_rfl) Tryz.underlying206 Tryz.underlying5 (by kernel_rfl) (by kernel_rfl) h1
 ·exact Lib.tabIs_of_head (g:=1) (t:=196) (e:=141) (n:=20) (by kernel_rfl) (by kernel_rfl) Tryz.underlying196 Tryz.underlying141 (by kernel_rfl) (by kernel_rfl) h2
end
end Go.Proofs.YtnbcmiaaleambaaGreatDoor
