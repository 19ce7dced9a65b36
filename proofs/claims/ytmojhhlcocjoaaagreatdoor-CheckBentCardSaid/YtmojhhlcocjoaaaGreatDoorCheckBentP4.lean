/- packed and squeezed by programs (see wip/) -/
import Derived.Test.YtmojhhlcocjoaaaGreatDoorCheckBentP3
import Derived.Lib.VarintBits
set_option maxRecDepth 100000
set_option maxHeartbeats 16000000
set_option linter.unusedVariables false
set_option linter.unusedSimpArgs false
namespace Go.Proofs.YtmojhhlcocjoaaaGreatDoor
open Go.RowKit Go.ChangeShapes Go.WideShapes Go.ChangeAt Go.Deep
theorem ZaN {rows:List (List Int)}{us:List Nat}{last:Nat}(num:∀ a b,a<rows.length->b<rows.length->0<=Za rows a b/\Za rows a b<=2147483647)(h0:0<rows.length)(hl:last<rows.length)(hu:∀ x∈us,x<rows.length){y:Nat}(k0:y<rows.length) : (0<=(ZO rows us last y).1/\(ZO rows us last y).1<=2147483647)/\0<=(ZO rows us last y).2/\(ZO rows us last y).2<=2147483647:=by
 have k1:=num y last k0 hl;have k2:=num y 0 k0 h0;exact ZaL (B:=2147483647) (f:=fun v=>Za rows y v) (us.filter fun j=>decide (y≠j)) (min (Za rows y last) (Za rows y 0),max (Za rows y last) (Za rows y 0)) (by simp only;omega) (by simp only;omega) fun v hv=>num y v k0 (hu v (List.mem_filter.1 hv).1)
theorem Zdo (i:InstP)(us:List Value)(P:Option Addr)(pc:Nat)(l:List Nat)(last:Nat)(w:World)(H:RInst w us i)(rok:RowsOk i.cost)(hP:RdI w P (Zd l))(hl:∀ x∈l,x<i.cost.length)(hnd:l.Nodup)(hlen:l.length<=24)(hla:last<i.cost.length) :
  Calls Tryz.prog 155 #[.agg (List.toArray us),.slice P l.length pc,.int .i64 last] w fun e w'=>e=.returned (.int .i64 (Xv i.cost l last))/\Ext w w':=by
 have h0:=rok.n1;obtain⟨kind,nn,cap,xw,xv,co⟩:=i;obtain⟨A,a,B,b,D,d,rfl,-,-,⟨hC,-,-⟩⟩:=H;simp only at *;obtain⟨cb,cof,_,_,_,rfl,_,_⟩:=XQ rok hC (r:=0) (c:=0) (by omega) (by omega);have num:=Yl rok;have CA:=Hd (fun(W:World) (x:Ext w W) (r c:Nat) (hr:r<co.length) (hc:c<co.length)=>Qj rok (hC.ext x fun _ _ h=>h.ext x) hr hc);have B1:Hid (Blk (w.alloc (.cells #[.int .i64 kind,.int .i64 nn,.int .i64 cap,.slice A xw.length a,.slice B xv.length b,.slice (some ⟨cb,cof,none⟩) co.length d] 25)) w.heap.size 25 #[.int .i64 kind,.int .i64 nn,.int .i64 cap,.slice A xw.length a,.slice B xv.length b,.slice (some ⟨cb,cof,none⟩) co.length d]):=.new rfl;have X0:Hid (Ext w (w.alloc (.cells #[.int .i64 kind,.int .i64 nn,.int .i64 cap,.slice A xw.length a,.slice B xv.length b,.slice (some ⟨cb,cof,none⟩) co.length d] 25))):=(Ext.rf _).alloc _;have bsum:Hid (∀ k,0<=Zj ((l.take k).map fun u=>(ZO co l last u).1+(ZO co l last u).2)/\Zj ((l.take k).map fun u=>(ZO co l last u).1+(ZO co l last u).2)<=4294967294*24):=fun k=>by
  have h1:=WY (f:=fun u=>(ZO co l last u).1+(ZO co l last u).2) (B:=4294967294) (l.take k) fun y hy=>by
   have:=ZaN num (by omega) hla hl (hl y (List.mem_of_mem_take hy));omega
  have h2:(l.take k).length<=24:=by rw[List.length_take];omega
  omega
 have bfr:Hid (∀ k (f:Nat->Int),(∀ x,x<co.length->0<=f x/\f x<=2147483647)->-2147483647<=Zs f (-1) (l.take k)/\Zs f (-1) (l.take k)<=2147483647):=fun k f hf =>
  VX (fun c hc=>by have:=hf c (hl c (List.mem_of_mem_take hc));omega) (by omega) (by omega)
 replace hC:=Hd hC;replace hP:=Hd hP;replace hl:=Hd hl;replace hnd:=Hd hnd;replace num:=Hd num;replace rok:=Hd rok;go_enter Tryz.func155,Tryz.ntmps155;go_wp2_with (fail);generalize w.alloc (.cells #[.int .i64 kind,.int .i64 nn,.int .i64 cap,.slice A xw.length a,.slice B xv.length b,.slice (some ⟨cb,cof,none⟩) co.length d] 25)=w1 at *;go_loopw [7,8,9,10] (fun s fr tq v wr=>∃ k:Nat,v=.int .i64 k/\s=.int .i64 (Zj ((l.take k).map fun u=>(ZO co l last u).1+(ZO co l last u).2))/\fr=.int .i64 (Zs (fun u=>Za co last u) (-1) (l.take k))/\tq=.int .i64 (Zs (fun u=>Za co u 0) (-1) (l.take k))/\k<=l.length/\Hid (Ext w1 wr)) (fun _ _ _ v _=>l.length-(intOf v).toNat)
 case atStart=>exact⟨0,rfl,rfl,rfl,rfl,by omega,Ext.rf _⟩
 case round =>
  obtain⟨wo,rfl⟩:∃ wo:World,wo=wr:=⟨_,rfl⟩;obtain⟨k,rfl,rfl,rfl,rfl,hk,Y⟩:=hrel
  by_cases hlt:k<l.length
  ·obtain⟨u,hux⟩:∃ u,Hid (u=l[k]):=⟨l[k],rfl⟩
   have hu:u<co.length:=by rw[hux.out];exact hl.out _ (List.getElem_mem hlt)
   have euk:l[k]?=some u:=by rw[hux.out];exact List.getElem?_eq_getElem hlt
   have etk:l.take (k+1)=l.take k++[u]:=by rw[List.take_add_one,euk];rfl
   obtain⟨pb,po,xu,rfl,zp,cp,ep,_⟩:=(hP.out.ext (X0.out.tr Y.out)).at (k:=k) (by rw[Zg];exact hlt);have exu:xu=(u:Int):=by
    have h:=ep.out;rw[ZD euk] at h;exact(Option.some.inj h).symm
   subst exu;have zp1:pb<wo.heap.size:=zp;have cp1:=cp;obtain⟨rb1,ro1,d1,c11,c12⟩:=CA.out _ (X0.out.tr Y.out) u last hu hla;obtain⟨rb2,ro2,d2,c21,c22⟩:=CA.out _ (X0.out.tr Y.out) u 0 hu h0;obtain⟨⟨rfl,rfl⟩,rfl⟩:(rb1=rb2/\ro1=ro2)/\d1=d2:=by
    have h:=c11.symm.trans c21
    simpa using h
   have b1:=num.out u last hu hla;have b2:=num.out u 0 hu h0;have b3:=num.out last u hla hu;obtain⟨y1,ey1⟩:∃ y1,Hid (Za co u last=y1):=⟨_,rfl⟩;obtain⟨y2,ey2⟩:∃ y2,Hid (Za co u 0=y2):=⟨_,rfl⟩;obtain⟨y3,ey3⟩:∃ y3,Hid (Za co last u=y3):=⟨_,rfl⟩;rw[ey1.out] at b1 c12;rw[ey2.out] at b2 c22;rw[ey3.out] at b3;replace c22:wo.cell? ⟨rb1,ro1,none⟩=some (.int .i64 y2):=c22;obtain⟨pp,hpp⟩:∃ pp,Hid (ZO co l last u=pp):=⟨_,rfl⟩;have bpp:=ZaN num.out (by omega) hla hl.out hu (us:=l);rw[hpp.out] at bpp;have bs:=bsum.out k;have eS:Hid (Zj ((l.take (k+1)).map fun u=>(ZO co l last u).1+(ZO co l last u).2)=Zj ((l.take k).map fun u=>(ZO co l last u).1+(ZO co l last u).2)+pp.1+pp.2):=Hd (by
    rw[etk,List.map_append,List.map_cons,List.map_nil,ZfZ,hpp.out];omega)
   have eF:Hid (Zs (fun u=>Za co last u) (-1) (l.take (k+1))=if Zs (fun u=>Za co last u) (-1) (l.take k)<0 then y3 else if y3<Zs (fun u=>Za co last u) (-1) (l.take k) then y3 else Zs (fun u=>Za co last u) (-1) (l.take k)):=Hd (by
    rw[etk,JZ,ey3.out])
   have eT:Hid (Zs (fun u=>Za co u 0) (-1) (l.take (k+1))=if Zs (fun u=>Za co u 0) (-1) (l.take k)<0 then y2 else if y2<Zs (fun u=>Za co u 0) (-1) (l.take k) then y2 else Zs (fun u=>Za co u 0) (-1) (l.take k)):=Hd (by
    rw[etk,JZ,ey2.out])
   have START0:(l.filter fun x=>decide (u≠x)).foldl (fun p v=>Yp p (Za co u v)) (min y1 y2,max y1 y2)=pp:=by rw[<-hpp.out,<-ey1.out,<-ey2.out];rfl
   generalize Zj ((l.take k).map fun u=>(ZO co l last u).1+(ZO co l last u).2)=su at *;generalize Zs (fun u=>Za co last u) (-1) (l.take k)=fr at *;generalize Zs (fun u=>Za co u 0) (-1) (l.take k)=tq at *;have d5:wo.cell? ⟨w.heap.size,5,none⟩=some (.slice (some ⟨cb,cof,none⟩) co.length d):=(B1.out.ext Y.out).cell 5;have q1:(k:Int)<(l.length:Int):=by omega
   have q6:(last:Int)<(co.length:Int):=by omega
   have q7:(u:Int)<(co.length:Int):=by omega
   have q8:(0:Int)<(co.length:Int):=by omega
   clear ep euk etk
   by_cases hsw:y2<y1
   ·have START:Hid (((l.drop 0).filter fun x=>decide (u≠x)).foldl (fun p v=>Yp p (Za co u v)) (y2,y1)=pp):=by
     have e1:min y1 y2=y2:=by omega
     have e2:max y1 y2=y1:=by omega
     have h:=START0;rw[e1,e2] at h;exact h
    clear START0;go_wp2_with (fail);go_quiet (fail)
    rename_i nq
    have Z0:Hid (Ext wo (wo.drewN nq)):=(Ext.rf wo).drewN nq;go_wp2_with (fail);generalize wo.drewN nq=w4 at *;go_loopw [11,12,13] (fun a1 a2 v wr=>∃ (b:Nat) (p:Int×Int),v=.int .i64 b/\a1=.int .i64 p.1/\a2=.int .i64 p.2/\b<=l.length/\Hid (((l.drop b).filter fun x=>decide (u≠x)).foldl (fun p v=>Yp p (Za co u v)) p=pp)/\Hid (Ext wo wr)) (fun _ _ v _=>l.length-(intOf v).toNat)
    case atStart=>exact⟨0,(y2,y1),rfl,rfl,rfl,by omega,START,Z0.out⟩
    case round =>
     obtain⟨w5,rfl⟩:∃ w5:World,w5=wr:=⟨_,rfl⟩;obtain⟨b,⟨o1,o2⟩,rfl,rfl,rfl,hb,HF,Z⟩:=hrel;simp only
     by_cases hlb:b<l.length
     ·have eb:l[b]?=some l[b]:=List.getElem?_eq_getElem hlb
      have hv:=hl.out _ (List.getElem_mem hlb);have edb:l.drop b=l[b]::l.drop (b+1):=List.drop_eq_getElem_cons hlb;have hne:b≠k->u≠l[b]:=fun h1 h2=>h1 ((List.getElem_inj hnd.out).1 (by rw[<-h2,hux.out]))
      have heq:b=k->u=l[b]:=fun h1=>by subst h1;exact hux.out
      obtain⟨pb2,po2,xv,hPq,zp2,cp2,ep2,_⟩:=(hP.out.ext (X0.out.tr (Y.out.tr Z.out))).at (k:=b) (by rw[Zg];exact hlb);obtain⟨rfl,rfl⟩:pb=pb2/\po=po2:=by simpa using hPq
      have exv:xv=((l[b]:Nat):Int):=by
       have h:=ep2.out;rw[ZD eb] at h;exact(Option.some.inj h).symm
      subst exv;have HF2:=HF.out;rw[edb,List.filter_cons] at HF2;generalize l[b]=v at *;clear HF eb edb ep2 hPq;have d5:w5.cell? ⟨w.heap.size,5,none⟩=some (.slice (some ⟨cb,cof,none⟩) co.length d):=(B1.out.ext (Y.out.tr Z.out)).cell 5;have q2:(b:Int)<(l.length:Int):=by omega
      have p5:w5.cell? ⟨pb,po+k,none⟩=some (.int .i64 (u:Int)):=Zc Z.out zp1 cp1
      by_cases hbk:b=k
      ·have tb:((b:Int)==(k:Int))=true:=by rw[hbk];simp
       have HF3:Hid (((l.drop (b+1)).filter fun x=>decide (u≠x)).foldl (fun p v=>Yp p (Za co u v)) (o1,o2)=pp):=by
        rw[if_neg (by simp[heq hbk])] at HF2;exact HF2
       clear HF2 hne heq;replace hbk:=Hd hbk;go_wp2_with (fail);go_roundw
       case rel=>exact⟨b+1,(o1,o2),by go_num,rfl,rfl,by omega,HF3,Z.out⟩
       case measure=>simp[intOf];omega
      ·have tb:((b:Int)==(k:Int))=false:=by simp;omega
       obtain⟨rb5,ro5,d5',c51,c52⟩:=CA.out _ (X0.out.tr (Y.out.tr Z.out)) u v hu hv;have nv:=num.out u v hu hv;rw[if_pos (by simp[hne hbk]),List.foldl_cons] at HF2;obtain⟨cv,hcv⟩:∃ cv,Hid (Za co u v=cv):=⟨_,rfl⟩;rw[hcv.out] at HF2 c52 nv;have q3:(u:Int)<(co.length:Int):=by omega
       have q4:(v:Int)<(co.length:Int):=by omega
       clear hne heq;replace hbk:=Hd hbk;unfold Yp at HF2;simp only at HF2
       by_cases h1:cv<o1
       ·rw[if_pos h1] at HF2
        have HF3:=Hd HF2;clear HF2;go_wp2_with (fail);go_quiet (fail);go_wp2_with (fail);go_roundw
        case rel=>exact⟨b+1,(cv,o1),by go_num,rfl,rfl,by omega,HF3,Z.out.drewN _⟩
        case measure=>simp[intOf];omega
       ·rw[if_neg h1] at HF2
        by_cases h2:cv<o2
        ·rw[if_pos h2] at HF2
         have HF3:=Hd HF2;clear HF2;go_wp2_with (fail);go_quiet (fail);go_wp2_with (fail);go_roundw
         case rel=>exact⟨b+1,(o1,cv),by go_num,rfl,rfl,by omega,HF3,Z.out.drewN _⟩
         case measure=>simp[intOf];omega
        ·rw[if_neg h2] at HF2
         have HF3:=Hd HF2;clear HF2;go_wp2_with (fail);go_quiet (fail);go_wp2_with (fail);go_roundw
         case rel=>exact⟨b+1,(o1,o2),by go_num,rfl,rfl,by omega,HF3,Z.out.drewN _⟩
         case measure=>simp[intOf];omega
     ·obtain rfl:b=l.length:=by omega
      have q2:¬((l.length:Int)<(l.length:Int)):=by omega
      have HF2:=HF.out;rw[List.drop_length] at HF2;obtain rfl:(o1,o2)=pp:=HF2;simp only at bpp eS;have hw1:IntKind.i64.wrap (su+o1)=su+o1:=IntWalk.i64_in _ (by omega);have hw2:IntKind.i64.wrap (su+o1+o2)=su+o1+o2:=IntWalk.i64_in _ (by omega);clear HF START;obtain⟨rb3,ro3,d3,c31,c32⟩:=CA.out _ (X0.out.tr (Y.out.tr Z.out)) last u hla hu;rw[ey3.out] at c32;have d53:w5.cell? ⟨w.heap.size,5,none⟩=some (.slice (some ⟨cb,cof,none⟩) co.length d):=(B1.out.ext (Y.out.tr Z.out)).cell 5;have p3:w5.cell? ⟨pb,po+k,none⟩=some (.int .i64 (u:Int)):=Zc Z.out zp1 cp1
      by_cases hn1:fr<0
      ·rw[if_pos hn1] at eF
       go_wp2_with (fail);go_quiet (fail)
       rename_i nq
       have Z2:Hid (Ext wo (w5.drewN nq)):=Z.out.drewN nq;go_wp2_with (fail);generalize w5.drewN nq=w7 at *;obtain⟨rb4,ro4,d4,c41,c42⟩:=CA.out _ (X0.out.tr (Y.out.tr Z2.out)) u 0 hu h0;rw[ey2.out] at c42;replace c42:w7.cell? ⟨rb4,ro4,none⟩=some (.int .i64 y2):=c42;have d54:w7.cell? ⟨w.heap.size,5,none⟩=some (.slice (some ⟨cb,cof,none⟩) co.length d):=(B1.out.ext (Y.out.tr Z2.out)).cell 5;have p4:w7.cell? ⟨pb,po+k,none⟩=some (.int .i64 (u:Int)):=Zc Z2.out zp1 cp1
       by_cases hn2:tq<0
       ·rw[if_pos hn2] at eT
        go_wp2_with (fail);go_quiet (fail);go_wp2_with (fail);go_roundw
        case rel=>exact⟨k+1,by go_num,by rw[eS.out],by rw[eF.out],by rw[eT.out],by omega,Y.out.tr (Z2.out.drewN _)⟩
        case measure=>simp[intOf];omega
       ·rw[if_neg hn2] at eT
        by_cases hl2:y2<tq
        ·rw[if_pos hl2] at eT
         go_wp2_with (fail);go_quiet (fail);go_wp2_with (fail);go_roundw
         case rel=>exact⟨k+1,by go_num,by rw[eS.out],by rw[eF.out],by rw[eT.out],by omega,Y.out.tr (Z2.out.drewN _)⟩
         case measure=>simp[intOf];omega
        ·rw[if_neg hl2] at eT
         go_wp2_with (fail);go_quiet (fail);go_wp2_with (fail);go_roundw
         case rel=>exact⟨k+1,by go_num,by rw[eS.out],by rw[eF.out],by rw[eT.out],by omega,Y.out.tr (Z2.out.drewN _)⟩
         case measure=>simp[intOf];omega
      ·rw[if_neg hn1] at eF
       by_cases hl1:y3<fr
       ·rw[if_pos hl1] at eF
        go_wp2_with (fail);go_quiet (fail)
        rename_i nq
        have Z2:Hid (Ext wo (w5.drewN nq)):=Z.out.drewN nq;go_wp2_with (fail);generalize w5.drewN nq=w7 at *;obtain⟨rb4,ro4,d4,c41,c42⟩:=CA.out _ (X0.out.tr (Y.out.tr Z2.out)) u 0 hu h0;rw[ey2.out] at c42;replace c42:w7.cell? ⟨rb4,ro4,none⟩=some (.int .i64 y2):=c42;have d54:w7.cell? ⟨w.heap.size,5,none⟩=some (.slice (some ⟨cb,cof,none⟩) co.length d):=(B1.out.ext (Y.out.tr Z2.out)).cell 5;have p4:w7.cell? ⟨pb,po+k,none⟩=some (.int .i64 (u:Int)):=Zc Z2.out zp1 cp1
        by_cases hn2:tq<0
        ·rw[if_pos hn2] at eT
         go_wp2_with (fail);go_quiet (fail);go_wp2_with (fail);go_roundw
         case rel=>exact⟨k+1,by go_num,by rw[eS.out],by rw[eF.out],by rw[eT.out],by omega,Y.out.tr (Z2.out.drewN _)⟩
         case measure=>simp[intOf];omega
        ·rw[if_neg hn2] at eT
         by_cases hl2:y2<tq
         ·rw[if_pos hl2] at eT
          go_wp2_with (fail);go_quiet (fail);go_wp2_with (fail);go_roundw
          case rel=>exact⟨k+1,by go_num,by rw[eS.out],by rw[eF.out],by rw[eT.out],by omega,Y.out.tr (Z2.out.drewN _)⟩
          case measure=>simp[intOf];omega
         ·rw[if_neg hl2] at eT
          go_wp2_with (fail);go_quiet (fail);go_wp2_with (fail);go_roundw
          case rel=>exact⟨k+1,by go_num,by rw[eS.out],by rw[eF.out],by rw[eT.out],by omega,Y.out.tr (Z2.out.drewN _)⟩
          case measure=>simp[intOf];omega
       ·rw[if_neg hl1] at eF
        go_wp2_with (fail);go_quiet (fail)
        rename_i nq
        have Z2:Hid (Ext wo (w5.drewN nq)):=Z.out.drewN nq;go_wp2_with (fail);generalize w5.drewN nq=w7 at *;obtain⟨rb4,ro4,d4,c41,c42⟩:=CA.out _ (X0.out.tr (Y.out.tr Z2.out)) u 0 hu h0;rw[ey2.out] at c42;replace c42:w7.cell? ⟨rb4,ro4,none⟩=some (.int .i64 y2):=c42;have d54:w7.cell? ⟨w.heap.size,5,none⟩=some (.slice (some ⟨cb,cof,none⟩) co.length d):=(B1.out.ext (Y.out.tr Z2.out)).cell 5;have p4:w7.cell? ⟨pb,po+k,none⟩=some (.int .i64 (u:Int)):=Zc Z2.out zp1 cp1
        by_cases hn2:tq<0
        ·rw[if_pos hn2] at eT
         go_wp2_with (fail);go_quiet (fail);go_wp2_with (fail);go_roundw
         case rel=>exact⟨k+1,by go_num,by rw[eS.out],by rw[eF.out],by rw[eT.out],by omega,Y.out.tr (Z2.out.drewN _)⟩
         case measure=>simp[intOf];omega
        ·rw[if_neg hn2] at eT
         by_cases hl2:y2<tq
         ·rw[if_pos hl2] at eT
          go_wp2_with (fail);go_quiet (fail);go_wp2_with (fail);go_roundw
          case rel=>exact⟨k+1,by go_num,by rw[eS.out],by rw[eF.out],by rw[eT.out],by omega,Y.out.tr (Z2.out.drewN _)⟩
          case measure=>simp[intOf];omega
         ·rw[if_neg hl2] at eT
          go_wp2_with (fail);go_quiet (fail);go_wp2_with (fail);go_roundw
          case rel=>exact⟨k+1,by go_num,by rw[eS.out],by rw[eF.out],by rw[eT.out],by omega,Y.out.tr (Z2.out.drewN _)⟩
          case measure=>simp[intOf];omega
   ·have START:Hid (((l.drop 0).filter fun x=>decide (u≠x)).foldl (fun p v=>Yp p (Za co u v)) (y1,y2)=pp):=by
     have e1:min y1 y2=y1:=by omega
     have e2:max y1 y2=y2:=by omega
     have h:=START0;rw[e1,e2] at h;exact h
    clear START0;go_wp2_with (fail);go_quiet (fail)
    rename_i nq
    have Z0:Hid (Ext wo (wo.drewN nq)):=(Ext.rf wo).drewN nq;go_wp2_with (fail);generalize wo.drewN nq=w4 at *;go_loopw [11,12,13] (fun a1 a2 v wr=>∃ (b:Nat) (p:Int×Int),v=.int .i64 b/\a1=.int .i64 p.1/\a2=.int .i64 p.2/\b<=l.length/\Hid (((l.drop b).filter fun x=>decide (u≠x)).foldl (fun p v=>Yp p (Za co u v)) p=pp)/\Hid (Ext wo wr)) (fun _ _ v _=>l.length-(intOf v).toNat)
    case atStart=>exact⟨0,(y1,y2),rfl,rfl,rfl,by omega,START,Z0.out⟩
    case round =>
     obtain⟨w5,rfl⟩:∃ w5:World,w5=wr:=⟨_,rfl⟩;obtain⟨b,⟨o1,o2⟩,rfl,rfl,rfl,hb,HF,Z⟩:=hrel;simp only
     by_cases hlb:b<l.length
     ·have eb:l[b]?=some l[b]:=List.getElem?_eq_getElem hlb
      have hv:=hl.out _ (List.getElem_mem hlb);have edb:l.drop b=l[b]::l.drop (b+1):=List.drop_eq_getElem_cons hlb;have hne:b≠k->u≠l[b]:=fun h1 h2=>h1 ((List.getElem_inj hnd.out).1 (by rw[<-h2,hux.out]))
      have heq:b=k->u=l[b]:=fun h1=>by subst h1;exact hux.out
      obtain⟨pb2,po2,xv,hPq,zp2,cp2,ep2,_⟩:=(hP.out.ext (X0.out.tr (Y.out.tr Z.out))).at (k:=b) (by rw[Zg];exact hlb);obtain⟨rfl,rfl⟩:pb=pb2/\po=po2:=by simpa using hPq
      have exv:xv=((l[b]:Nat):Int):=by
       have h:=ep2.out;rw[ZD eb] at h;exact(Option.some.inj h).symm
      subst exv;have HF2:=HF.out;rw[edb,List.filter_cons] at HF2;generalize l[b]=v at *;clear HF eb edb ep2 hPq;have d5:w5.cell? ⟨w.heap.size,5,none⟩=some (.slice (some ⟨cb,cof,none⟩) co.length d):=(B1.out.ext (Y.out.tr Z.out)).cell 5;have q2:(b:Int)<(l.length:Int):=by omega
      have p5:w5.cell? ⟨pb,po+k,none⟩=some (.int .i64 (u:Int)):=Zc Z.out zp1 cp1
      by_cases hbk:b=k
      ·have tb:((b:Int)==(k:Int))=true:=by rw[hbk];simp
       have HF3:Hid (((l.drop (b+1)).filter fun x=>decide (u≠x)).foldl (fun p v=>Yp p (Za co u v)) (o1,o2)=pp):=by
        rw[if_neg (by simp[heq hbk])] at HF2;exact HF2
       clear HF2 hne heq;replace hbk:=Hd hbk;go_wp2_with (fail);go_roundw
       case rel=>exact⟨b+1,(o1,o2),by go_num,rfl,rfl,by omega,HF3,Z.out⟩
       case measure=>simp[intOf];omega
      ·have tb:((b:Int)==(k:Int))=false:=by simp;omega
       obtain⟨rb5,ro5,d5',c51,c52⟩:=CA.out _ (X0.out.tr (Y.out.tr Z.out)) u v hu hv;have nv:=num.out u v hu hv;rw[if_pos (by simp[hne hbk]),List.foldl_cons] at HF2;obtain⟨cv,hcv⟩:∃ cv,Hid (Za co u v=cv):=⟨_,rfl⟩;rw[hcv.out] at HF2 c52 nv;have q3:(u:Int)<(co.length:Int):=by omega
       have q4:(v:Int)<(co.length:Int):=by omega
       clear hne heq;replace hbk:=Hd hbk;unfold Yp at HF2;simp only at HF2
       by_cases h1:cv<o1
       ·rw[if_pos h1] at HF2
        have HF3:=Hd HF2;clear HF2;go_wp2_with (fail);go_quiet (fail);go_wp2_with (fail);go_roundw
        case rel=>exact⟨b+1,(cv,o1),by go_num,rfl,rfl,by omega,HF3,Z.out.drewN _⟩
        case measure=>simp[intOf];omega
       ·rw[if_neg h1] at HF2
        by_cases h2:cv<o2
        ·rw[if_pos h2] at HF2
         have HF3:=Hd HF2;clear HF2;go_wp2_with (fail);go_quiet (fail);go_wp2_with (fail);go_roundw
         case rel=>exact⟨b+1,(o1,cv),by go_num,rfl,rfl,by omega,HF3,Z.out.drewN _⟩
         case measure=>simp[intOf];omega
        ·rw[if_neg h2] at HF2
         have HF3:=Hd HF2;clear HF2;go_wp2_with (fail);go_quiet (fail);go_wp2_with (fail);go_roundw
         case rel=>exact⟨b+1,(o1,o2),by go_num,rfl,rfl,by omega,HF3,Z.out.drewN _⟩
         case measure=>simp[intOf];omega
     ·obtain rfl:b=l.length:=by omega
      have q2:¬((l.length:Int)<(l.length:Int)):=by omega
      have HF2:=HF.out;rw[List.drop_length] at HF2;obtain rfl:(o1,o2)=pp:=HF2;simp only at bpp eS;have hw1:IntKind.i64.wrap (su+o1)=su+o1:=IntWalk.i64_in _ (by omega);have hw2:IntKind.i64.wrap (su+o1+o2)=su+o1+o2:=IntWalk.i64_in _ (by omega);clear HF START;obtain⟨rb3,ro3,d3,c31,c32⟩:=CA.out _ (X0.out.tr (Y.out.tr Z.out)) last u hla hu;rw[ey3.out] at c32;have d53:w5.cell? ⟨w.heap.size,5,none⟩=some (.slice (some ⟨cb,cof,none⟩) co.length d):=(B1.out.ext (Y.out.tr Z.out)).cell 5;have p3:w5.cell? ⟨pb,po+k,none⟩=some (.int .i64 (u:Int)):=Zc Z.out zp1 cp1
      by_cases hn1:fr<0
      ·rw[if_pos hn1] at eF
       go_wp2_with (fail);go_quiet (fail)
       rename_i nq
       have Z2:Hid (Ext wo (w5.drewN nq)):=Z.out.drewN nq;go_wp2_with (fail);generalize w5.drewN nq=w7 at *;obtain⟨rb4,ro4,d4,c41,c42⟩:=CA.out _ (X0.out.tr (Y.out.tr Z2.out)) u 0 hu h0;rw[ey2.out] at c42;replace c42:w7.cell? ⟨rb4,ro4,none⟩=some (.int .i64 y2):=c42;have d54:w7.cell? ⟨w.heap.size,5,none⟩=some (.slice (some ⟨cb,cof,none⟩) co.length d):=(B1.out.ext (Y.out.tr Z2.out)).cell 5;have p4:w7.cell? ⟨pb,po+k,none⟩=some (.int .i64 (u:Int)):=Zc Z2.out zp1 cp1
       by_cases hn2:tq<0
       ·rw[if_pos hn2] at eT
        go_wp2_with (fail);go_quiet (fail);go_wp2_with (fail);go_roundw
        case rel=>exact⟨k+1,by go_num,by rw[eS.out],by rw[eF.out],by rw[eT.out],by omega,Y.out.tr (Z2.out.drewN _)⟩
        case measure=>simp[intOf];omega
       ·rw[if_neg hn2] at eT
        by_cases hl2:y2<tq
        ·rw[if_pos hl2] at eT
         go_wp2_with (fail);go_quiet (fail);go_wp2_with (fail);go_roundw
         case rel=>exact⟨k+1,by go_num,by rw[eS.out],by rw[eF.out],by rw[eT.out],by omega,Y.out.tr (Z2.out.drewN _)⟩
         case measure=>simp[intOf];omega
        ·rw[if_neg hl2] at eT
         go_wp2_with (fail);go_quiet (fail);go_wp2_with (fail);go_roundw
         case rel=>exact⟨k+1,by go_num,by rw[eS.out],by rw[eF.out],by rw[eT.out],by omega,Y.out.tr (Z2.out.drewN _)⟩
         case measure=>simp[intOf];omega
      ·rw[if_neg hn1] at eF
       by_cases hl1:y3<fr
       ·rw[if_pos hl1] at eF
        go_wp2_with (fail);go_quiet (fail)
        rename_i nq
        have Z2:Hid (Ext wo (w5.drewN nq)):=Z.out.drewN nq;go_wp2_with (fail);generalize w5.drewN nq=w7 at *;obtain⟨rb4,ro4,d4,c41,c42⟩:=CA.out _ (X0.out.tr (Y.out.tr Z2.out)) u 0 hu h0;rw[ey2.out] at c42;replace c42:w7.cell? ⟨rb4,ro4,none⟩=some (.int .i64 y2):=c42;have d54:w7.cell? ⟨w.heap.size,5,none⟩=some (.slice (some ⟨cb,cof,none⟩) co.length d):=(B1.out.ext (Y.out.tr Z2.out)).cell 5;have p4:w7.cell? ⟨pb,po+k,none⟩=some (.int .i64 (u:Int)):=Zc Z2.out zp1 cp1
        by_cases hn2:tq<0
        ·rw[if_pos hn2] at eT
         go_wp2_with (fail);go_quiet (fail);go_wp2_with (fail);go_roundw
         case rel=>exact⟨k+1,by go_num,by rw[eS.out],by rw[eF.out],by rw[eT.out],by omega,Y.out.tr (Z2.out.drewN _)⟩
         case measure=>simp[intOf];omega
        ·rw[if_neg hn2] at eT
         by_cases hl2:y2<tq
         ·rw[if_pos hl2] at eT
          go_wp2_with (fail);go_quiet (fail);go_wp2_with (fail);go_roundw
          case rel=>exact⟨k+1,by go_num,by rw[eS.out],by rw[eF.out],by rw[eT.out],by omega,Y.out.tr (Z2.out.drewN _)⟩
          case measure=>simp[intOf];omega
         ·rw[if_neg hl2] at eT
          go_wp2_with (fail);go_quiet (fail);go_wp2_with (fail);go_roundw
          case rel=>exact⟨k+1,by go_num,by rw[eS.out],by rw[eF.out],by rw[eT.out],by omega,Y.out.tr (Z2.out.drewN _)⟩
          case measure=>simp[intOf];omega
       ·rw[if_neg hl1] at eF
        go_wp2_with (fail);go_quiet (fail)
        rename_i nq
        have Z2:Hid (Ext wo (w5.drewN nq)):=Z.out.drewN nq;go_wp2_with (fail);generalize w5.drewN nq=w7 at *;obtain⟨rb4,ro4,d4,c41,c42⟩:=CA.out _ (X0.out.tr (Y.out.tr Z2.out)) u 0 hu h0;rw[ey2.out] at c42;replace c42:w7.cell? ⟨rb4,ro4,none⟩=some (.int .i64 y2):=c42;have d54:w7.cell? ⟨w.heap.size,5,none⟩=some (.slice (some ⟨cb,cof,none⟩) co.length d):=(B1.out.ext (Y.out.tr Z2.out)).cell 5;have p4:w7.cell? ⟨pb,po+k,none⟩=some (.int .i64 (u:Int)):=Zc Z2.out zp1 cp1
        by_cases hn2:tq<0
        ·rw[if_pos hn2] at eT
         go_wp2_with (fail);go_quiet (fail);go_wp2_with (fail);go_roundw
         case rel=>exact⟨k+1,by go_num,by rw[eS.out],by rw[eF.out],by rw[eT.out],by omega,Y.out.tr (Z2.out.drewN _)⟩
         case measure=>simp[intOf];omega
        ·rw[if_neg hn2] at eT
         by_cases hl2:y2<tq
         ·rw[if_pos hl2] at eT
          go_wp2_with (fail);go_quiet (fail);go_wp2_with (fail);go_roundw
          case rel=>exact⟨k+1,by go_num,by rw[eS.out],by rw[eF.out],by rw[eT.out],by omega,Y.out.tr (Z2.out.drewN _)⟩
          case measure=>simp[intOf];omega
         ·rw[if_neg hl2] at eT
          go_wp2_with (fail);go_quiet (fail);go_wp2_with (fail);go_roundw
          case rel=>exact⟨k+1,by go_num,by rw[eS.out],by rw[eF.out],by rw[eT.out],by omega,Y.out.tr (Z2.out.drewN _)⟩
          case measure=>simp[intOf];omega
  ·obtain rfl:k=l.length:=by omega
   have q2:¬((l.length:Int)<(l.length:Int)):=by omega
   have bs:=bsum.out l.length;have bf1:=bfr.out l.length (fun u=>Za co last u) fun x hx=>num.out last x hla hx
   have bf2:=bfr.out l.length (fun u=>Za co u 0) fun x hx=>num.out x 0 hx (by omega)
   rw[List.take_length] at *;have hw1:IntKind.i64.wrap (Zj (l.map fun u=>(ZO co l last u).1+(ZO co l last u).2)+Zs (fun u=>Za co last u) (-1) l)=Zj (l.map fun u=>(ZO co l last u).1+(ZO co l last u).2)+Zs (fun u=>Za co last u) (-1) l:=IntWalk.i64_in _ (by omega);have hw2:IntKind.i64.wrap (Zj (l.map fun u=>(ZO co l last u).1+(ZO co l last u).2)+Zs (fun u=>Za co last u) (-1) l+Zs (fun u=>Za co u 0) (-1) l)=Xv co l last:=IntWalk.i64_in _ (by omega);go_wp2_with (fail);go_ret;exact⟨rfl,X0.out.tr Y.out⟩
theorem Zig {rows:List (List Int)}{l:List Nat}{last s src:Nat}(hn:(last::l).Nodup)(h0:0∉l)(hs:(last::l)[s]?=some src){b v:Nat}(hb:l[b]?=some v) : XH rows l last src v=if b+1=s then -1 else Za rows src v:=by
 have hv:v∈l:=List.mem_of_getElem? hb;have hb':(last::l)[b+1]?=some v:=by simpa using hb
 have key:v=src↔b+1=s:=by
  obtain⟨h1,h2⟩:=List.getElem?_eq_some_iff.1 hs;obtain⟨h3,h4⟩:=List.getElem?_eq_some_iff.1 hb'
  constructor
  ·intro e
   refine(List.getElem_inj (h₀:=h3) (h₁:=h1) hn).1 ?_;rw[h2,h4,e]
  ·intro e
   subst e;rw[<-h4,<-h2]
 unfold XH
 by_cases e:b+1=s
 ·rw[if_pos e,if_neg]
  have hvs:=key.2 e;unfold YR;split
  ·rename_i h
   rw[hvs,h] at hv;exact absurd hv (List.nodup_cons.1 hn).1
  ·intro hm
   rcases List.mem_cons.1 hm with h | h
   ·rw[h] at hv;exact h0 hv
   ·have:=(List.mem_filter.1 h).2
    simp at this;exact this hvs.symm
 ·rw[if_neg e,if_pos]
  have hvs:¬v=src:=fun h=>e (key.1 h)
  unfold YR;split
  ·exact hv
  ·exact List.mem_cons_of_mem _ (List.mem_filter.2 ⟨hv,by simpa using fun h=>hvs h.symm⟩)
theorem Zhh {rows:List (List Int)}{l:List Nat}{last s src:Nat}(hn:(last::l).Nodup)(h0:0∉l)(hs:(last::l)[s]?=some src) : XH rows l last src 0=if s=0 then -1 else Za rows src 0:=by
 have key:src=last↔s=0:=by
  obtain⟨h1,h2⟩:=List.getElem?_eq_some_iff.1 hs
  constructor
  ·intro e
   have h3:(last::l)[0]'(by simp)=last:=rfl;refine(List.getElem_inj (h₀:=h1) (h₁:=by simp) hn).1 ?_;rw[h2,e,h3]
  ·intro e
   subst e
   simpa using h2.symm
 unfold XH YR
 by_cases e:s=0
 ·rw[if_pos e,if_pos (key.2 e),if_neg h0]
 ·rw[if_neg e,if_neg (fun h=>e (key.1 h)),if_pos (by simp)]
theorem Zcs (i:InstP)(us:List Value)(P:Option Addr)(pc:Nat)(p:List Int)(w:World)(H:RInst w us i)(ok:SquareOk i)(hP:RdI w P p)(lp:p.length<=1000000000) :
  Calls Tryz.prog 99 #[.agg (List.toArray us),.slice P p.length pc] w fun e w'=>e=.returned (.tuple #[.int .i64 (YD i.cost (WX i.cost) p).1,.int .i64 (YD i.cost (WX i.cost) p).2])/\Ext w w':=by
 have rok:=ZF ok;have l1:=rok.n1;have l2:=rok.n2;have hnn:i.n=(i.cost.length:Int):=ok.len.symm;have FR:=fun(W:World) (x:Ext w W)=>ZbD i us P pc p W (H.ext x) i.cost.length hnn rfl rok l1 l2 (hP.ext x) lp
 have MI:=fun(W:World) (x:Ext w W)=>Zdm i us W (H.ext x) ok
 have EN:=fun(W:World) (x:Ext w W) (A:Option Addr) (c:Nat) (l:List Nat) (last:Nat) (h:RdI W A (Zd l)) (h1:∀ x∈l,x<i.cost.length) (h2:l.Nodup) (h3:l.length<=24) (h4:last<i.cost.length)=>Zdo i us A c l last W (H.ext x) rok h h1 h2 h3 h4
 clear ok hP;obtain⟨kind,nn,cap,xw,xv,co⟩:=i;obtain⟨A,a,B,b,D,d,rfl,-,-,⟨hC,-,-⟩⟩:=H;simp only at *;subst hnn;obtain⟨cb,cof,_,_,_,rfl,_,_⟩:=XQ rok hC (r:=0) (c:=0) (by omega) (by omega);have num:=Yl rok;have CA:=Hd (fun(W:World) (x:Ext w W) (r c:Nat) (hr:r<co.length) (hc:c<co.length)=>Qj rok (hC.ext x fun _ _ h=>h.ext x) hr hc);obtain⟨r,hr⟩:∃ r,Hid (Z5 co p=r):=⟨_,rfl⟩;rw[hr.out] at FR;have B1:Hid (Blk (w.alloc (.cells #[.int .i64 kind,.int .i64 co.length,.int .i64 cap,.slice A xw.length a,.slice B xv.length b,.slice (some ⟨cb,cof,none⟩) co.length d] 25)) w.heap.size 25 #[.int .i64 kind,.int .i64 co.length,.int .i64 cap,.slice A xw.length a,.slice B xv.length b,.slice (some ⟨cb,cof,none⟩) co.length d]):=.new rfl;replace hC:=Hd hC
 cases r with
 | none =>
  have e:YD co (WX co) p=(0,1):=by unfold YD;rw[hr.out]
  rw[e];unfold Zfx at FR;replace FR:=Hd FR;clear MI EN;go_enter Tryz.func99,Tryz.ntmps99;go_wp2_with (fail);refine(FR.out _ (by(repeat (first | assumption | exact Ext.rf _ | apply Ext.drew | apply Ext.drewN | apply Ext.alloc)))).mono ?_;rintro e w1 ⟨rfl,x1⟩;have X1:=Hd (Ext.tr (a:=w) (by(repeat (first | assumption | exact Ext.rf _ | apply Ext.drew | apply Ext.drewN | apply Ext.alloc))) x1);clear x1;go_wp2_with (fail);go_ret2;exact⟨rfl,X1.out⟩
 | some s =>
  obtain⟨m,last,cost⟩:=s;obtain⟨pl,WO⟩:=YK l1 l2 hr.out;have hS:=WO.sub;have hla:=JF l1 WO;have h0m:0∉Zf m:=fun h=>((WO.rest 0).1 h).1.2 rfl
  have hlen:(Zf m).length<=23:=by have:=WO.len;omega
  have hnl:last∉Zf m:=fun h=>by
   have h1:=(WO.rest last).1 h;rw[WO.last] at h1;rcases Vj pl 0 with e | e
   ·rw[e] at h1;exact h1.1.2 rfl
   ·exact h1.2 e
  have hnod:(last::Zf m).Nodup:=List.nodup_cons.2 ⟨hnl,(Zw m).imp fun h=>by omega⟩;have bcost:0<=cost/\cost<=2147483647*24:=by
   have h1:=Zcr num pl 0 (by omega) fun x hx=>(WO.inn x hx).1
   have h2:=WO.len;rw[WO.cost];omega
  replace FR:=fun(W:World) (x:Ext w W)=>(show Calls _ _ _ W (V7 m last cost W) from FR W x)
  unfold V7 at FR;have e:YD co (WX co) p=(cost+(if Zf m=[] then Za co last 0 else if WX co=true then max (ZT co (Zf m) last) ((Xv co (Zf m) last+1) / 2) else ZT co (Zf m) last),0):=by unfold YD;rw[hr.out]
  obtain⟨tot,ht⟩:∃ tot,Hid (tot=cost+(if Zf m=[] then Za co last 0 else if WX co=true then max (ZT co (Zf m) last) ((Xv co (Zf m) last+1) / 2) else ZT co (Zf m) last)):=⟨_,rfl⟩;rw[e,<-ht.out];clear e;have hin:Hid (∀ x∈Zf m,x<co.length):=hS.2;obtain⟨l,hll⟩:∃ l,Hid (Zf m=l):=⟨_,rfl⟩;rw[hll.out] at FR ht hin h0m hlen hnl hnod;replace FR:=Hd FR;replace MI:=Hd MI;replace EN:=Hd EN;replace num:=Hd num;replace h0m:=Hd h0m;replace hnod:=Hd hnod;replace hnl:=Hd hnl;clear hr WO hS;go_enter Tryz.func99,Tryz.ntmps99;go_wp2_with (fail);refine(FR.out _ (by(repeat (first | assumption | exact Ext.rf _ | apply Ext.drew | apply Ext.drewN | apply Ext.alloc)))).mono ?_;rintro e w1 ⟨LA,lc,rfl,oL,x1⟩;have X1:=Hd (Ext.tr (a:=w) (by(repeat (first | assumption | exact Ext.rf _ | apply Ext.drew | apply Ext.drewN | apply Ext.alloc))) x1);have b1:=Hd (B1.out.ext x1);have oL1:Hid (OwI w1 w.heap.size LA lc (Zd l)):=OwI.more oL (by simp);clear x1 oL
  by_cases hne:l.length=0
  ·have hl0:l=[]:=List.eq_nil_of_length_eq_zero hne
   have ht2:Hid (tot=cost+Za co last 0):=by
    have h:=ht.out;rw[if_pos hl0] at h;exact h
   have n2:=num.out last 0 hla (by omega);obtain⟨rb1,ro1,d1,c11,c12⟩:=CA.out _ X1.out last 0 hla (by omega);generalize Za co last 0=y at *;replace c12:w1.cell? ⟨rb1,ro1,none⟩=some (.int .i64 y):=c12;have d5:=b1.out.c5;have hw:IntKind.i64.wrap (cost+y)=cost+y:=IntWalk.i64_in _ (by omega);have q1:(last:Int)<(co.length:Int):=by omega
   have q2:(0:Int)<(co.length:Int):=by omega
   have elen:((l.length:Int)==0)=true:=by rw[hne];rfl
   clear hl0 ht;replace hne:=Hd hne;go_wp2_with (fail);go_ret2;rw[ht2.out];exact⟨rfl,X1.out⟩
  ·have elen:((l.length:Int)==0)=false:=by rw[beq_eq_false_iff_ne];omega
   have hlnil:l≠[]:=fun h=>hne (by rw[h];rfl)
   have ht2:Hid (tot=cost+(if WX co=true then max (ZT co l last) ((Xv co l last+1) / 2) else ZT co l last)):=by
    have h:=ht.out;rw[if_neg hlnil] at h;exact h
   have bred:=Hd (ZaM num.out (by omega) hla hin.out (by omega:l.length<=24));have bend:=Hd (Zdl num.out (by omega) hla hin.out (by omega:l.length<=24) hlnil);obtain⟨i0,hi,hz0,hz1,hz2⟩:=info_parts VU;replace hi:=Hd hi;replace hz0:=Hd hz0;replace hz1:=Hd hz1;replace hz2:=Hd hz2;replace hlnil:=Hd hlnil;have lml:Hid ((Wv co l last).length=l.length+1):=Zic;obtain⟨ms,hms⟩:∃ ms,Hid (Wv co l last=ms):=⟨_,rfl⟩;rw[hms.out] at lml;have START:Hid (OwV w1 w.heap.size 22 1 none 0 0 []/\RowsO w1 w.heap.size [] (ms.take 0)/\Ext w w1/\Blk w1 w.heap.size 25 #[.int .i64 kind,.int .i64 co.length,.int .i64 cap,.slice A xw.length a,.slice B xv.length b,.slice (some ⟨cb,cof,none⟩) co.length d]/\OwI w1 w.heap.size LA lc (Zd l)):=⟨OwV.nil _ _ _ _,by simpa using RowsO.nil w1 w.heap.size,X1.out,b1.out,oL1.out⟩;clear ht;go_wp2_with (fail);go_loopw [10,11] (fun v10 v11 wr=>∃ (s:Nat) (aa:Int) (MA:Option Addr) (mc:Nat) (mus:List Value),v11=.int .i64 aa/\Hid (aa=(s:Int)-1)/\v10=.slice MA s mc/\s<=l.length+1/\Hid (OwV wr w.heap.size 22 1 MA s mc mus/\RowsO wr w.heap.size mus (ms.take s)/\Ext w wr/\Blk wr w.heap.size 25 #[.int .i64 kind,.int .i64 co.length,.int .i64 cap,.slice A xw.length a,.slice B xv.length b,.slice (some ⟨cb,cof,none⟩) co.length d]/\OwI wr w.heap.size LA lc (Zd l))) (fun _ v11 _=>(l.length-intOf v11).toNat)
   case atStart=>exact⟨0,-1,none,0,[],rfl,by exact(show (-1:Int)=((0:Nat):Int)-1 from by omega),rfl,by omega,START⟩
   case round =>
    obtain⟨wo,rfl⟩:∃ wo:World,wo=wr:=⟨_,rfl⟩;clear START;obtain⟨s,aa,MA,mc,mus,rfl,haa,rfl,hk,HH⟩:=hrel;obtain⟨oV,oR,Y,bI,oL⟩:=HH.out
    by_cases hlt:s<l.length+1
    ·have hsl:s<(last::l).length:=by simpa using hlt
     obtain⟨src,hsrc⟩:∃ src,Hid ((last::l)[s]?=some src):=⟨_,List.getElem?_eq_getElem hsl⟩;have hsm:src=last\/src∈l:=by
      have:=List.mem_of_getElem? hsrc.out
      simpa using this
     have hsn:src<co.length:=by
      rcases hsm with rfl | h
      ·exact hla
      ·exact hin.out _ h
     obtain⟨row,hrow⟩:∃ row:List Int,Hid (List.map (fun dst:Nat=>XH co l last src dst) (l++[0]:List Nat)=row):=⟨List.map (fun dst:Nat=>XH co l last src dst) (l++[0]:List Nat),rfl⟩;have etk:Hid (ms.take (s+1)=ms.take s++[row]):=Hd (by
      have e1:ms[s]?=some row:=by
       rw[<-hms.out,<-hrow.out];unfold Wv;rw[List.getElem?_map,hsrc.out]
       rfl
      rw[List.take_add_one,e1]
      rfl)
     have lrow:row.length=l.length+1:=by rw[<-hrow.out];simp
     have erow:Hid (∀ b v,l[b]?=some v->row[b]?=some (if b+1=s then -1 else Za co src v)):=fun b v hb=>by
      have hbl:b<l.length:=(List.getElem?_eq_some_iff.1 hb).1;rw[<-hrow.out,List.getElem?_map,List.getElem?_append_left hbl,hb,<-Zig hnod.out h0m.out hsrc.out hb]
      rfl
     have ehome:Hid (row[l.length]?=some (if s=0 then -1 else Za co src 0)):=Hd (by
      rw[<-hrow.out,List.getElem?_map,List.getElem?_append_right (Nat.le_refl _),<-Zhh hnod.out h0m.out hsrc.out];simp)
     obtain⟨lb,lo,rfl⟩:∃ lb lo,LA=some ⟨lb,lo,none⟩:=by
      obtain⟨b',o',x',h1,_⟩:=oL.read.at (k:=0) (by rw[Zg];omega);exact⟨b',o',h1⟩
     have OM:=oV.lt;replace oV:=Hd oV;replace oR:=Hd oR;replace Y:=Hd Y;replace bI:=Hd bI;replace oL:=Hd oL;have zwo:w.heap.size<=wo.heap.size:=Y.out.size;clear HH hsm hsl
     cases s with
     | zero =>
      obtain rfl:aa=-1:=by have:=haa.out;omega
      obtain rfl:src=last:=by have h:=hsrc.out;simp at h;exact h.symm
      clear haa;have q1:(-1:Int)<(l.length:Int):=by omega
      have START2:Hid (OwI wo wo.heap.size none 0 (row.take 0)/\Ext wo wo):=⟨OwI.nil _ _,Ext.rf _⟩;have hrg:Hid (OwI (wo.alloc (.cells #[] 3)) wo.heap.size (some ⟨wo.heap.size,0,none⟩) 0 (row.take 0)/\Ext wo (wo.alloc (.cells #[] 3))):=⟨OwI.empty (.new rfl) (Nat.le_refl _),(Ext.rf _).alloc _⟩;go_wp2_with (fail);go_loopw [13,14] (fun v13 v14 wr=>∃ (b:Nat) (RA:Option Addr) (rc:Nat),v14=.int .i64 b/\v13=.slice RA b rc/\b<=l.length/\Hid (OwI wr wo.heap.size RA rc (row.take b)/\Ext wo wr)) (fun _ v14 _=>l.length-(intOf v14).toNat)
      case atStart=>exact⟨0,some ⟨wo.heap.size,0,none⟩,0,rfl,rfl,by omega,hrg⟩
      case round =>
       obtain⟨wi,rfl⟩:∃ wi:World,wi=wr:=⟨_,rfl⟩;clear START2 hrg;obtain⟨b',RA,rc,rfl,rfl,hb,HR⟩:=hrel;obtain⟨oN,Z⟩:=HR.out;replace oN:=Hd oN;replace Z:=Hd Z;have zwi:=Z.out.size;have d5:wi.cell? ⟨w.heap.size,5,none⟩=some (.slice (some ⟨cb,cof,none⟩) co.length d):=(bI.out.ext Z.out).cell 5;have ltk:(row.take b').length=b':=by rw[List.length_take,lrow];omega
       clear HR
       by_cases hlb:b'<l.length
       ·have eb:l[b']?=some l[b']:=List.getElem?_eq_getElem hlb
        have hvn:=hin.out _ (List.getElem_mem hlb);have er:=erow.out b' _ eb;obtain⟨lb2,lo2,xv2,hq2,zl2,cl2,el2,_⟩:=(oL.out.ext Z.out).read.at (k:=b') (by rw[Zg];exact hlb);obtain⟨rfl,rfl⟩:lb=lb2/\lo=lo2:=by simpa using hq2
        have exv:xv2=((l[b']:Nat):Int):=by
         have h:=el2.out;rw[ZD eb] at h;exact(Option.some.inj h).symm
        subst exv;generalize l[b']=v at *;have etb:Hid (row.take (b'+1)=row.take b'++[if b'+1=0 then -1 else Za co src v]):=Hd (by rw[List.take_add_one,er];rfl);have q2:(b':Int)<(l.length:Int):=by omega
        clear er eb el2 hq2;have hif:(if b'+1=0 then(-1:Int) else Za co src v)=Za co src v:=if_neg (by omega);rw[hif] at etb;have te:((b':Int)==-1)=false:=by rw[beq_eq_false_iff_ne];omega
        obtain⟨rb5,ro5,d5',c51,c52⟩:=CA.out _ (Y.out.tr Z.out) src v hsn hvn;obtain⟨cv,hcv⟩:∃ cv,Hid (Za co src v=cv):=⟨_,rfl⟩;rw[hcv.out] at c52 etb;have q3:(src:Int)<(co.length:Int):=by omega
        have q4:(v:Int)<(co.length:Int):=by omega
        go_upto_region 19 with(fail);refine wp_region_any (by kernel_rfl) ?_
        change wpAny _ _ _ _ _ _ _ (World.drew _)
        refine Zb (i:=0) (op:=Op.move (Operand.tmp 13)) (t:=22) (d:=some 65) (v:=?_) rfl (by decide +kernel) (by decide +kernel) (by decide +kernel) (fun _ _ _ h=>h) ?_ ?_
        case refine_2=>(intro _;unfold Ze;go_simp;try with_reducible rfl)
        try simp only[lay]
        refine Zb (i:=1) (op:=Op.fieldAddr 25 (Operand.tmp 2) 5) (t:=0) (d:=some 66) (v:=?_) rfl (by decide +kernel) (by decide +kernel) (by decide +kernel) (fun _ _ _ h=>h) ?_ ?_
        case refine_2=>(intro _;unfold Ze;go_simp;try with_reducible rfl)
        try simp only[lay]
        refine Zb (i:=3) (op:=Op.move (Operand.tmp 12)) (t:=3) (d:=some 68) (v:=?_) rfl (by decide +kernel) (by decide +kernel) (by decide +kernel) (fun _ _ _ h=>h) ?_ ?_
        case refine_2=>(intro _;unfold Ze;go_simp;try with_reducible rfl)
        try simp only[lay]
        refine Zb (i:=6) (op:=Op.move (Operand.tmp 6)) (t:=22) (d:=some 71) (v:=?_) rfl (by decide +kernel) (by decide +kernel) (by decide +kernel) (fun _ _ _ h=>h) ?_ ?_
        case refine_2=>(intro _;unfold Ze;go_simp;try with_reducible rfl)
        try simp only[lay]
        refine Zb (i:=7) (op:=Op.move (Operand.tmp 14)) (t:=3) (d:=some 72) (v:=?_) rfl (by decide +kernel) (by decide +kernel) (by decide +kernel) (fun _ _ _ h=>h) ?_ ?_
        case refine_2=>(intro _;unfold Ze;go_simp;try with_reducible rfl)
        try simp only[lay]
        refine Xt (n:=3) [(2,some 67),(4,some 69),(5,some 70),(8,some 73),(9,some 74),(10,some 75),(11,some 76)] (fun | 2=>.slice (some ⟨cb,cof,none⟩) co.length d | 4=>.pointer (some ⟨cb,cof+src,none⟩) | 5=>.slice (some ⟨rb5,ro5,none⟩) co.length d5' | 8=>.pointer (some ⟨lb,lo+b',none⟩) | 9=>.int .i64 (v:Int) | 10=>.pointer (some ⟨rb5,ro5+v,none⟩) | 11=>.int .i64 cv | _=>undef) #[true,true,true,true,true,true,true,true,true,true,true,true,false,false,false] (by decide +kernel) ?_ ?_
        ·intro pS hpm uS hD K hK
         simp only[List.mem_cons,List.not_mem_nil,or_false] at hpm;rcases hpm with rfl | rfl | rfl | rfl | rfl | rfl | rfl
         ·exact Zy (T:=23) (x:=Operand.tmp 66) (t:=23) (d:=some 67) rfl (.pointer (some ⟨w.heap.size,5,none⟩)) (by kernel_rfl) (.slice (some ⟨cb,cof,none⟩) co.length d) (by go_simp) hK
         ·exact YG (T:=23) (x:=Operand.tmp 67) (y:=Operand.tmp 68) (t:=0) (d:=some 69) rfl (.slice (some ⟨cb,cof,none⟩) co.length d) (.int .i64 (src:Int)) (Eq.trans (b:=uS 2) (by kernel_rfl) (hD 2 (Zq (by kernel_rfl)))) (by kernel_rfl) (.pointer (some ⟨cb,cof+src,none⟩)) (by go_simp) hK
         ·exact Zy (T:=22) (x:=Operand.tmp 69) (t:=22) (d:=some 70) rfl (.pointer (some ⟨cb,cof+src,none⟩)) (Eq.trans (b:=uS 4) (by kernel_rfl) (hD 4 (Zq (by kernel_rfl)))) (.slice (some ⟨rb5,ro5,none⟩) co.length d5') (by go_simp) hK
         ·exact YG (T:=22) (x:=Operand.tmp 71) (y:=Operand.tmp 72) (t:=0) (d:=some 73) rfl (.slice (some ⟨lb,lo,none⟩) l.length lc) (.int .i64 (b':Int)) (by kernel_rfl) (by kernel_rfl) (.pointer (some ⟨lb,lo+b',none⟩)) (by go_simp) hK
         ·exact Zy (T:=3) (x:=Operand.tmp 73) (t:=3) (d:=some 74) rfl (.pointer (some ⟨lb,lo+b',none⟩)) (Eq.trans (b:=uS 8) (by kernel_rfl) (hD 8 (Zq (by kernel_rfl)))) (.int .i64 (v:Int)) (by go_simp) hK
         ·exact YG (T:=22) (x:=Operand.tmp 70) (y:=Operand.tmp 74) (t:=0) (d:=some 75) rfl (.slice (some ⟨rb5,ro5,none⟩) co.length d5') (.int .i64 (v:Int)) (Eq.trans (b:=uS 5) (by kernel_rfl) (hD 5 (Zq (by kernel_rfl)))) (Eq.trans (b:=uS 9) (by kernel_rfl) (hD 9 (Zq (by kernel_rfl)))) (.pointer (some ⟨rb5,ro5+v,none⟩)) (by go_simp) hK
         ·exact Zy (T:=3) (x:=Operand.tmp 75) (t:=3) (d:=some 76) rfl (.pointer (some ⟨rb5,ro5+v,none⟩)) (Eq.trans (b:=uS 10) (by kernel_rfl) (hD 10 (Zq (by kernel_rfl)))) (.int .i64 cv) (by go_simp) hK
        simp only[Zn,Act.put,List.setIfInBounds_toArray,List.set_cons_zero,List.set_cons_succ];refine Zm 12 (by decide +kernel) (Wj rfl (.int .i64 cv) (by kernel_rfl) _ (ZbC _ _) ?_)
        try simp only[lay]
        have oN2:OwI (wi.drew.alloc (.cells #[.int .i64 cv] 3)) wo.heap.size RA rc (row.take b'):=oN.out.ext (((Ext.rf _).drew).alloc _);obtain⟨A5,c5,w5,hrun,o5,g5,-⟩:=Yc (wi.drew.alloc (.cells #[.int .i64 cv] 3)) wo.heap.size 22 RA b' rc (row.take b') [cv] (some ⟨wi.drew.heap.size,0,none⟩) 1 ltk.symm oN2 (.blk (.new rfl) rfl) (by simp;omega) (by simp;omega);have X5:=Ext.grow ((Z.out.drew).alloc (.cells #[.int .i64 cv] 3)) g5 (fun k hk=>(oN2.lt k hk).1);have lapp:(row.take b'++[cv]).length=b'+1:=by rw[List.length_append,ltk];rfl
        rw[lapp] at hrun;refine Zm 13 (by decide +kernel) (Yr rfl (.slice RA b' rc) (.slice (some ⟨wi.drew.heap.size,0,none⟩) 1 1) (by kernel_rfl) (by kernel_rfl) _ hrun ?_)
        try simp only[lay]
        refine Zb (i:=14) (op:=Op.assign (Operand.tmp 78)) (t:=22) (d:=some 13) (v:=?_) rfl (by decide +kernel) (by decide +kernel) (by decide +kernel) (fun _ _ _ h=>h) ?_ ?_
        case refine_2=>(intro _;unfold Ze;go_simp;try with_reducible rfl)
        try simp only[lay]
        refine wpAny_done (by kernel_rfl) ?_ _;clear hrun lapp;go_simp;go_wp2_with (fail);go_roundw
        case rel =>
         refine⟨b'+1,A5,c5,by go_num,?_,by omega,?_⟩
         ·first | rfl | (rw[List.length_append,ltk];rfl) | (simp;omega)
         ·exact(show OwI w5 wo.heap.size A5 c5 (row.take (b'+1))/\Ext wo w5 from⟨by rw[etb.out];exact o5,X5⟩)
        case measure=>simp[intOf]<;>omega
       ·obtain rfl:b'=l.length:=by omega
        have q2:¬((l.length:Int)<(l.length:Int)):=by omega
        have er:=ehome.out;have etb:Hid (row=row.take l.length++[-1]):=Hd (by
         have h1:row.take (l.length+1)=row:=List.take_of_length_le (by rw[lrow];exact Nat.le_refl _);rw[<-h1,List.take_add_one,er];simp[lrow])
        clear er;have oN2:Hid (OwI (wi.alloc (.cells #[.int .i64 (-1)] 3)) wo.heap.size RA rc (row.take l.length)):=oN.out.ext ((Ext.rf _).alloc _);go_wp2_with (first | (at_builtin;go_loud (refine ZG _ rfl _ _ rfl wo.heap.size RA l.length rc (row.take l.length) [-1] (some ⟨wi.heap.size,0,none⟩) 1 rfl rfl ltk.symm ?_ ?_ ?_ ?_ ?_;(exact oN2.out);(exact .blk (.new rfl) rfl);(simp;omega);(simp;omega);rintro A5 c5 w5 o5 g5 _;have X5:=Ext.grow (Z.out.alloc _) g5 (fun k hk=>(oN2.out.lt k hk).1);rw[<-etb.out] at o5 ⊢;rw[lrow])) | (at_builtin;refine Yd _ (e:=22) Tryz.underlying23 hi.out hz0.out hz1.out hz2.out (by simp[Value.cells]) (by omega) rfl _ _ rfl w.heap.size MA 0 mc mus (some ⟨w5.heap.size,0,none⟩) 1 1 [.slice A5 (l.length+1) c5] rfl rfl ((oV.out.ext X5).ext ((Ext.rf _).alloc _)) (RdV.blk (.new (by simp))).rdC (by simp) (by simp[Value.oneCell']) (by simp only[maxLen];omega) (by omega) (by have:=X5.size;simp;omega) ?_;rintro M6' m6 w6 o6 g6 _));have oV5:=(oV.out.ext X5).ext ((Ext.rf w5).alloc (.cells #[.slice A5 (l.length+1) c5] 22));have M6:=oV5.grownT g6;have X6:Ext wo (w5.alloc (.cells #[.slice A5 (l.length+1) c5] 22)):=X5.tr ((Ext.rf _).alloc _);have NEW:Hid (OwV w6 w.heap.size 22 1 M6' (0+1) m6 (mus++[.slice A5 (l.length+1) c5])/\RowsO w6 w.heap.size (mus++[.slice A5 (l.length+1) c5]) (ms.take (0+1))/\Ext w w6/\Blk w6 w.heap.size 25 #[.int .i64 kind,.int .i64 co.length,.int .i64 cap,.slice A xw.length a,.slice B xv.length b,.slice (some ⟨cb,cof,none⟩) co.length d]/\OwI w6 w.heap.size (some ⟨lb,lo,none⟩) lc (Zd l)):=by
         refine⟨o6,?_,(Y.out.tr X6).modT M6 (Nat.le_refl _),(bI.out.ext X6).modT M6 (by decide),(oL.out.ext X6).modT M6 (by decide)⟩;rw[etk.out];have h:=((oR.out.ext X6).modT M6 (by decide)).snoc (((o5.more zwo).ext ((Ext.rf _).alloc _)).modT M6 (by decide));rw[lrow] at h;exact h
        go_roundw
        case rel=>exact⟨0+1,0,M6',m6,mus++[.slice A5 (l.length+1) c5],by go_num,by exact(show (0:Int)=((0+1:Nat):Int)-1 from by omega),rfl,by omega,NEW⟩
        case measure=>simp[intOf]<;>omega
     | succ k =>
      obtain rfl:aa=(k:Int):=by have:=haa.out;omega
      have hkl:k<l.length:=by omega
      have ek:l[k]?=some src:=by have h:=hsrc.out;simpa using h
      obtain⟨lb',lo',xs,hq,zs,cs0,es,_⟩:=oL.out.read.at (k:=k) (by rw[Zg];exact hkl);obtain⟨rfl,rfl⟩:lb=lb'/\lo=lo':=by simpa using hq
      have exs:xs=(src:Int):=by
       have h:=es.out;rw[ZD ek] at h;exact(Option.some.inj h).symm
      subst exs;clear haa es hq;replace ek:=Hd ek;have q1:(k:Int)<(l.length:Int):=by omega
      have q1':¬((k:Int)<0):=by omega
      have START2:Hid (OwI wo wo.heap.size none 0 (row.take 0)/\Ext wo wo):=⟨OwI.nil _ _,Ext.rf _⟩;have hrg:Hid (OwI (wo.alloc (.cells #[] 3)) wo.heap.size (some ⟨wo.heap.size,0,none⟩) 0 (row.take 0)/\Ext wo (wo.alloc (.cells #[] 3))):=⟨OwI.empty (.new rfl) (Nat.le_refl _),(Ext.rf _).alloc _⟩;go_wp2_with (fail);go_loopw [13,14] (fun v13 v14 wr=>∃ (b:Nat) (RA:Option Addr) (rc:Nat),v14=.int .i64 b/\v13=.slice RA b rc/\b<=l.length/\Hid (OwI wr wo.heap.size RA rc (row.take b)/\Ext wo wr)) (fun _ v14 _=>l.length-(intOf v14).toNat)
      case atStart=>exact⟨0,some ⟨wo.heap.size,0,none⟩,0,rfl,rfl,by omega,hrg⟩
      case round =>
       obtain⟨wi,rfl⟩:∃ wi:World,wi=wr:=⟨_,rfl⟩;clear START2 hrg;obtain⟨b',RA,rc,rfl,rfl,hb,HR⟩:=hrel;obtain⟨oN,Z⟩:=HR.out;replace oN:=Hd oN;replace Z:=Hd Z;have zwi:=Z.out.size;have d5:wi.cell? ⟨w.heap.size,5,none⟩=some (.slice (some ⟨cb,cof,none⟩) co.length d):=(bI.out.ext Z.out).cell 5;have ltk:(row.take b').length=b':=by rw[List.length_take,lrow];omega
       clear HR
       by_cases hlb:b'<l.length
       ·have eb:l[b']?=some l[b']:=List.getElem?_eq_getElem hlb
        have hvn:=hin.out _ (List.getElem_mem hlb);have er:=erow.out b' _ eb;obtain⟨lb2,lo2,xv2,hq2,zl2,cl2,el2,_⟩:=(oL.out.ext Z.out).read.at (k:=b') (by rw[Zg];exact hlb);obtain⟨rfl,rfl⟩:lb=lb2/\lo=lo2:=by simpa using hq2
        have exv:xv2=((l[b']:Nat):Int):=by
         have h:=el2.out;rw[ZD eb] at h;exact(Option.some.inj h).symm
        subst exv;generalize l[b']=v at *;have etb:Hid (row.take (b'+1)=row.take b'++[if b'+1=k+1 then -1 else Za co src v]):=Hd (by rw[List.take_add_one,er];rfl);have q2:(b':Int)<(l.length:Int):=by omega
        clear er eb el2 hq2
        by_cases hbk:b'=k
        ·have hif:(if b'+1=k+1 then(-1:Int) else Za co src v)=-1:=if_pos (by omega)
         rw[hif] at etb;have te:((b':Int)==(k:Int))=true:=by rw[beq_iff_eq];omega
         have oN2:OwI (wi.alloc (.cells #[.int .i64 (-1)] 3)) wo.heap.size RA rc (row.take b'):=oN.out.ext ((Ext.rf _).alloc _);go_wp2_with (at_builtin;go_loud (refine ZG _ rfl _ _ rfl wo.heap.size RA b' rc (row.take b') [-1] (some ⟨wi.heap.size,0,none⟩) 1 rfl rfl ltk.symm ?_ ?_ ?_ ?_ ?_;(exact oN2);(exact .blk (.new rfl) rfl);(simp;omega);(simp;omega);rintro A5 c5 w5 o5 g5 _;have X5:=Ext.grow (Z.out.alloc _) g5 (fun k hk=>(oN2.lt k hk).1)));go_roundw
         case rel =>
          refine⟨b'+1,A5,c5,by go_num,?_,by omega,?_⟩
          ·first | rfl | (rw[List.length_append,ltk];rfl) | (simp;omega)
          ·exact(show OwI w5 wo.heap.size A5 c5 (row.take (b'+1))/\Ext wo w5 from⟨by rw[etb.out];exact o5,X5⟩)
         case measure=>simp[intOf]<;>omega
        ·have hif:(if b'+1=k+1 then(-1:Int) else Za co src v)=Za co src v:=if_neg (by omega)
         rw[hif] at etb;have te:((b':Int)==(k:Int))=false:=by rw[beq_eq_false_iff_ne];omega
         obtain⟨rb5,ro5,d5',c51,c52⟩:=CA.out _ (Y.out.tr Z.out) src v hsn hvn;obtain⟨cv,hcv⟩:∃ cv,Hid (Za co src v=cv):=⟨_,rfl⟩;rw[hcv.out] at c52 etb;have q3:(src:Int)<(co.length:Int):=by omega
         have q4:(v:Int)<(co.length:Int):=by omega
         go_upto_region 19 with(fail);refine wp_region_any (by kernel_rfl) ?_
         change wpAny _ _ _ _ _ _ _ (World.drew _)
         refine Zb (i:=0) (op:=Op.move (Operand.tmp 13)) (t:=22) (d:=some 65) (v:=?_) rfl (by decide +kernel) (by decide +kernel) (by decide +kernel) (fun _ _ _ h=>h) ?_ ?_
         case refine_2=>(intro _;unfold Ze;go_simp;try with_reducible rfl)
         try simp only[lay]
         refine Zb (i:=1) (op:=Op.fieldAddr 25 (Operand.tmp 2) 5) (t:=0) (d:=some 66) (v:=?_) rfl (by decide +kernel) (by decide +kernel) (by decide +kernel) (fun _ _ _ h=>h) ?_ ?_
         case refine_2=>(intro _;unfold Ze;go_simp;try with_reducible rfl)
         try simp only[lay]
         refine Zb (i:=3) (op:=Op.move (Operand.tmp 12)) (t:=3) (d:=some 68) (v:=?_) rfl (by decide +kernel) (by decide +kernel) (by decide +kernel) (fun _ _ _ h=>h) ?_ ?_
         case refine_2=>(intro _;unfold Ze;go_simp;try with_reducible rfl)
         try simp only[lay]
         refine Zb (i:=6) (op:=Op.move (Operand.tmp 6)) (t:=22) (d:=some 71) (v:=?_) rfl (by decide +kernel) (by decide +kernel) (by decide +kernel) (fun _ _ _ h=>h) ?_ ?_
         case refine_2=>(intro _;unfold Ze;go_simp;try with_reducible rfl)
         try simp only[lay]
         refine Zb (i:=7) (op:=Op.move (Operand.tmp 14)) (t:=3) (d:=some 72) (v:=?_) rfl (by decide +kernel) (by decide +kernel) (by decide +kernel) (fun _ _ _ h=>h) ?_ ?_
         case refine_2=>(intro _;unfold Ze;go_simp;try with_reducible rfl)
         try simp only[lay]
         refine Xt (n:=3) [(2,some 67),(4,some 69),(5,some 70),(8,some 73),(9,some 74),(10,some 75),(11,some 76)] (fun | 2=>.slice (some ⟨cb,cof,none⟩) co.length d | 4=>.pointer (some ⟨cb,cof+src,none⟩) | 5=>.slice (some ⟨rb5,ro5,none⟩) co.length d5' | 8=>.pointer (some ⟨lb,lo+b',none⟩) | 9=>.int .i64 (v:Int) | 10=>.pointer (some ⟨rb5,ro5+v,none⟩) | 11=>.int .i64 cv | _=>undef) #[true,true,true,true,true,true,true,true,true,true,true,true,false,false,false] (by decide +kernel) ?_ ?_
         ·intro pS hpm uS hD K hK
          simp only[List.mem_cons,List.not_mem_nil,or_false] at hpm;rcases hpm with rfl | rfl | rfl | rfl | rfl | rfl | rfl
          ·exact Zy (T:=23) (x:=Operand.tmp 66) (t:=23) (d:=some 67) rfl (.pointer (some ⟨w.heap.size,5,none⟩)) (by kernel_rfl) (.slice (some ⟨cb,cof,none⟩) co.length d) (by go_simp) hK
          ·exact YG (T:=23) (x:=Operand.tmp 67) (y:=Operand.tmp 68) (t:=0) (d:=some 69) rfl (.slice (some ⟨cb,cof,none⟩) co.length d) (.int .i64 (src:Int)) (Eq.trans (b:=uS 2) (by kernel_rfl) (hD 2 (Zq (by kernel_rfl)))) (by kernel_rfl) (.pointer (some ⟨cb,cof+src,none⟩)) (by go_simp) hK
          ·exact Zy (T:=22) (x:=Operand.tmp 69) (t:=22) (d:=some 70) rfl (.pointer (some ⟨cb,cof+src,none⟩)) (Eq.trans (b:=uS 4) (by kernel_rfl) (hD 4 (Zq (by kernel_rfl)))) (.slice (some ⟨rb5,ro5,none⟩) co.length d5') (by go_simp) hK
          ·exact YG (T:=22) (x:=Operand.tmp 71) (y:=Operand.tmp 72) (t:=0) (d:=some 73) rfl (.slice (some ⟨lb,lo,none⟩) l.length lc) (.int .i64 (b':Int)) (by kernel_rfl) (by kernel_rfl) (.pointer (some ⟨lb,lo+b',none⟩)) (by go_simp) hK
          ·exact Zy (T:=3) (x:=Operand.tmp 73) (t:=3) (d:=some 74) rfl (.pointer (some ⟨lb,lo+b',none⟩)) (Eq.trans (b:=uS 8) (by kernel_rfl) (hD 8 (Zq (by kernel_rfl)))) (.int .i64 (v:Int)) (by go_simp) hK
          ·exact YG (T:=22) (x:=Operand.tmp 70) (y:=Operand.tmp 74) (t:=0) (d:=some 75) rfl (.slice (some ⟨rb5,ro5,none⟩) co.length d5') (.int .i64 (v:Int)) (Eq.trans (b:=uS 5) (by kernel_rfl) (hD 5 (Zq (by kernel_rfl)))) (Eq.trans (b:=uS 9) (by kernel_rfl) (hD 9 (Zq (by kernel_rfl)))) (.pointer (some ⟨rb5,ro5+v,none⟩)) (by go_simp) hK
          ·exact Zy (T:=3) (x:=Operand.tmp 75) (t:=3) (d:=some 76) rfl (.pointer (some ⟨rb5,ro5+v,none⟩)) (Eq.trans (b:=uS 10) (by kernel_rfl) (hD 10 (Zq (by kernel_rfl)))) (.int .i64 cv) (by go_simp) hK
         simp only[Zn,Act.put,List.setIfInBounds_toArray,List.set_cons_zero,List.set_cons_succ];refine Zm 12 (by decide +kernel) (Wj rfl (.int .i64 cv) (by kernel_rfl) _ (ZbC _ _) ?_)
         try simp only[lay]
         have oN2:OwI (wi.drew.alloc (.cells #[.int .i64 cv] 3)) wo.heap.size RA rc (row.take b'):=oN.out.ext (((Ext.rf _).drew).alloc _);obtain⟨A5,c5,w5,hrun,o5,g5,-⟩:=Yc (wi.drew.alloc (.cells #[.int .i64 cv] 3)) wo.heap.size 22 RA b' rc (row.take b') [cv] (some ⟨wi.drew.heap.size,0,none⟩) 1 ltk.symm oN2 (.blk (.new rfl) rfl) (by simp;omega) (by simp;omega);have X5:=Ext.grow ((Z.out.drew).alloc (.cells #[.int .i64 cv] 3)) g5 (fun k hk=>(oN2.lt k hk).1);have lapp:(row.take b'++[cv]).length=b'+1:=by rw[List.length_append,ltk];rfl
         rw[lapp] at hrun;refine Zm 13 (by decide +kernel) (Yr rfl (.slice RA b' rc) (.slice (some ⟨wi.drew.heap.size,0,none⟩) 1 1) (by kernel_rfl) (by kernel_rfl) _ hrun ?_)
         try simp only[lay]
         refine Zb (i:=14) (op:=Op.assign (Operand.tmp 78)) (t:=22) (d:=some 13) (v:=?_) rfl (by decide +kernel) (by decide +kernel) (by decide +kernel) (fun _ _ _ h=>h) ?_ ?_
         case refine_2=>(intro _;unfold Ze;go_simp;try with_reducible rfl)
         try simp only[lay]
         refine wpAny_done (by kernel_rfl) ?_ _;clear hrun lapp;go_simp;go_wp2_with (fail);go_roundw
         case rel =>
          refine⟨b'+1,A5,c5,by go_num,?_,by omega,?_⟩
          ·first | rfl | (rw[List.length_append,ltk];rfl) | (simp;omega)
          ·exact(show OwI w5 wo.heap.size A5 c5 (row.take (b'+1))/\Ext wo w5 from⟨by rw[etb.out];exact o5,X5⟩)
         case measure=>simp[intOf]<;>omega
       ·obtain rfl:b'=l.length:=by omega
        have q2:¬((l.length:Int)<(l.length:Int)):=by omega
        have er:=ehome.out;have etb:Hid (row=row.take l.length++[Za co src 0]):=Hd (by
         have h1:row.take (l.length+1)=row:=List.take_of_length_le (by rw[lrow];exact Nat.le_refl _);rw[<-h1,List.take_add_one,er];simp[lrow])
        clear er;obtain⟨rb6,ro6,d6,c61,c62⟩:=CA.out _ (Y.out.tr Z.out) src 0 hsn (by omega);obtain⟨cv0,hcv0⟩:∃ cv0,Hid (Za co src 0=cv0):=⟨_,rfl⟩;rw[hcv0.out] at c62 etb;replace c62:wi.cell? ⟨rb6,ro6,none⟩=some (.int .i64 cv0):=c62;have q3:(src:Int)<(co.length:Int):=by omega
        have q4:(0:Int)<(co.length:Int):=by omega
        have oN2:Hid (OwI (wi.alloc (.cells #[.int .i64 (cv0)] 3)) wo.heap.size RA rc (row.take l.length)):=oN.out.ext ((Ext.rf _).alloc _);go_wp2_with (first | (at_builtin;go_loud (refine ZG _ rfl _ _ rfl wo.heap.size RA l.length rc (row.take l.length) [cv0] (some ⟨wi.heap.size,0,none⟩) 1 rfl rfl ltk.symm ?_ ?_ ?_ ?_ ?_;(exact oN2.out);(exact .blk (.new rfl) rfl);(simp;omega);(simp;omega);rintro A5 c5 w5 o5 g5 _;have X5:=Ext.grow (Z.out.alloc _) g5 (fun k hk=>(oN2.out.lt k hk).1);rw[<-etb.out] at o5 ⊢;rw[lrow])) | (at_builtin;refine Yd _ (e:=22) Tryz.underlying23 hi.out hz0.out hz1.out hz2.out (by simp[Value.cells]) (by omega) rfl _ _ rfl w.heap.size MA (k+1) mc mus (some ⟨w5.heap.size,0,none⟩) 1 1 [.slice A5 (l.length+1) c5] rfl rfl ((oV.out.ext X5).ext ((Ext.rf _).alloc _)) (RdV.blk (.new (by simp))).rdC (by simp) (by simp[Value.oneCell']) (by simp only[maxLen];omega) (by omega) (by have:=X5.size;simp;omega) ?_;rintro M6' m6 w6 o6 g6 _));have oV5:=(oV.out.ext X5).ext ((Ext.rf w5).alloc (.cells #[.slice A5 (l.length+1) c5] 22));have M6:=oV5.grownT g6;have X6:Ext wo (w5.alloc (.cells #[.slice A5 (l.length+1) c5] 22)):=X5.tr ((Ext.rf _).alloc _);have NEW:Hid (OwV w6 w.heap.size 22 1 M6' ((k+1)+1) m6 (mus++[.slice A5 (l.length+1) c5])/\RowsO w6 w.heap.size (mus++[.slice A5 (l.length+1) c5]) (ms.take ((k+1)+1))/\Ext w w6/\Blk w6 w.heap.size 25 #[.int .i64 kind,.int .i64 co.length,.int .i64 cap,.slice A xw.length a,.slice B xv.length b,.slice (some ⟨cb,cof,none⟩) co.length d]/\OwI w6 w.heap.size (some ⟨lb,lo,none⟩) lc (Zd l)):=by
         refine⟨o6,?_,(Y.out.tr X6).modT M6 (Nat.le_refl _),(bI.out.ext X6).modT M6 (by decide),(oL.out.ext X6).modT M6 (by decide)⟩;rw[etk.out];have h:=((oR.out.ext X6).modT M6 (by decide)).snoc (((o5.more zwo).ext ((Ext.rf _).alloc _)).modT M6 (by decide));rw[lrow] at h;exact h
        go_roundw
        case rel=>exact⟨k+1+1,((k:Int)+1),M6',m6,mus++[.slice A5 (l.length+1) c5],by go_num,by exact(show ((k:Int)+1)=((k+1+1:Nat):Int)-1 from by omega),rfl,by omega,NEW⟩
        case measure=>simp[intOf]<;>omega
    ·obtain rfl:s=l.length+1:=by omega
     obtain rfl:aa=(l.length:Int):=by have:=haa.out;omega
     have q0:¬((l.length:Int)<(l.length:Int)):=by omega
     have etk:ms.take (l.length+1)=ms:=List.take_of_length_le (by rw[lml.out];exact Nat.le_refl _);rw[etk] at oR;have numL:∀ a b,(a=last\/a∈l)->(b=0\/b∈l)->0<=Za co a b/\Za co a b<=2147483647:=fun a b ha hb=>num.out a b (by
      rcases ha with rfl | h
      ·exact hla
      ·exact hin.out _ h) (by
      rcases hb with rfl | h
      ·omega
      ·exact hin.out _ h)
     have mn:=Zie (rows:=co) (us:=l) (last:=last) (B:=2147483647) (by omega) numL;have mr:=Zid (rows:=co) (us:=l) (last:=last);rw[hms.out] at mn mr;have RG:=Zcq ms (l.length+1) MA mc wo (Zhc oV oR fun r hr x hx=>by have:=mn r hr x hx;omega) mr (by omega) (by omega) (by rw[lml.out];omega) (by rw[lml.out];omega) fun r hr x hx=>(mn r hr x hx).2
     have eg:=J2 (rows:=co) (us:=l) (last:=last) (fun a b ha hb=>(numL a b ha hb).1) hnl.out h0m.out;rw[hms.out] at eg;rw[eg,lml.out] at RG;have bI':=Hd bI;have Y':=Hd Y;have oL':=Hd oL;replace RG:=Hd RG;have c0:∀ j:Nat,wo.cell? ⟨w.heap.size,j,none⟩=#[Value.int .i64 kind,.int .i64 co.length,.int .i64 cap,.slice A xw.length a,.slice B xv.length b,.slice (some ⟨cb,cof,none⟩) co.length d][j]?:=fun j=>bI.cell j
     clear HH oV oR bI oL mn mr eg etk numL haa;go_wp2_with (fail);refine RG.out.mono ?_;rintro e w2 ⟨rfl,x2⟩;have Y2:=Hd (Y'.out.tr x2);have bI2:=bI'.out.ext x2;have c0:=bI2.c0;have c1:=bI2.c1;have c2:=bI2.c2;have c3:=bI2.c3;have c4:=bI2.c4;have c5:=bI2.c5;replace bI2:=Hd bI2;have oL2:=Hd (oL'.out.ext x2);clear x2;go_wp2_with (fail);refine(MI.out _ Y2.out).mono ?_;rintro e w3 ⟨rfl,x3⟩;have Y3:=Hd (Y2.out.tr x3);have bI3:=bI2.out.ext x3;clear c0 c1 c2 c3 c4 c5;have br:=bred.out;have be:=bend.out;obtain⟨mi,hmi⟩:∃ mi,Hid (WX co=mi):=⟨_,rfl⟩;rw[hmi.out] at ht2 ⊢;obtain⟨rv,hrv⟩:∃ rv,Hid (ZT co l last=rv):=⟨_,rfl⟩;rw[hrv.out] at ht2 br ⊢
     cases mi with
     | false =>
      have ht3:Hid (tot=cost+rv):=ht2.out;have hw:IntKind.i64.wrap (cost+rv)=cost+rv:=IntWalk.i64_in _ (by omega);go_wp2_with (fail);go_ret2;rw[ht3.out];exact⟨rfl,Y3.out⟩
     | true =>
      have ht3:Hid (tot=cost+max rv ((Xv co l last+1) / 2)):=ht2.out;have ENN:=EN.out w3 Y3.out LA lc l last (oL2.out.ext x3).read hin.out (List.nodup_cons.1 hnod.out).2 (by omega) hla;obtain⟨ev,hev⟩:∃ ev,Hid (Xv co l last=ev):=⟨_,rfl⟩;rw[hev.out] at ENN be ht3;have c0:=bI3.c0;have c1:=bI3.c1;have c2:=bI3.c2;have c3:=bI3.c3;have c4:=bI3.c4;have c5:=bI3.c5;have hq:ev.tdiv 2=ev / 2:=Int.tdiv_eq_ediv_of_nonneg (by omega);have hr:ev.tmod 2=ev%2:=Int.tmod_eq_emod_of_nonneg (by omega);have hw1:IntKind.i64.wrap (ev / 2)=ev / 2:=IntWalk.i64_in _ (by omega);have hw2:IntKind.i64.wrap (ev%2)=ev%2:=IntWalk.i64_in _ (by omega);have hes:ev / 2+ev%2=(ev+1) / 2:=by omega
      have hw3:IntKind.i64.wrap ((ev+1) / 2)=(ev+1) / 2:=IntWalk.i64_in _ (by omega);have hmax:(if rv<(ev+1) / 2 then(ev+1) / 2 else rv)=max rv ((ev+1) / 2):=by split<;>omega
      obtain⟨mv,hmv⟩:∃ mv,Hid (max rv ((ev+1) / 2)=mv):=⟨_,rfl⟩;have bmv:0<=mv/\mv<=4294967294*100:=by rw[<-hmv.out];omega
      rw[hmv.out] at ht3 hmax;have hw4:IntKind.i64.wrap (cost+mv)=cost+mv:=IntWalk.i64_in _ (by omega);replace ENN:=Hd ENN;replace bI3:=Hd bI3;go_wp2_with (fail);refine ENN.out.mono ?_;rintro e w4 ⟨rfl,x4⟩;have Y4:=Hd (Y3.out.tr x4);clear x4 c0 c1 c2 c3 c4 c5;go_wp2_with (fail);go_ret2;rw[ht3.out];exact⟨rfl,Y4.out⟩
section
variable {P:Program} {ops:Array Oper} {Q:Exit->Act->World->Prop}
theorem Xl (rem:List (Nat×Option Tmp))(kill:Nat->List Nat)(R:World->Prop)(V:Nat->Value->World->Prop)(Stab:Nat->World->World->Prop){listed0:Array Bool}(listed1:Array Bool)(hok:VE ops listed0 listed1 rem=true)(hkill:Zcj ops rem kill=true)
  (stab:∀ i j v w w',Zek ops rem kill i j=true->V j v w->Stab i w w'->V j v w')
  {a0:Act}
  (step:∀ p∈rem,∀ u w,R w->(∀ j∈Ww ops rem p.1,V j (u j) w)->∀ K:Act->World->Prop,(∀ v w',V p.1 v w'->R w'->Stab p.1 w w'->K ((Zn a0 rem u).put p.2 v) w')->wpOp P ops Q p.1 K (Zn a0 rem u) w)
  (n:Nat) (done:∀ u w,R w->(∀ p∈rem,kill p.1=[]->V p.1 (u p.1) w)->wpAny P .any ops Q n listed1 (Zn a0 rem u) w) {w0:World} (hR:R w0) :
  wpAny P .any ops Q (rem.length+n) listed0 a0 w0 :=
 UK (σ:=Unit) rem kill (fun _=>R) (fun j v _=>V j v) (fun i _ w _ w'=>Stab i w w') listed1 hok hkill (fun i j v _ w _ w'=>stab i j v w w') (fun p hp u _ w hR hd K hK=>step p hp u w hR hd K fun v w'=>hK v () w') n (fun u _ w hR h=>done u w hR h) (s0:=()) hR
end
theorem VF.stab1 {f:Nat->Option Value}{g:Nat->Value->World->Prop}{j:Nat}{v:Value}{w w':World}(h:f j=none->g j v w->g j v w')(hv:VF f g j v w) : VF f g j v w':=by
 unfold VF at hv ⊢
 cases hf:f j with
 | none=>rw[hf] at hv;exact h hf hv
 | some c=>rw[hf] at hv;exact hv
end Go.Proofs.YtmojhhlcocjoaaaGreatDoor
namespace Go.Proofs.YtmojhhlcocjoaaaGreatDoor
open Go.RowKit Go.ChangeShapes Go.WideShapes Go.ChangeAt Go.Deep
theorem ZbE {k:Nat} : ∀ {l:List Nat},l.Nodup->k∈l->l.count k=1
 | [],_,h=>by cases h
 | x::l,hd,h=>by
  have hd':=List.nodup_cons.1 hd
  by_cases e:x=k
  ·subst e
   rw[List.count_cons_self,List.count_eq_zero.2 hd'.1]
  ·rw[List.count_cons_of_ne e]
   rcases List.mem_cons.1 h with h | h
   ·exact absurd h.symm e
   ·exact ZbE hd'.2 h
theorem Zdp (P:Option Addr)(c n:Nat)(l:List Nat)(w:World)(hP:RdI w P (Zd l))(hl:l.Perm (List.range n))(hn:n<=1000) :
  Calls Tryz.prog 60 #[.slice P n c,.int .i64 n] w fun e w'=>e=.returned (.bool true)/\Ext w w':=by
 have hlen:Hid (l.length=n):=Hd (by rw[hl.length_eq,List.length_range]);have C1:Hid (∀ k,k<n->l.count k=1):=fun k hk=>by
  rw[hl.count_eq];exact ZbE List.nodup_range (List.mem_range.2 hk)
 have ne0:((n:Int) != (n:Int))=false:=by simp
 replace hP:=Hd hP;clear hl;go_enter Tryz.func60,Tryz.ntmps60;go_wp2_with (fail);go_loopw [5] (fun v wr=>∃ k:Nat,v=.int .i64 k/\k<=n/\Hid (Ext w wr)) (fun v _=>n-(intOf v).toNat)
 case atStart=>exact⟨0,rfl,by omega,Ext.rf _⟩
 case round =>
  obtain⟨wo,rfl⟩:∃ wo:World,wo=wr:=⟨_,rfl⟩;obtain⟨k,rfl,hk,Y⟩:=hrel
  by_cases hkn:k<n
  ·have q1:(k:Int)<(n:Int):=by omega
   have c1:=C1.out k hkn;replace c1:=Hd c1;go_wp2_with (fail);go_loopw [7,6] (fun v fv wr=>∃ j:Nat,v=.int .i64 j/\fv=.int .i64 ((l.take j).count k:Nat)/\j<=n/\Hid (Ext w wr)) (fun v _ _=>n-(intOf v).toNat)
   case atStart=>exact⟨0,rfl,by rw[List.take_zero,List.count_nil];rfl,by omega,Y⟩
   case round =>
    obtain⟨wi,rfl⟩:∃ wi:World,wi=wr:=⟨_,rfl⟩;obtain⟨j,rfl,rfl,hj,YI⟩:=hrel;have hcl:=List.count_le_length (a:=k) (l:=l.take j);rw[List.length_take] at hcl
    by_cases hjn:j<n
    ·have q2:(j:Int)<(n:Int):=by omega
     have ej:l[j]?=some (l[j]'(by rw[hlen.out];exact hjn)):=List.getElem?_eq_getElem _;generalize l[j]'(by rw[hlen.out];exact hjn)=y at ej;obtain⟨pb,po,x,rfl,_,cx,ex,_⟩:=(hP.out.ext YI.out).at (k:=j) (by rw[Zg,hlen.out];exact hjn);obtain rfl:x=(y:Int):=by
      have h:=ex.out;rw[ZD ej] at h;exact(Option.some.inj h).symm
     have HC:Hid ((l.take (j+1)).count k=(l.take j).count k+if y=k then 1 else 0):=Hd (by
      rw[List.take_add_one,ej,List.count_append];simp[List.count_cons])
     clear ex ej;generalize (l.take j).count k=cn at *
     by_cases hyk:y=k
     ·subst hyk
      rw[if_pos rfl] at HC;go_wp2_with (fail);go_roundw
      case rel=>exact⟨j+1,by go_num,by rw[HC.out];go_num,by omega,YI⟩
      case measure=>simp[intOf];omega
     ·have HC2:Hid ((l.take (j+1)).count k=cn):=by
       have h:=HC.out;rw[if_neg hyk] at h;exact h
      clear HC;have t1:(y==k)=false:=by rw[beq_eq_false_iff_ne];exact hyk
      have t2:((y:Int)==(k:Int))=false:=by rw[beq_eq_false_iff_ne];omega
      go_wp2_with (fail);go_roundw
      case rel=>exact⟨j+1,by go_num,by rw[HC2.out],by omega,YI⟩
      case measure=>simp[intOf];omega
    ·have q2:¬(j:Int)<(n:Int):=by omega
     have e1:(l.take j).count k=1:=by
      rw[List.take_of_length_le (by rw[hlen.out];omega)];exact c1.out
     rw[e1];clear e1 hcl;go_wp2_with (fail);go_roundw
     case rel=>exact⟨k+1,by go_num,by omega,YI⟩
     case measure=>simp[intOf];omega
  ·have q1:¬(k:Int)<(n:Int):=by omega
   go_wp2_with (fail);go_ret;exact⟨rfl,Y.out⟩
theorem ZbF (i:InstP)(us:List Value)(P:Option Addr)(c:Nat)(l:List Nat)(w:World)(H:RInst w us i)(hc:Zh i=0)(hk:i.kind=2)(hP:RdI w P (Zd l))(hl:l.Perm (List.range i.cost.length)) :
  Calls Tryz.prog 27 #[.agg (List.toArray us),.slice P i.cost.length c] w fun e w'=>e=.returned (.tuple #[.int .i64 (Zv i.cost (Zd l)),.int .i64 0])/\Ext w w':=by
 have CH:=fun(W:World) (x:Ext w W)=>YW i us W (H.ext x)
 rw[hc] at CH;have sq:=Zp hc (by omega);have rok:=ZF sq;have hnn:i.n=(i.cost.length:Int):=sq.len.symm;have PE:=fun(W:World) (x:Ext w W)=>Zdp P c i.cost.length l W (hP.ext x) hl (by have:=rok.n2;omega)
 have hlt:Hid (∀ x∈l,x<i.cost.length):=fun x hx=>List.mem_range.1 (hl.mem_iff.1 hx)
 have hlen:Hid (l.length=i.cost.length):=Hd (by rw[hl.length_eq,List.length_range]);have n24:=rok.n2;clear hl hc sq;obtain⟨kind,nn,cap,xw,xv,co⟩:=i;obtain⟨A,a,B,b,D,d,rfl,-,-,⟨hC,-,-⟩⟩:=H;simp only at *;subst hk hnn;replace CH:=Hd CH;replace PE:=Hd PE;replace hP:=Hd hP;replace hC:=Hd hC;replace rok:=Hd rok;have B1:Hid (Blk (w.alloc (.cells #[.int .i64 2,.int .i64 co.length,.int .i64 cap,.slice A xw.length a,.slice B xv.length b,.slice D co.length d] 25)) w.heap.size 25 #[.int .i64 2,.int .i64 co.length,.int .i64 cap,.slice A xw.length a,.slice B xv.length b,.slice D co.length d]):=.new rfl;go_enter Tryz.func27,Tryz.ntmps27;go_wp2_with (fail);refine(CH.out _ (by(repeat (first | assumption | exact Ext.rf _ | apply Ext.drew | apply Ext.drewN | apply Ext.alloc)))).mono ?_;rintro e w1 ⟨rfl,x1⟩;have X1:=Hd (Ext.tr (a:=w) (by(repeat (first | assumption | exact Ext.rf _ | apply Ext.drew | apply Ext.drewN | apply Ext.alloc))) x1);have BB:=Hd (B1.out.ext x1);have d0:=BB.out.c0;have d1:=BB.out.c1;clear x1;go_wp2_with (fail);refine(PE.out _ X1.out).mono ?_;rintro e w2 ⟨rfl,x2⟩;have X2:=Hd (X1.out.tr x2);have BC:=Hd (BB.out.ext x2);have e0:=BC.out.c0;clear x2 d0 d1 BB;go_wp2_with (fail);go_loopw [8,7] (fun v s wr=>∃ (k:Nat) (su:Int),v=.int .i64 k/\s=.int .i64 su/\k<=co.length/\Hid (Zv co ((Zd l).take k)=su)/\Hid (Ext w2 wr)) (fun v _ _=>co.length-(intOf v).toNat)
 case atStart=>exact⟨0,0,rfl,rfl,by omega,(by cases co<;>rfl:Zv co ((Zd l).take 0)=0),Ext.rf _⟩
 case round =>
  obtain⟨wo,rfl⟩:∃ wo:World,wo=wr:=⟨_,rfl⟩;obtain⟨k,su,rfl,rfl,hk,HS,Y⟩:=hrel;have bdS:Hid (0<=su/\su<=2147483647*24):=by
   have h1:=VY (B:=2147483647) (rows:=co) (p:=(Zd l).take k) (by omega) fun row hr c hc=>by
    obtain⟨q,hq,rfl⟩:=List.mem_map.1 (List.mem_of_mem_take hc);have:=hlt.out q hq;exact rok.out.get hr (by omega)
   have h2:((Zd l).take k).length<=24:=by rw[List.length_take];omega
   have h:0<=su/\su<=2147483647*24:=by
    rw[<-HS.out];omega
   exact h
  have d0:wo.cell? ⟨w.heap.size,0,none⟩=some (.int .i64 2):=(BC.out.ext Y.out).cell 0;have d1:wo.cell? ⟨w.heap.size,1,none⟩=some (.int .i64 co.length):=(BC.out.ext Y.out).cell 1;have d5:wo.cell? ⟨w.heap.size,5,none⟩=some (.slice D co.length d):=(BC.out.ext Y.out).cell 5;have XW:=Hd (X2.out.tr Y.out);clear e0
  by_cases hkl:k<co.length
  ·obtain⟨cb,cof,D',row,d',rfl,_,cD,er,_,rD,iD,ld,md⟩:=(hC.out.ext XW.out fun _ _ h=>h.ext XW.out).ints hkl
   have hmem:=List.mem_of_getElem? er.out;obtain⟨pb,po,x,rfl,zp,cp,ep,_⟩:=(hP.out.ext XW.out).at (k:=k) (by rw[Zg,hlen.out];exact hkl);obtain⟨q,hq,rfl⟩:=List.mem_map.1 (List.mem_of_getElem? ep.out);have hqn:=hlt.out q hq;have lrow:=rok.out.row row hmem;obtain⟨rb,ro,y,rfl,zy,cy,ey,_⟩:=rD.at (k:=q) (by omega);have yb:=rok.out.get hmem (c:=q) (by omega);rw[getD_some ey.out] at yb;have b1:=bdS.out;have hw:IntKind.i64.wrap (su+y)=su+y:=IntWalk.i64_in _ (by omega);have HS2:Hid (Zv co ((Zd l).take (k+1))=su+y):=Hd (by
    rw[Vp er.out ep.out,HS.out,Int.toNat_natCast,getD_some ey.out])
   have q1:(k:Int)<(co.length:Int):=by omega
   have q3:(q:Int)<(row.length:Int):=by omega
   clear er ep ey lrow b1 yb HS hq rD hmem;go_wp2_with (fail);go_quiet (fail);go_wp2_with (fail);go_roundw
   case rel=>exact⟨k+1,su+y,by go_num,rfl,by omega,HS2,Y.out.drewN _⟩
   case measure=>simp[intOf];omega
  ·have q1:¬(k:Int)<(co.length:Int):=by omega
   have HS2:Hid (Zv co (Zd l)=su):=by
    have h:=HS.out;rw[List.take_of_length_le (by rw[Zg,hlen.out];omega)] at h;exact h
   go_wp2_with (fail);go_ret2;rw[HS2.out];exact⟨rfl,XW.out⟩
theorem UX (u:World) : (Instr.buildSlice 22 0 #[]).run Tryz.prog u=.ok (.slice (some ⟨u.heap.size,0,none⟩) 0 0) (u.alloc (.cells #[] 3)):=by go_simp
theorem UY (u:World)(x:Int) : (Instr.buildSlice 22 1 #[(0,.int .i64 x)]).run Tryz.prog u=.ok (.slice (some ⟨u.heap.size,0,none⟩) 1 1) (u.alloc (.cells #[.int .i64 x] 3)):=by go_simp
def Xw (m n k:Nat) : List Nat:=((List.range n).drop k).filter fun c=>m.testBit c
theorem ZaO {m n k:Nat}(h:k<n) : Xw m n k=if m.testBit k=true then k::Xw m n (k+1) else Xw m n (k+1):=by
 unfold Xw;have h':k<(List.range n).length:=by rw[List.length_range];exact h
 rw[List.drop_eq_getElem_cons h',List.getElem_range,List.filter_cons]
theorem ZeG (i:InstP)(us:List Value)(P:Option Addr)(c:Nat)(l:List Nat)(w:World)(H:RInst w us i)(hk2:i.kind=2)(hP:RdI w P (Zd l))(n m:Nat)(hn:i.n=n)(hn24:n<=24)(hlen:l.length<n)(bs:Int)(f:Int->Int)
  (hused:∀ k,k<n->(m.testBit k=true↔k∉l)) (e5:ZH f (-1) (Zd (Xw m n 0))=bs) (fpos:∀ k,k<n->m.testBit k=true->0<=f (k:Int))
  (IH3:∀ (k:Nat) (A:Option Addr) (d:Nat) (q:List Int),k<n->m.testBit k=true->q=Zd l++[(k:Int)]->∀ W:World,Ext w W->RdI W A q->Calls Tryz.prog 28 #[.agg (List.toArray us),.slice A q.length d] W fun e w'=>e=.returned (.int .i64 (f k))/\Ext W w') :
  Calls Tryz.prog 28 #[.agg (List.toArray us),.slice P l.length c] w fun e w'=>e=.returned (.int .i64 bs)/\Ext w w':=by
 obtain⟨kind,nn,cap,xw,xv,co⟩:=i;obtain⟨A,a,B,b,D,d,rfl,-,-,-⟩:=H;simp only at *;subst hk2 hn;replace IH3:=Hd IH3;replace e5:=Hd e5;replace hP:=Hd hP;replace hused:=Hd hused;replace fpos:=Hd fpos;have hne:((l.length:Int)==(n:Int))=false:=by rw[beq_eq_false_iff_ne];omega
 have B1:Hid (Blk (w.alloc (.cells #[.int .i64 2,.int .i64 n,.int .i64 cap,.slice A xw.length a,.slice B xv.length b,.slice D co.length d] 25)) w.heap.size 25 #[.int .i64 2,.int .i64 n,.int .i64 cap,.slice A xw.length a,.slice B xv.length b,.slice D co.length d]):=.new rfl;have X0:Hid (Ext w (w.alloc (.cells #[.int .i64 2,.int .i64 n,.int .i64 cap,.slice A xw.length a,.slice B xv.length b,.slice D co.length d] 25))):=(Ext.rf _).alloc _;obtain⟨w1,hw1⟩:∃ w1,w1=(w.alloc (.cells #[.int .i64 2,.int .i64 n,.int .i64 cap,.slice A xw.length a,.slice B xv.length b,.slice D co.length d] 25)):=⟨_,rfl⟩;have B2:Hid (Blk w1 w.heap.size 25 #[.int .i64 2,.int .i64 n,.int .i64 cap,.slice A xw.length a,.slice B xv.length b,.slice D co.length d]):=by rw[hw1];exact B1.out
 have X1:Hid (Ext w w1):=by rw[hw1];exact X0.out
 replace hw1:=Hd hw1;clear B1;go_enter Tryz.func28,Tryz.ntmps28;go_wp2_with (fail);rw[<-hw1.out];clear X0;go_loopw [9,7] (fun v bv wr=>∃ (k:Nat) (bb:Int),v=.int .i64 k/\bv=.int .i64 bb/\k<=n/\Hid (ZH f bb (Zd (Xw m n k))=bs)/\Hid (Ext w1 wr)) (fun v _ _=>n-(intOf v).toNat)
 case atStart=>exact⟨0,-1,rfl,rfl,by omega,e5,Ext.rf _⟩
 case round =>
  obtain⟨wo,rfl⟩:∃ wo:World,wo=wr:=⟨_,rfl⟩;obtain⟨k,bb,rfl,rfl,hk,HS,Y⟩:=hrel
  by_cases hlt:k<n
  ·have HN:Hid (ZH f bb (Zd (if m.testBit k=true then k::Xw m n (k+1) else Xw m n (k+1)))=bs):=by
    have h:=HS.out;rw[ZaO hlt] at h;exact h
   have q1:(k:Int)<(n:Int):=by omega
   have B3:=B2.out.ext Y.out;have zb3:=B3.lt;have c0:=B3.c0;have HU:=hused.out k hlt;replace HU:=Hd HU;replace B3:=Hd B3;clear HS;go_wp2_with (fail);go_loopw [11,10] (fun v uv wr=>∃ j:Nat,v=.int .i64 j/\uv=.bool ((l.take j).contains k)/\j<=l.length/\wr=wo) (fun v _ _=>l.length-(intOf v).toNat)
   case atStart=>exact⟨0,rfl,rfl,by omega,rfl⟩
   case round =>
    obtain⟨j,rfl,rfl,hj,hwr⟩:=hrel;have hwr':wo=wr:=(show wr=wo from hwr).symm;clear hwr;subst hwr'
    by_cases hjl:j<l.length
    ·have q2:(j:Int)<(l.length:Int):=by omega
     have ej:l[j]?=some l[j]:=List.getElem?_eq_getElem hjl;generalize l[j]=y at ej;obtain⟨pb,po,x,rfl,_,cx,ex,_⟩:=(hP.out.ext (X1.out.tr Y.out)).at (k:=j) (by rw[Zg];exact hjl);obtain rfl:x=(y:Int):=by
      have h:=ex.out;rw[ZD ej] at h;exact(Option.some.inj h).symm
     have HC:Hid ((l.take (j+1)).contains k=((l.take j).contains k || (y==k))):=Hd (by
      rw[List.take_add_one,ej,Bool.eq_iff_iff,Bool.or_eq_true,List.contains_iff_mem,List.contains_iff_mem,beq_iff_eq];show k∈l.take j++[y]↔_;rw[List.mem_append,List.mem_singleton];exact⟨fun h=>h.imp id Eq.symm,fun h=>h.imp id Eq.symm⟩)
     clear ex ej
     cases hb:(l.take j).contains k with
     | true =>
      have HC2:Hid ((l.take (j+1)).contains k=true):=by
       have h:=HC.out;rw[hb,Bool.true_or] at h;exact h
      clear HC hb;go_wp2_with (fail);go_roundw
      case rel=>exact⟨j+1,by go_num,by rw[HC2.out],by omega,by first | exact rfl | exact trivial⟩
      case measure=>simp[intOf];omega
     | false =>
      obtain⟨yk,hyk⟩:∃ yk,Hid ((y==k)=yk):=⟨_,rfl⟩;have HC2:Hid ((l.take (j+1)).contains k=yk):=by
       have h:=HC.out;rw[hb,Bool.false_or,hyk.out] at h;exact h
      have t1:(y==k)=yk:=hyk.out;have t2:((y:Int)==(k:Int))=yk:=by
       rw[<-hyk.out,Bool.eq_iff_iff,beq_iff_eq,beq_iff_eq];omega
      clear HC hb;go_wp2_with (fail);go_roundw
      case rel=>exact⟨j+1,by go_num,by rw[HC2.out],by omega,by first | exact rfl | exact trivial⟩
      case measure=>simp[intOf];omega
    ·have q2:¬(j:Int)<(l.length:Int):=by omega
     rw[List.take_of_length_le (by omega)]
     cases hb:m.testBit k with
     | false =>
      have hu:l.contains k=true:=by
       rw[List.contains_iff_mem]
       cases hd:decide (k∈l) with
       | true=>exact of_decide_eq_true hd
       | false =>
        have:=HU.out.2 (of_decide_eq_false hd);rw[hb] at this
        cases this
      have HN2:Hid (ZH f bb (Zd (Xw m n (k+1)))=bs):=by
       have h:=HN.out;rw[hb,if_neg (by simp)] at h;exact h
      rw[hu];clear HN hb hu;go_wp2_with (fail);go_roundw
      case rel=>exact⟨k+1,bb,by go_num,rfl,by omega,HN2,Y⟩
      case measure=>simp[intOf];omega
     | true =>
      have hu:l.contains k=false:=by
       cases hd:l.contains k with
       | false=>rfl
       | true=>exact absurd (List.contains_iff_mem.1 hd) (HU.out.1 hb)
      have HN2:Hid (ZH f (if bb<0 then f (k:Int) else if f (k:Int)<bb then f (k:Int) else bb) (Zd (Xw m n (k+1)))=bs):=by
       have h:=HN.out;rw[hb,if_pos rfl] at h;exact h
      have IHk:=Hd (fun(A:Option Addr) (d:Nat) (q:List Int) (hq:q=Zd l++[(k:Int)])=>IH3.out k A d q hlt hb hq);have fk:=fpos.out k hlt hb;rw[hu];generalize f (k:Int)=fv at *;clear HN hb hu HU;have c1':=B3.out.c1;have c2:=B3.out.c2;have c3:=B3.out.c3;have c4:=B3.out.c4;have c5:=B3.out.c5;obtain⟨q,hq⟩:∃ q,Hid (q=Zd l++[(k:Int)]):=⟨_,rfl⟩;have lq:q.length=l.length+1:=by rw[hq.out];simp[Zd]
      go_upto_region 19 with(fail);refine wp_region_any (by kernel_rfl) ?_
      change wpAny _ _ _ _ _ _ _ (World.drew _)
      refine Zb (i:=2) (op:=Op.move (Operand.tmp 1)) (t:=22) (d:=some 74) (v:=?_) rfl (by decide +kernel) (by decide +kernel) (by decide +kernel) (fun _ _ _ h=>h) ?_ ?_
      case refine_2=>(intro _;unfold Ze;go_simp;try with_reducible rfl)
      try simp only[lay]
      refine Zb (i:=4) (op:=Op.move (Operand.tmp 9)) (t:=3) (d:=some 76) (v:=?_) rfl (by decide +kernel) (by decide +kernel) (by decide +kernel) (fun _ _ _ h=>h) ?_ ?_
      case refine_2=>(intro _;unfold Ze;go_simp;try with_reducible rfl)
      try simp only[lay]
      refine Xl (n:=2) [(0,some 72),(1,some 73),(3,some 75),(5,some 77),(6,some 78)] (fun | 1=>[3] | 3=>[6] | 5=>[6] | _=>[]) (Ext wo)
       (VF (fun | 0=>some (.agg #[.int .i64 2,.int .i64 n,.int .i64 cap,.slice A xw.length a,.slice B xv.length b,.slice D co.length d]) | _=>none)
        (fun j v W=>(j=1->∃ g,v=.slice (some ⟨g,0,none⟩) 0 0/\wo.heap.size<=g/\Blk W g 3 #[])/\(j=3->∃ A c,v=.slice A (Zd l).length c/\OwI W wo.heap.size A c (Zd l))/\(j=5->∃ h,v=.slice (some ⟨h,0,none⟩) 1 1/\Blk W h 3 #[.int .i64 (k:Int)])/\(j=6->∃ A c,v=.slice A q.length c/\OwI W wo.heap.size A c q)))
       (fun i W W'=>i≠6->Ext W W') #[true,true,true,true,true,true,true,false,false] (by kernel_rfl) (by kernel_rfl) ?_ ?_ ?_ ((Ext.rf _).drew)
      ·intro i j v W W' hkp hv hs
       refine VF.stab1 (fun _ ⟨g1,g3,g8,g9⟩=>?_) hv
       by_cases hi:i=6
       ·subst hi
        refine⟨fun h=>?_,fun h=>?_,fun h=>?_,fun h=>?_⟩
        all_goals (subst h;exact absurd hkp (by decide +kernel))
       ·have hx:=hs hi
        refine⟨fun h=>?_,fun h=>?_,fun h=>?_,fun h=>?_⟩
        ·obtain⟨g,q1,q2,q3⟩:=g1 h
         exact⟨g,q1,q2,q3.ext hx⟩
        ·obtain⟨A',c',q1,q2⟩:=g3 h
         exact⟨A',c',q1,q2.ext hx⟩
        ·obtain⟨h',q1,q2⟩:=g8 h
         exact⟨h',q1,q2.ext hx⟩
        ·obtain⟨A',c',q1,q2⟩:=g9 h
         exact⟨A',c',q1,q2.ext hx⟩
      ·intro pq hpm u W hRW hD K hK
       have z2:=hRW.size;simp only[List.mem_cons,List.not_mem_nil,or_false] at hpm;rcases hpm with rfl | rfl | rfl | rfl | rfl
       ·have r0:=Zc hRW zb3 c0
        have r1:=Zc hRW zb3 c1';have r2:=Zc hRW zb3 c2;have r3:=Zc hRW zb3 c3;have r4:=Zc hRW zb3 c4;have r5:=Zc hRW zb3 c5;exact Zy (T:=25) rfl (.pointer (some ⟨w.heap.size,0,none⟩)) (by kernel_rfl) (.agg #[.int .i64 2,.int .i64 n,.int .i64 cap,.slice A xw.length a,.slice B xv.length b,.slice D co.length d]) (by go_simp) (hK _ _ (VF.mk rfl) hRW (fun _=>Ext.rf _))
       ·exact Qu rfl _ (UX _) (hK _ _ (VF.mg rfl ⟨fun _=>⟨_,rfl,z2,.new rfl⟩,(fun h=>by cases h),(fun h=>by cases h),(fun h=>by cases h)⟩) (hRW.alloc _) (fun _=>(Ext.rf _).alloc _))
       ·obtain⟨g,h1,zg,bg⟩:=((hD 1 (Zq (by kernel_rfl))).g rfl).1 rfl
        obtain⟨A3,c3,w3,hr3,o3,x3⟩:=Xe W wo.heap.size 22 g (Zd l) P c bg zg (hP.out.ext ((X1.out.tr Y.out).tr hRW)) (by rw[Zg];omega);exact Yr rfl (.slice (some ⟨g,0,none⟩) 0 0) (.slice P (Zd l).length c) (Eq.trans (b:=u 1) (by kernel_rfl) h1) (by rw[Zg];kernel_rfl) _ hr3 (hK _ _ (VF.mg rfl ⟨(fun h=>by cases h),fun _=>⟨A3,c3,rfl,o3⟩,(fun h=>by cases h),(fun h=>by cases h)⟩) (hRW.tr x3) (fun _=>x3))
       ·exact Wj rfl (.int .i64 (k:Int)) (by kernel_rfl) _ (UY _ _) (hK _ _ (VF.mg rfl ⟨(fun h=>by cases h),(fun h=>by cases h),fun _=>⟨_,rfl,.new rfl⟩,(fun h=>by cases h)⟩) (hRW.alloc _) (fun _=>(Ext.rf _).alloc _))
       ·obtain⟨A3,c3',h3,o3⟩:=((hD 3 (Zq (by kernel_rfl))).g rfl).2.1 rfl
        obtain⟨g8,h8,b8⟩:=((hD 5 (Zq (by kernel_rfl))).g rfl).2.2.1 rfl;obtain⟨A7,c7,w7,hrun,o7,g7,-⟩:=Yc W wo.heap.size 22 A3 (Zd l).length c3' (Zd l) [(k:Int)] (some ⟨g8,0,none⟩) 1 rfl o3 (.blk b8 rfl) (by rw[Zg];simp;omega) hRW.size;have x7:Ext wo w7:=hRW.grow g7 (fun k hk=>(o3.lt k hk).1);rw[<-hq.out] at hrun o7;exact Yr rfl (.slice A3 (Zd l).length c3') (.slice (some ⟨g8,0,none⟩) 1 1) (Eq.trans (b:=u 3) (by kernel_rfl) h3) (Eq.trans (b:=u 5) (by kernel_rfl) h8) _ hrun (hK _ _ (VF.mg rfl ⟨(fun h=>by cases h),(fun h=>by cases h),(fun h=>by cases h),fun _=>⟨A7,c7,rfl,o7⟩⟩) x7 (fun h=>absurd rfl h))
      ·intro u w7 hRW hV
       have h0:=(hV (0,some 72) (by simp) rfl).k rfl;obtain⟨A7,c7,h9,o7⟩:=((hV (6,some 78) (by simp) rfl).g rfl).2.2.2 rfl;simp only[Zn,h0,h9];have rq:=Hd o7.read;have x7:=Hd hRW;clear h0 h9 hV o7 hRW
       try simp only[lay]
       refine Zm 7 (by decide +kernel) (Ym (f:=28) (xs:=#[Operand.tmp 72,Operand.tmp 78]) (ts:=#[25,22]) (t:=3) (d:=some 79) rfl #[.agg #[.int .i64 2,.int .i64 n,.int .i64 cap,.slice A xw.length a,.slice B xv.length b,.slice D co.length d],.slice A7 q.length c7] (by go_simp) (by kernel_rfl) _ (IHk.out A7 c7 q hq.out w7 (X1.out.tr (Y.out.tr x7.out)) rq.out) ?_);rintro e w8 ⟨rfl,x8⟩;refine⟨_,rfl,?_⟩
       try simp only[lay]
       refine Zb (i:=8) (op:=Op.assign (Operand.tmp 79)) (t:=3) (d:=some 12) (v:=?_) rfl (by decide +kernel) (by decide +kernel) (by decide +kernel) (fun _ _ _ h=>h) ?_ ?_
       case refine_2=>(intro _;unfold Ze;go_simp;try with_reducible rfl)
       try simp only[lay]
       refine wpAny_done (by kernel_rfl) ?_ _;have Y8:=Hd (Y.out.tr (x7.out.tr x8));clear x8 x7 rq c0 c1' c2 c3 c4 c5;go_simp
       by_cases hbb:bb<0
       ·rw[if_pos hbb] at HN2
        go_wp2_with (fail);go_roundw
        case rel=>exact⟨k+1,fv,by go_num,rfl,by omega,HN2,Y8⟩
        case measure=>simp[intOf];omega
       ·rw[if_neg hbb] at HN2
        by_cases hfb:fv<bb
        ·rw[if_pos hfb] at HN2
         go_wp2_with (fail);go_roundw
         case rel=>exact⟨k+1,fv,by go_num,rfl,by omega,HN2,Y8⟩
         case measure=>simp[intOf];omega
        ·rw[if_neg hfb] at HN2
         go_wp2_with (fail);go_roundw
         case rel=>exact⟨k+1,bb,by go_num,rfl,by omega,HN2,Y8⟩
         case measure=>simp[intOf];omega
  ·obtain rfl:k=n:=by omega
   have q1:¬(k:Int)<(k:Int):=by omega
   have HN:Hid (bb=bs):=by
    have h:=HS.out;unfold Xw at h;rw[List.drop_of_length_le (by rw[List.length_range];omega)] at h;exact h
   obtain rfl:=HN.out;go_wp2_with (fail);go_ret;exact⟨rfl,X1.out.tr Y.out⟩
theorem Zdq (i:InstP)(us:List Value)(P:Option Addr)(c:Nat)(l:List Nat)(w:World)(H:RInst w us i)(hc:Zh i=0)(hk:i.kind=2)(hP:RdI w P (Zd l))(hl:l.Perm (List.range i.cost.length)) :
  Calls Tryz.prog 28 #[.agg (List.toArray us),.slice P (Zd l).length c] w fun e w'=>e=.returned (.int .i64 (Zv i.cost (Zd l)))/\Ext w w':=by
 have CO:=fun(W:World) (x:Ext w W)=>ZbF i us P c l W (H.ext x) hc hk (hP.ext x) hl
 have hll:l.length=i.cost.length:=by rw[hl.length_eq,List.length_range]
 have hnn:i.n=(i.cost.length:Int):=(Zp hc (by omega)).len.symm;rw[Zg,hll];generalize Zv i.cost (Zd l)=cv at *;clear hll hl hP hc;obtain⟨kind,nn,cap,xw,xv,co⟩:=i;obtain⟨A,a,B,b,D,d,rfl,-,-,-⟩:=H;simp only at *;subst hk hnn;replace CO:=Hd CO;have hb:((co.length:Int)==(co.length:Int))=true:=by simp
 go_enter Tryz.func28,Tryz.ntmps28;go_wp2_with (fail);refine(CO.out _ (by(repeat (first | assumption | exact Ext.rf _ | apply Ext.drew | apply Ext.drewN | apply Ext.alloc)))).mono ?_;rintro e w1 ⟨rfl,x1⟩;have X1:=Hd (Ext.tr (a:=w) (by(repeat (first | assumption | exact Ext.rf _ | apply Ext.drew | apply Ext.drewN | apply Ext.alloc))) x1);clear x1;go_wp2_with (fail);go_ret;exact⟨rfl,X1.out⟩
theorem ZaP {n m:Nat}(h:SubN n m)(hn:n<=64){k:Nat}(hk:k<n) : k∈Zf m↔m.testBit k=true:=by
 rw[Z4];exact⟨fun h=>h.2,fun h=>⟨by omega,h⟩⟩
theorem ZbG (i:InstP)(us:List Value)(hc:Zh i=0)(hk:i.kind=2) : ∀ (f:Nat) (P:Option Addr) (c:Nat) (p:List Int) (m:Nat) (w:World),Z1 i.cost.length p=some m->f=i.cost.length-p.length->RInst w us i->RdI w P p ->
  Calls Tryz.prog 28 #[.agg (List.toArray us),.slice P p.length c] w fun e w'=>e=.returned (.int .i64 (Xk i.cost i.cost.length f p))/\Ext w w'
 | 0,P,c,p,m,w=>fun hp hf H hP=>by
  have sq:=Zp hc (by omega);have rok:=ZF sq;have hlen:=ZZ rok.n2 hp;obtain⟨l,rfl,hl⟩:=ZaE rok.n2 hp (by omega);have hll:l.length=i.cost.length:=by rw[hl.length_eq,List.length_range]
  exact Zdq i us P c l w H hc hk hP hl
 | f+1,P,c,p,m,w=>fun hp hf H hP=>by
  have sq:=Zp hc (by omega);have rok:=ZF sq;have h24:=rok.n2;have hlen:=ZZ h24 hp;obtain⟨_,_,hsub⟩:=XD h24 hp;obtain⟨l,rfl,h1,h2,h3⟩:=Uk h24 hp;have hmem:∀ k,k<i.cost.length->(k∈Zf m↔m.testBit k=true):=fun k hk=>ZaP hsub (by omega) hk
  rw[Zg] at hlen hf ⊢;refine ZeG i us P c l w H hk hP i.cost.length m sq.len.symm h24 (by omega) _ (fun x=>Xk i.cost i.cost.length f (Zd l++[x])) (fun k hk=>?_) ?_ (fun k hk hb=>?_) ?_
  ·rw[<-hmem k hk,h3 k]
   exact⟨fun h=>h.2,fun h=>⟨hk,h⟩⟩
  ·have e:Xw m i.cost.length 0=Zf m:=by
    unfold Xw;rw[List.drop_zero,<-VL hsub (by omega)]
   rw[e];show _=ZH _ (-1) (match Z1 i.cost.length (Zd l) with | none=>[] | some m=>Zd (Zf m));rw[hp]
  ·have hs:=XS h24 hp ((hmem k hk).2 hb)
   have h4:=Vc rok hs;rw[show i.cost.length-(Zd l++[(k:Int)]).length=f by rw[List.length_append,Zg,List.length_singleton];omega] at h4;omega
  ·rintro k A d q hkn hb rfl W x hq
   have hs:=XS h24 hp ((hmem k hkn).2 hb);exact ZbG i us hc hk f A d _ _ W hs (by rw[List.length_append,Zg,List.length_singleton];omega) (H.ext x) hq
theorem ZbH (i:InstP)(us:List Value)(P:Option Addr)(c:Nat)(q:List Nat)(w:World)(H:RInst w us i)(hc:Zh i=0)(hk:i.kind=3)(hP:RdI w P (Zd (0::q)))(hl:(0::q).Perm (List.range i.cost.length)) :
  Calls Tryz.prog 27 #[.agg (List.toArray us),.slice P i.cost.length c] w fun e w'=>e=.returned (.tuple #[.int .i64 (ZC i.cost 0 q),.int .i64 0])/\Ext w w':=by
 have CH:=fun(W:World) (x:Ext w W)=>YW i us W (H.ext x)
 rw[hc] at CH;have sq:=Zp hc (by omega);have rok:=ZF sq;have hnn:i.n=(i.cost.length:Int):=sq.len.symm;have PE:=fun(W:World) (x:Ext w W)=>Zdp P c i.cost.length (0::q) W (hP.ext x) hl (by have:=rok.n2;omega)
 have hlt:Hid (∀ x∈0::q,x<i.cost.length):=fun x hx=>List.mem_range.1 (hl.mem_iff.1 hx)
 have hlen:Hid ((0::q).length=i.cost.length):=Hd (by rw[hl.length_eq,List.length_range]);have n24:=rok.n2;have n1:=rok.n1;clear hl hc sq;obtain⟨kind,nn,cap,xw,xv,co⟩:=i;obtain⟨A,a,B,b,D,d,rfl,-,-,⟨hC,-,-⟩⟩:=H;simp only at *;subst hk hnn;obtain⟨cb,cof,_,_,_,rfl,_,_⟩:=XQ rok hC (r:=0) (c:=0) (by omega) (by omega);have num:=Yl rok;have CA:=Hd (fun(W:World) (x:Ext w W) (r c:Nat) (hr:r<co.length) (hc:c<co.length)=>Qj rok (hC.ext x fun _ _ h=>h.ext x) hr hc);obtain⟨tot,htot⟩:∃ tot,Hid (ZC co 0 q=tot):=⟨_,rfl⟩;rw[htot.out];have bt:0<=tot/\tot<=2147483647*24:=by
  have h1:=Vv num q 0 (by omega) fun x hx=>hlt.out x (by simp[hx])
  have h2:=hlen.out;rw[List.length_cons] at h2;rw[htot.out] at h1;omega
 have START:Hid ((0:Int)+Z9 co ((0::q).drop 0)=tot):=Hd (by rw[<-htot.out];simp[Z9]);obtain⟨l,hll⟩:∃ l,Hid (0::q=l):=⟨_,rfl⟩;have h00:Hid (l[0]?=some 0):=Hd (by rw[<-hll.out];rfl);rw[hll.out] at hP hlt hlen START;obtain⟨pb,po,x0,rfl,zp0,cp0,ep0,_⟩:=hP.at (k:=0) (by rw[Zg,hlen.out];omega);obtain rfl:x0=0:=by
  have h:=ep0.out;rw[ZD h00.out] at h;exact(Option.some.inj h).symm
 replace cp0:w.cell? ⟨pb,po,none⟩=some (.int .i64 0):=cp0;have DR:Hid (∀ k,k<co.length->∃ u,l[k]?=some u/\u<co.length/\l.drop k=u::l.drop (k+1)):=fun k hk=>by
  have h:k<l.length:=by rw[hlen.out];exact hk
  exact⟨l[k],List.getElem?_eq_getElem h,hlt.out _ (List.getElem_mem h),List.drop_eq_getElem_cons h⟩
 replace CH:=Hd CH;replace PE:=Hd PE;replace hP:=Hd hP;replace hC:=Hd hC;replace rok:=Hd rok;replace num:=Hd num;have B1:Hid (Blk (w.alloc (.cells #[.int .i64 3,.int .i64 co.length,.int .i64 cap,.slice A xw.length a,.slice B xv.length b,.slice (some ⟨cb,cof,none⟩) co.length d] 25)) w.heap.size 25 #[.int .i64 3,.int .i64 co.length,.int .i64 cap,.slice A xw.length a,.slice B xv.length b,.slice (some ⟨cb,cof,none⟩) co.length d]):=.new rfl;have q00:(0:Int)<(co.length:Int):=by omega
 clear ep0;go_enter Tryz.func27,Tryz.ntmps27;go_wp2_with (fail);refine(CH.out _ (by(repeat (first | assumption | exact Ext.rf _ | apply Ext.drew | apply Ext.drewN | apply Ext.alloc)))).mono ?_;rintro e w1 ⟨rfl,x1⟩;have X1:=Hd (Ext.tr (a:=w) (by(repeat (first | assumption | exact Ext.rf _ | apply Ext.drew | apply Ext.drewN | apply Ext.alloc))) x1);have BB:=Hd (B1.out.ext x1);have d0:=BB.out.c0;have d1:=BB.out.c1;clear x1;go_wp2_with (fail);refine(PE.out _ X1.out).mono ?_;rintro e w2 ⟨rfl,x2⟩;have X2:=Hd (X1.out.tr x2);have BC:=Hd (BB.out.ext x2);have e0:=BC.out.c0;have e2:w2.cell? ⟨pb,po,none⟩=some (.int .i64 0):=Zc X2.out zp0 cp0;clear x2 d0 d1 BB;go_wp2_with (fail);go_loopw [8,7] (fun v s wr=>∃ (k:Nat) (su:Int),v=.int .i64 k/\s=.int .i64 su/\k<=co.length/\Hid (0<=su/\su+Z9 co (l.drop k)=tot)/\Hid (Ext w2 wr)) (fun v _ _=>co.length-(intOf v).toNat)
 case atStart=>exact⟨0,0,rfl,rfl,by omega,by exact(show (0:Int)<=0/\(0:Int)+Z9 co (l.drop 0)=tot from⟨by omega,START.out⟩),Ext.rf _⟩
 case round =>
  obtain⟨wo,rfl⟩:∃ wo:World,wo=wr:=⟨_,rfl⟩;obtain⟨k,su,rfl,rfl,hk,HS,Y⟩:=hrel;have d0:wo.cell? ⟨w.heap.size,0,none⟩=some (.int .i64 3):=(BC.out.ext Y.out).cell 0;have d1:wo.cell? ⟨w.heap.size,1,none⟩=some (.int .i64 co.length):=(BC.out.ext Y.out).cell 1;have d5:wo.cell? ⟨w.heap.size,5,none⟩=some (.slice (some ⟨cb,cof,none⟩) co.length d):=(BC.out.ext Y.out).cell 5;have XW:=Hd (X2.out.tr Y.out);clear e0 e2 START
  by_cases hkl:k<co.length
  ·obtain⟨u,ek,hun,edr⟩:=DR.out k hkl
   obtain⟨pb',po',xu,hPq,zpk,cpk,epk,_⟩:=(hP.out.ext XW.out).at (k:=k) (by rw[Zg,hlen.out];exact hkl);obtain⟨rfl,rfl⟩:pb=pb'/\po=po':=by simpa using hPq
   obtain rfl:xu=(u:Int):=by
    have h:=epk.out;rw[ZD ek] at h;exact(Option.some.inj h).symm
   have HS1:=HS.out;rw[edr] at HS1;have q1:(k:Int)<(co.length:Int):=by omega
   have q2:(u:Int)<(co.length:Int):=by omega
   have hw0:IntKind.i64.wrap ((k:Int)+1)=(k:Int)+1:=IntWalk.i64_in _ (by omega);clear ek edr hPq epk HS
   by_cases hlast:k+1=co.length
   ·have e1:l.drop (k+1)=[]:=List.drop_of_length_le (by rw[hlen.out];omega)
    rw[e1] at HS1;obtain⟨rb,ro,d',c1,c2⟩:=CA.out _ XW.out u 0 hun (by omega);have nu:=num.out u 0 hun (by omega);obtain⟨y,hy⟩:∃ y,Hid (Za co u 0=y):=⟨_,rfl⟩;simp only[Z9,ZC] at HS1;rw[hy.out] at c2 nu HS1;replace c2:wo.cell? ⟨rb,ro,none⟩=some (.int .i64 y):=c2;have hrem:((k:Int)+1).tmod (co.length:Int)=0:=by
     have h:(k:Int)+1=(co.length:Int):=by omega
     rw[h,Int.tmod_self]
    have hw1:IntKind.i64.wrap 0=0:=IntWalk.i64_in _ (by omega);have hw:IntKind.i64.wrap (su+y)=su+y:=IntWalk.i64_in _ (by omega);have p0:wo.cell? ⟨pb,po,none⟩=some (.int .i64 0):=Zc XW.out zp0 cp0;have NEW:Hid (0<=su+y/\su+y+Z9 co (l.drop (k+1))=tot):=Hd (by
     rw[e1];simp only[Z9];omega)
    have hnz:((co.length:Int)==0)=false:=by rw[beq_eq_false_iff_ne];omega
    clear HS1 e1;replace hlast:=Hd hlast;go_wp2_with (fail);go_quiet (fail);go_wp2_with (fail);go_roundw
    case rel=>exact⟨k+1,su+y,by go_num,rfl,by omega,NEW,Y.out.drewN _⟩
    case measure=>simp[intOf];omega
   ·have hk1:k+1<co.length:=by omega
    obtain⟨v,ek1,hvn,edr1⟩:=DR.out (k+1) hk1;obtain⟨pb',po',xu,hPq,zpk1,cpk1,epk1,_⟩:=(hP.out.ext XW.out).at (k:=k+1) (by rw[Zg,hlen.out];exact hk1);obtain⟨rfl,rfl⟩:pb=pb'/\po=po':=by simpa using hPq
    obtain rfl:xu=(v:Int):=by
     have h:=epk1.out;rw[ZD ek1] at h;exact(Option.some.inj h).symm
    rw[edr1] at HS1;obtain⟨rb,ro,d',c1,c2⟩:=CA.out _ XW.out u v hun hvn;have nu:=num.out u v hun hvn;obtain⟨y,hy⟩:∃ y,Hid (Za co u v=y):=⟨_,rfl⟩;simp only[Z9,ZC] at HS1;rw[hy.out] at c2 nu HS1;have hpp:=(Vv num.out (l.drop (k+1+1)) v hvn fun x hx=>hlt.out x (List.mem_of_mem_drop hx)).1;have hrem:((k:Int)+1).tmod (co.length:Int)=((k+1:Nat):Int):=by
     rw[Int.tmod_eq_emod_of_nonneg (by omega),Int.emod_eq_of_lt (by omega) (by omega)];omega
    have hw1:IntKind.i64.wrap ((k+1:Nat):Int)=((k+1:Nat):Int):=IntWalk.i64_in _ (by omega);have hw:IntKind.i64.wrap (su+y)=su+y:=IntWalk.i64_in _ (by omega);have NEW:Hid (0<=su+y/\su+y+Z9 co (l.drop (k+1))=tot):=Hd (by
     rw[edr1];simp only[Z9];omega)
    have q3:(v:Int)<(co.length:Int):=by omega
    have q4:((k+1:Nat):Int)<(co.length:Int):=by omega
    have hnz:((co.length:Int)==0)=false:=by rw[beq_eq_false_iff_ne];omega
    clear HS1 edr1 ek1 hPq epk1 hpp;replace hlast:=Hd hlast;go_wp2_with (fail);go_quiet (fail);go_wp2_with (fail);go_roundw
    case rel=>exact⟨k+1,su+y,by go_num,rfl,by omega,NEW,Y.out.drewN _⟩
    case measure=>simp[intOf];omega
  ·have q1:¬(k:Int)<(co.length:Int):=by omega
   have HS2:Hid (su=tot):=by
    have h:=HS.out.2;rw[List.drop_of_length_le (by rw[hlen.out];omega)] at h;simp only[Z9] at h;have h2:su=tot:=by omega
    exact h2
   go_wp2_with (fail);go_ret2;rw[HS2.out];exact⟨rfl,XW.out⟩
theorem ZeH (i:InstP)(us:List Value)(P:Option Addr)(c:Nat)(l:List Nat)(w:World)(H:RInst w us i)(hk2:i.kind=3)(hP:RdI w P (Zd l))(n m:Nat)(hn:i.n=n)(hn24:n<=24)(hlen:l.length<n)(hl0:0<l.length)(bs:Int)(f:Int->Int)
  (hused:∀ k,k<n->(m.testBit k=true↔k∉l)) (e5:ZH f (-1) (Zd (Xw m n 0))=bs) (fpos:∀ k,k<n->m.testBit k=true->0<=f (k:Int))
  (IH3:∀ (k:Nat) (A:Option Addr) (d:Nat) (q:List Int),k<n->m.testBit k=true->q=Zd l++[(k:Int)]->∀ W:World,Ext w W->RdI W A q->Calls Tryz.prog 28 #[.agg (List.toArray us),.slice A q.length d] W fun e w'=>e=.returned (.int .i64 (f k))/\Ext W w') :
  Calls Tryz.prog 28 #[.agg (List.toArray us),.slice P l.length c] w fun e w'=>e=.returned (.int .i64 bs)/\Ext w w':=by
 obtain⟨kind,nn,cap,xw,xv,co⟩:=i;obtain⟨A,a,B,b,D,d,rfl,-,-,-⟩:=H;simp only at *;subst hk2 hn;replace IH3:=Hd IH3;replace e5:=Hd e5;replace hP:=Hd hP;replace hused:=Hd hused;replace fpos:=Hd fpos;have hz0:((l.length:Int)==0)=false:=by rw[beq_eq_false_iff_ne];omega
 have hne:((l.length:Int)==(n:Int))=false:=by rw[beq_eq_false_iff_ne];omega
 have B1:Hid (Blk (w.alloc (.cells #[.int .i64 3,.int .i64 n,.int .i64 cap,.slice A xw.length a,.slice B xv.length b,.slice D co.length d] 25)) w.heap.size 25 #[.int .i64 3,.int .i64 n,.int .i64 cap,.slice A xw.length a,.slice B xv.length b,.slice D co.length d]):=.new rfl;have X0:Hid (Ext w (w.alloc (.cells #[.int .i64 3,.int .i64 n,.int .i64 cap,.slice A xw.length a,.slice B xv.length b,.slice D co.length d] 25))):=(Ext.rf _).alloc _;obtain⟨w1,hw1⟩:∃ w1,w1=(w.alloc (.cells #[.int .i64 3,.int .i64 n,.int .i64 cap,.slice A xw.length a,.slice B xv.length b,.slice D co.length d] 25)):=⟨_,rfl⟩;have B2:Hid (Blk w1 w.heap.size 25 #[.int .i64 3,.int .i64 n,.int .i64 cap,.slice A xw.length a,.slice B xv.length b,.slice D co.length d]):=by rw[hw1];exact B1.out
 have X1:Hid (Ext w w1):=by rw[hw1];exact X0.out
 replace hw1:=Hd hw1;clear B1;go_enter Tryz.func28,Tryz.ntmps28;go_wp2_with (fail);rw[<-hw1.out];clear X0;go_loopw [9,7] (fun v bv wr=>∃ (k:Nat) (bb:Int),v=.int .i64 k/\bv=.int .i64 bb/\k<=n/\Hid (ZH f bb (Zd (Xw m n k))=bs)/\Hid (Ext w1 wr)) (fun v _ _=>n-(intOf v).toNat)
 case atStart=>exact⟨0,-1,rfl,rfl,by omega,e5,Ext.rf _⟩
 case round =>
  obtain⟨wo,rfl⟩:∃ wo:World,wo=wr:=⟨_,rfl⟩;obtain⟨k,bb,rfl,rfl,hk,HS,Y⟩:=hrel
  by_cases hlt:k<n
  ·have HN:Hid (ZH f bb (Zd (if m.testBit k=true then k::Xw m n (k+1) else Xw m n (k+1)))=bs):=by
    have h:=HS.out;rw[ZaO hlt] at h;exact h
   have q1:(k:Int)<(n:Int):=by omega
   have B3:=B2.out.ext Y.out;have zb3:=B3.lt;have c0:=B3.c0;have HU:=hused.out k hlt;replace HU:=Hd HU;replace B3:=Hd B3;clear HS;go_wp2_with (fail);go_loopw [11,10] (fun v uv wr=>∃ j:Nat,v=.int .i64 j/\uv=.bool ((l.take j).contains k)/\j<=l.length/\wr=wo) (fun v _ _=>l.length-(intOf v).toNat)
   case atStart=>exact⟨0,rfl,rfl,by omega,rfl⟩
   case round =>
    obtain⟨j,rfl,rfl,hj,hwr⟩:=hrel;have hwr':wo=wr:=(show wr=wo from hwr).symm;clear hwr;subst hwr'
    by_cases hjl:j<l.length
    ·have q2:(j:Int)<(l.length:Int):=by omega
     have ej:l[j]?=some l[j]:=List.getElem?_eq_getElem hjl;generalize l[j]=y at ej;obtain⟨pb,po,x,rfl,_,cx,ex,_⟩:=(hP.out.ext (X1.out.tr Y.out)).at (k:=j) (by rw[Zg];exact hjl);obtain rfl:x=(y:Int):=by
      have h:=ex.out;rw[ZD ej] at h;exact(Option.some.inj h).symm
     have HC:Hid ((l.take (j+1)).contains k=((l.take j).contains k || (y==k))):=Hd (by
      rw[List.take_add_one,ej,Bool.eq_iff_iff,Bool.or_eq_true,List.contains_iff_mem,List.contains_iff_mem,beq_iff_eq];show k∈l.take j++[y]↔_;rw[List.mem_append,List.mem_singleton];exact⟨fun h=>h.imp id Eq.symm,fun h=>h.imp id Eq.symm⟩)
     clear ex ej
     cases hb:(l.take j).contains k with
     | true =>
      have HC2:Hid ((l.take (j+1)).contains k=true):=by
       have h:=HC.out;rw[hb,Bool.true_or] at h;exact h
      clear HC hb;go_wp2_with (fail);go_roundw
      case rel=>exact⟨j+1,by go_num,by rw[HC2.out],by omega,by first | exact rfl | exact trivial⟩
      case measure=>simp[intOf];omega
     | false =>
      obtain⟨yk,hyk⟩:∃ yk,Hid ((y==k)=yk):=⟨_,rfl⟩;have HC2:Hid ((l.take (j+1)).contains k=yk):=by
       have h:=HC.out;rw[hb,Bool.false_or,hyk.out] at h;exact h
      have t1:(y==k)=yk:=hyk.out;have t2:((y:Int)==(k:Int))=yk:=by
       rw[<-hyk.out,Bool.eq_iff_iff,beq_iff_eq,beq_iff_eq];omega
      clear HC hb;go_wp2_with (fail);go_roundw
      case rel=>exact⟨j+1,by go_num,by rw[HC2.out],by omega,by first | exact rfl | exact trivial⟩
      case measure=>simp[intOf];omega
    ·have q2:¬(j:Int)<(l.length:Int):=by omega
     rw[List.take_of_length_le (by omega)]
     cases hb:m.testBit k with
     | false =>
      have hu:l.contains k=true:=by
       rw[List.contains_iff_mem]
       cases hd:decide (k∈l) with
       | true=>exact of_decide_eq_true hd
       | false =>
        have:=HU.out.2 (of_decide_eq_false hd);rw[hb] at this
        cases this
      have HN2:Hid (ZH f bb (Zd (Xw m n (k+1)))=bs):=by
       have h:=HN.out;rw[hb,if_neg (by simp)] at h;exact h
      rw[hu];clear HN hb hu;go_wp2_with (fail);go_roundw
      case rel=>exact⟨k+1,bb,by go_num,rfl,by omega,HN2,Y⟩
      case measure=>simp[intOf];omega
     | true =>
      have hu:l.contains k=false:=by
       cases hd:l.contains k with
       | false=>rfl
       | true=>exact absurd (List.contains_iff_mem.1 hd) (HU.out.1 hb)
      have HN2:Hid (ZH f (if bb<0 then f (k:Int) else if f (k:Int)<bb then f (k:Int) else bb) (Zd (Xw m n (k+1)))=bs):=by
       have h:=HN.out;rw[hb,if_pos rfl] at h;exact h
      have IHk:=Hd (fun(A:Option Addr) (d:Nat) (q:List Int) (hq:q=Zd l++[(k:Int)])=>IH3.out k A d q hlt hb hq);have fk:=fpos.out k hlt hb;rw[hu];generalize f (k:Int)=fv at *;clear HN hb hu HU;have c1':=B3.out.c1;have c2:=B3.out.c2;have c3:=B3.out.c3;have c4:=B3.out.c4;have c5:=B3.out.c5;obtain⟨q,hq⟩:∃ q,Hid (q=Zd l++[(k:Int)]):=⟨_,rfl⟩;have lq:q.length=l.length+1:=by rw[hq.out];simp[Zd]
      go_upto_region 19 with(fail);refine wp_region_any (by kernel_rfl) ?_
      change wpAny _ _ _ _ _ _ _ (World.drew _)
      refine Zb (i:=2) (op:=Op.move (Operand.tmp 1)) (t:=22) (d:=some 74) (v:=?_) rfl (by decide +kernel) (by decide +kernel) (by decide +kernel) (fun _ _ _ h=>h) ?_ ?_
      case refine_2=>(intro _;unfold Ze;go_simp;try with_reducible rfl)
      try simp only[lay]
      refine Zb (i:=4) (op:=Op.move (Operand.tmp 9)) (t:=3) (d:=some 76) (v:=?_) rfl (by decide +kernel) (by decide +kernel) (by decide +kernel) (fun _ _ _ h=>h) ?_ ?_
      case refine_2=>(intro _;unfold Ze;go_simp;try with_reducible rfl)
      try simp only[lay]
      refine Xl (n:=2) [(0,some 72),(1,some 73),(3,some 75),(5,some 77),(6,some 78)] (fun | 1=>[3] | 3=>[6] | 5=>[6] | _=>[]) (Ext wo)
       (VF (fun | 0=>some (.agg #[.int .i64 3,.int .i64 n,.int .i64 cap,.slice A xw.length a,.slice B xv.length b,.slice D co.length d]) | _=>none)
        (fun j v W=>(j=1->∃ g,v=.slice (some ⟨g,0,none⟩) 0 0/\wo.heap.size<=g/\Blk W g 3 #[])/\(j=3->∃ A c,v=.slice A (Zd l).length c/\OwI W wo.heap.size A c (Zd l))/\(j=5->∃ h,v=.slice (some ⟨h,0,none⟩) 1 1/\Blk W h 3 #[.int .i64 (k:Int)])/\(j=6->∃ A c,v=.slice A q.length c/\OwI W wo.heap.size A c q)))
       (fun i W W'=>i≠6->Ext W W') #[true,true,true,true,true,true,true,false,false] (by kernel_rfl) (by kernel_rfl) ?_ ?_ ?_ ((Ext.rf _).drew)
      ·intro i j v W W' hkp hv hs
       refine VF.stab1 (fun _ ⟨g1,g3,g8,g9⟩=>?_) hv
       by_cases hi:i=6
       ·subst hi
        refine⟨fun h=>?_,fun h=>?_,fun h=>?_,fun h=>?_⟩
        all_goals (subst h;exact absurd hkp (by decide +kernel))
       ·have hx:=hs hi
        refine⟨fun h=>?_,fun h=>?_,fun h=>?_,fun h=>?_⟩
        ·obtain⟨g,q1,q2,q3⟩:=g1 h
         exact⟨g,q1,q2,q3.ext hx⟩
        ·obtain⟨A',c',q1,q2⟩:=g3 h
         exact⟨A',c',q1,q2.ext hx⟩
        ·obtain⟨h',q1,q2⟩:=g8 h
         exact⟨h',q1,q2.ext hx⟩
        ·obtain⟨A',c',q1,q2⟩:=g9 h
         exact⟨A',c',q1,q2.ext hx⟩
      ·intro pq hpm u W hRW hD K hK
       have z2:=hRW.size;simp only[List.mem_cons,List.not_mem_nil,or_false] at hpm;rcases hpm with rfl | rfl | rfl | rfl | rfl
       ·have r0:=Zc hRW zb3 c0
        have r1:=Zc hRW zb3 c1';have r2:=Zc hRW zb3 c2;have r3:=Zc hRW zb3 c3;have r4:=Zc hRW zb3 c4;have r5:=Zc hRW zb3 c5;exact Zy (T:=25) rfl (.pointer (some ⟨w.heap.size,0,none⟩)) (by kernel_rfl) (.agg #[.int .i64 3,.int .i64 n,.int .i64 cap,.slice A xw.length a,.slice B xv.length b,.slice D co.length d]) (by go_simp) (hK _ _ (VF.mk rfl) hRW (fun _=>Ext.rf _))
       ·exact Qu rfl _ (UX _) (hK _ _ (VF.mg rfl ⟨fun _=>⟨_,rfl,z2,.new rfl⟩,(fun h=>by cases h),(fun h=>by cases h),(fun h=>by cases h)⟩) (hRW.alloc _) (fun _=>(Ext.rf _).alloc _))
       ·obtain⟨g,h1,zg,bg⟩:=((hD 1 (Zq (by kernel_rfl))).g rfl).1 rfl
        obtain⟨A3,c3,w3,hr3,o3,x3⟩:=Xe W wo.heap.size 22 g (Zd l) P c bg zg (hP.out.ext ((X1.out.tr Y.out).tr hRW)) (by rw[Zg];omega);exact Yr rfl (.slice (some ⟨g,0,none⟩) 0 0) (.slice P (Zd l).length c) (Eq.trans (b:=u 1) (by kernel_rfl) h1) (by rw[Zg];kernel_rfl) _ hr3 (hK _ _ (VF.mg rfl ⟨(fun h=>by cases h),fun _=>⟨A3,c3,rfl,o3⟩,(fun h=>by cases h),(fun h=>by cases h)⟩) (hRW.tr x3) (fun _=>x3))
       ·exact Wj rfl (.int .i64 (k:Int)) (by kernel_rfl) _ (UY _ _) (hK _ _ (VF.mg rfl ⟨(fun h=>by cases h),(fun h=>by cases h),fun _=>⟨_,rfl,.new rfl⟩,(fun h=>by cases h)⟩) (hRW.alloc _) (fun _=>(Ext.rf _).alloc _))
       ·obtain⟨A3,c3',h3,o3⟩:=((hD 3 (Zq (by kernel_rfl))).g rfl).2.1 rfl
        obtain⟨g8,h8,b8⟩:=((hD 5 (Zq (by kernel_rfl))).g rfl).2.2.1 rfl;obtain⟨A7,c7,w7,hrun,o7,g7,-⟩:=Yc W wo.heap.size 22 A3 (Zd l).length c3' (Zd l) [(k:Int)] (some ⟨g8,0,none⟩) 1 rfl o3 (.blk b8 rfl) (by rw[Zg];simp;omega) hRW.size;have x7:Ext wo w7:=hRW.grow g7 (fun k hk=>(o3.lt k hk).1);rw[<-hq.out] at hrun o7;exact Yr rfl (.slice A3 (Zd l).length c3') (.slice (some ⟨g8,0,none⟩) 1 1) (Eq.trans (b:=u 3) (by kernel_rfl) h3) (Eq.trans (b:=u 5) (by kernel_rfl) h8) _ hrun (hK _ _ (VF.mg rfl ⟨(fun h=>by cases h),(fun h=>by cases h),(fun h=>by cases h),fun _=>⟨A7,c7,rfl,o7⟩⟩) x7 (fun h=>absurd rfl h))
      ·intro u w7 hRW hV
       have h0:=(hV (0,some 72) (by simp) rfl).k rfl;obtain⟨A7,c7,h9,o7⟩:=((hV (6,some 78) (by simp) rfl).g rfl).2.2.2 rfl;simp only[Zn,h0,h9];have rq:=Hd o7.read;have x7:=Hd hRW;clear h0 h9 hV o7 hRW
       try simp only[lay]
       refine Zm 7 (by decide +kernel) (Ym (f:=28) (xs:=#[Operand.tmp 72,Operand.tmp 78]) (ts:=#[25,22]) (t:=3) (d:=some 79) rfl #[.agg #[.int .i64 3,.int .i64 n,.int .i64 cap,.slice A xw.length a,.slice B xv.length b,.slice D co.length d],.slice A7 q.length c7] (by go_simp) (by kernel_rfl) _ (IHk.out A7 c7 q hq.out w7 (X1.out.tr (Y.out.tr x7.out)) rq.out) ?_);rintro e w8 ⟨rfl,x8⟩;refine⟨_,rfl,?_⟩
       try simp only[lay]
       refine Zb (i:=8) (op:=Op.assign (Operand.tmp 79)) (t:=3) (d:=some 12) (v:=?_) rfl (by decide +kernel) (by decide +kernel) (by decide +kernel) (fun _ _ _ h=>h) ?_ ?_
       case refine_2=>(intro _;unfold Ze;go_simp;try with_reducible rfl)
       try simp only[lay]
       refine wpAny_done (by kernel_rfl) ?_ _;have Y8:=Hd (Y.out.tr (x7.out.tr x8));clear x8 x7 rq c0 c1' c2 c3 c4 c5;go_simp
       by_cases hbb:bb<0
       ·rw[if_pos hbb] at HN2
        go_wp2_with (fail);go_roundw
        case rel=>exact⟨k+1,fv,by go_num,rfl,by omega,HN2,Y8⟩
        case measure=>simp[intOf];omega
       ·rw[if_neg hbb] at HN2
        by_cases hfb:fv<bb
        ·rw[if_pos hfb] at HN2
         go_wp2_with (fail);go_roundw
         case rel=>exact⟨k+1,fv,by go_num,rfl,by omega,HN2,Y8⟩
         case measure=>simp[intOf];omega
        ·rw[if_neg hfb] at HN2
         go_wp2_with (fail);go_roundw
         case rel=>exact⟨k+1,bb,by go_num,rfl,by omega,HN2,Y8⟩
         case measure=>simp[intOf];omega
  ·obtain rfl:k=n:=by omega
   have q1:¬(k:Int)<(k:Int):=by omega
   have HN:Hid (bb=bs):=by
    have h:=HS.out;unfold Xw at h;rw[List.drop_of_length_le (by rw[List.length_range];omega)] at h;exact h
   obtain rfl:=HN.out;go_wp2_with (fail);go_ret;exact⟨rfl,X1.out.tr Y.out⟩
theorem Zdr (i:InstP)(us:List Value)(P:Option Addr)(c:Nat)(q:List Nat)(w:World)(H:RInst w us i)(hc:Zh i=0)(hk:i.kind=3)(hP:RdI w P (Zd (0::q)))(hl:(0::q).Perm (List.range i.cost.length)) :
  Calls Tryz.prog 28 #[.agg (List.toArray us),.slice P i.cost.length c] w fun e w'=>e=.returned (.int .i64 (ZC i.cost 0 q))/\Ext w w':=by
 have CO:=fun(W:World) (x:Ext w W)=>ZbH i us P c q W (H.ext x) hc hk (hP.ext x) hl
 have hnn:i.n=(i.cost.length:Int):=(Zp hc (by omega)).len.symm;generalize ZC i.cost 0 q=cv at *;clear hl hP hc;obtain⟨kind,nn,cap,xw,xv,co⟩:=i;obtain⟨A,a,B,b,D,d,rfl,-,-,-⟩:=H;simp only at *;subst hk hnn;replace CO:=Hd CO;have hb:((co.length:Int)==(co.length:Int))=true:=by simp
 go_enter Tryz.func28,Tryz.ntmps28;go_wp2_with (fail);refine(CO.out _ (by(repeat (first | assumption | exact Ext.rf _ | apply Ext.drew | apply Ext.drewN | apply Ext.alloc)))).mono ?_;rintro e w1 ⟨rfl,x1⟩;have X1:=Hd (Ext.tr (a:=w) (by(repeat (first | assumption | exact Ext.rf _ | apply Ext.drew | apply Ext.drewN | apply Ext.alloc))) x1);clear x1;go_wp2_with (fail);go_ret;exact⟨rfl,X1.out⟩
theorem ZeI {rows:List (List Int)}{p:List Int}{m last:Nat}{cost:Int}{l:List Nat}(h1:1<=rows.length)(W:WalkOk rows p m last cost l)(hlen:l.length=rows.length-1) : (0::l).Perm (List.range rows.length):=by
 have hm:=W.len;have he:Zf m=[]:=List.eq_nil_of_length_eq_zero (by omega);refine(List.perm_ext_iff_of_nodup (List.nodup_cons.2 ⟨fun h=>(W.inn 0 h).2 rfl,W.nodup⟩) List.nodup_range).2 fun x=>?_
 rw[List.mem_range]
 constructor
 ·intro hx
  rcases List.mem_cons.1 hx with rfl | hx
  ·omega
  ·exact(W.inn x hx).1
 ·intro hx
  by_cases h0:x=0
  ·simp[h0]
  ·by_cases hl:x∈l
   ·exact List.mem_cons_of_mem _ hl
   ·have:=(W.rest x).2 ⟨⟨hx,h0⟩,hl⟩
    rw[he] at this
    cases this
theorem ZbI (i:InstP)(us:List Value)(hc:Zh i=0)(hk:i.kind=3) : ∀ (f:Nat) (P:Option Addr) (c:Nat) (p:List Int) (m last:Nat) (cost:Int) (w:World),Z5 i.cost p=some (m,last,cost)->f=i.cost.length-1-p.length->RInst w us i->RdI w P (0::p) ->
  Calls Tryz.prog 28 #[.agg (List.toArray us),.slice P (0::p).length c] w fun e w'=>e=.returned (.int .i64 (YS i.cost f p))/\Ext w w'
 | 0,P,c,p,m,last,cost,w=>fun hp hf H hP=>by
  have sq:=Zp hc (by omega);have rok:=ZF sq;obtain⟨l,W⟩:=YK rok.n1 rok.n2 hp;have hlen:=W.len;have h1:=rok.n1;have hpl:p.length=l.length:=by rw[W.eq,Zg]
  have e:YS i.cost 0 p=ZC i.cost 0 l:=by
   show ZC i.cost 0 (p.map Int.toNat)=_;rw[W.eq,Z8]
  have hpm:=ZeI h1 W (by omega);rw[e,show (0::p).length=i.cost.length by simp;omega];have hP':RdI w P (Zd (0::l)):=by
   have e2:Zd (0::l)=0::p:=by rw[W.eq];rfl
   rw[e2];exact hP
  exact Zdr i us P c l w H hc hk hP' hpm
 | f+1,P,c,p,m,last,cost,w=>fun hp hf H hP=>by
  have sq:=Zp hc (by omega);have rok:=ZF sq;have h24:=rok.n2;have h1:=rok.n1;obtain⟨l,W⟩:=YK h1 h24 hp;have hlen:=W.len;have hsub:=W.sub;have hpl:p.length=l.length:=by rw[W.eq,Zg]
  have hmem:∀ k,k<i.cost.length->(k∈Zf m↔m.testBit k=true):=fun k hk=>ZaP hsub (by omega) hk
  have e2:Zd (0::l)=0::p:=by rw[W.eq];rfl
  have hP':RdI w P (Zd (0::l)):=by
   rw[e2];exact hP
  have elen:(0::p).length=(0::l).length:=by simp[hpl]
  rw[elen];refine ZeH i us P c (0::l) w H hk hP' i.cost.length m sq.len.symm h24 (by simp;omega) (by simp) _ (fun x=>YS i.cost f (p++[x])) (fun k hk=>?_) ?_ (fun k hk hb=>?_) ?_
  ·rw[<-hmem k hk,W.rest k,List.mem_cons]
   constructor
   ·rintro ⟨⟨_,a⟩,b⟩ (h | h)
    ·exact a h
    ·exact b h
   ·intro h
    exact⟨⟨hk,fun a=>h (.inl a)⟩,fun b=>h (.inr b)⟩
  ·have e:Xw m i.cost.length 0=Zf m:=by
    unfold Xw;rw[List.drop_zero,<-VL hsub (by omega)]
   rw[e];show _=ZH _ (-1) (match Z5 i.cost p with | none=>[] | some (m,_,_)=>Zd (Zf m));rw[hp]
  ·have hs:=Wz h1 h24 hp ((hmem k hk).2 hb)
   have h4:=Ul (mirror:=false) h1 h24 (Yl rok) (fun h=>by cases h) hs;rw[show i.cost.length-1-(p++[(k:Int)]).length=f by rw[List.length_append,List.length_singleton];omega] at h4;omega
  ·rintro k A d q hkn hb rfl W' x hq
   have hs:=Wz h1 h24 hp ((hmem k hkn).2 hb);have e3:Zd (0::l)++[(k:Int)]=0::(p++[(k:Int)]):=by rw[e2];rfl
   rw[e3] at hq ⊢;exact ZbI i us hc hk f A d _ _ _ _ W' hs (by rw[List.length_append,List.length_singleton];omega) (H.ext x) hq
theorem JG (x:Int)(h₀:0<=x)(h₁:x<18446744073709551616) : bits .and .u64 x 4294967295=x%4294967296:=bits_mask .u64 64 (by decide) wraps_u64 32 (by decide) x h₀ h₁
theorem Un {a b:Int}(ha:0<=a)(ha':a<=2147483647)(hb:0<=b)(hb':b<=2147483647) : 0<=a*b/\a*b<=4611686014132420609:=by
 refine⟨Int.mul_nonneg ha hb,?_⟩;have h1:a*b<=2147483647*b:=Int.mul_le_mul_of_nonneg_right ha' hb;omega
theorem ZbJ (a b:Int)(w:World)(ha:0<=a)(ha':a<=2147483647)(hb:0<=b)(hb':b<=2147483647) :
  Calls Tryz.prog 145 #[.int .u64 a,.int .u64 b] w fun e w'=>e=.returned (.tuple #[.int .u64 0,.int .u64 (a*b)])/\Ext w w':=by
 have ea:Hid (bits BinOp.and IntKind.u64 a 4294967295=a):=by
  have h:=JG a ha (by omega);rw[Int.emod_eq_of_lt ha (by omega)] at h;exact h
 have eb:Hid (bits BinOp.and IntKind.u64 b 4294967295=b):=by
  have h:=JG b hb (by omega);rw[Int.emod_eq_of_lt hb (by omega)] at h;exact h
 have da:Hid (a / 4294967296=0):=Hd (by omega);have db:Hid (b / 4294967296=0):=Hd (by omega);have hm:=Un ha ha' hb hb';have wm:Hid (IntKind.u64.wrap (a*b)=a*b):=wraps_u64 _ hm.1 (by omega);have dm:Hid (∃ q:Int,0<=q/\q<4294967296/\a*b / 4294967296=q):=by
  have h:∃ q:Int,0<=q/\q<4294967296/\a*b / 4294967296=q:=⟨_,by omega,by omega,rfl⟩;exact h
 have w0:Hid (IntKind.u64.wrap 0=0):=Hd (by decide);clear hm;go_enter Tryz.func145,Tryz.ntmps145;go_wp2;refine bodyPost_ret (v:=.tuple #[.int .u64 0,.int .u64 (a*b)]) ?_ rfl ⟨rfl,Ext.rf _⟩;obtain⟨q,hq0,hq1,hq⟩:=dm.out;have w1:=ea.out;have w2:=eb.out;have w3:=da.out;have w4:=db.out;have w5:=wm.out;have w6:=w0.out;have wq:=wraps_u64 q hq0 (by omega);have dq:q / 4294967296=0:=by omega
 have aq:bits BinOp.and IntKind.u64 q 4294967295=q:=by
  have h:=JG q hq0 (by omega);rw[Int.emod_eq_of_lt hq0 hq1] at h;exact h
 simp only[w1,w2,w3,w4,w5,w6,hq,Int.zero_mul,Int.mul_zero,Int.add_zero,Int.zero_add,wq,dq,aq];simp[results,Tryz.results145,go_sem]
theorem ZaQ (a:Int)(w:World)(ha:0<=a)(ha':a<=2147483647) :
  Calls Tryz.prog 180 #[.int .i64 a] w fun e w'=>e=.returned (.int .u64 a)/\Ext w w':=by
 have wm:IntKind.u64.wrap a=a:=wraps_u64 _ ha (by omega);go_enter Tryz.func180,Tryz.ntmps180;go_wp2;go_ret;exact⟨rfl,Ext.rf _⟩
def WF (a b:Int) : Int:=if a=0\/b=0 then 0 else 1
theorem J3 (a b:Int)(w:World)(ha:0<=a)(ha':a<=2147483647)(hb:0<=b)(hb':b<=2147483647) :
  Calls Tryz.prog 165 #[.int .i64 a,.int .i64 b] w fun e w'=>e=.returned (.tuple #[.int .i64 (WF a b),.agg #[.int .u64 0,.int .u64 (a*b)]])/\Ext w w':=by
 have na:decide (a<0)=false:=by simpa using ha
 have nb:decide (b<0)=false:=by simpa using hb
 have B0:Hid (Blk (w.alloc (.cells #[.int .u64 0,.int .u64 0] 218)) w.heap.size 218 #[.int .u64 0,.int .u64 0]):=.new rfl;go_enter Tryz.func165,Tryz.ntmps165;go_wp2_with (fail);refine(ZaQ a _ ha ha').mono ?_;rintro e w1 ⟨rfl,x1⟩;go_wp2_with (fail);refine(ZaQ b _ hb hb').mono ?_;rintro e w2 ⟨rfl,x2⟩;go_wp2_with (fail);refine(ZbJ a b _ ha ha' hb hb').mono ?_;rintro e w3 ⟨rfl,x3⟩;have X3:Ext w w3:=Ext.tr (Ext.tr (Ext.tr ((Ext.rf w).alloc _) x1) x2) x3;have B3:=Hd (((B0.out.ext x1).ext x2).ext x3);have X4:=Hd ((X3.setNew (p:=⟨w.heap.size,0,none⟩) (Nat.le_refl _) (.int .u64 0)).setNew (p:=⟨w.heap.size,1,none⟩) (Nat.le_refl _) (.int .u64 (a*b)));have c0:=B3.out.c0;have c1:=B3.out.c1;have f0:=B3.out.free 0;have f1:=B3.out.free 1;clear X3
 by_cases a0:a=0
 ·subst a0
  have e1:Hid (WF 0 b=0):=rfl;have e2:Hid ((0:Int)*b=0):=Int.zero_mul b;have X5:Hid (Ext w ((w3.setCell ⟨w.heap.size,0,none⟩ (.int .u64 0)).setCell ⟨w.heap.size,1,none⟩ (.int .u64 0))):=by
   have h:=X4.out;rw[e2.out] at h;exact h
  clear X4;go_wp2;exact bodyPost_ret (v:=.tuple #[.int .i64 0,.agg #[.int .u64 0,.int .u64 0]]) (by simp[results,Tryz.results165,go_sem, *]) rfl ⟨by rw[e1.out,e2.out],X5.out⟩
 ·have a0':(a==0)=false:=by simpa using a0
  by_cases b0:b=0
  ·subst b0
   have e1:Hid (WF a 0=0):=Hd (by simp[WF]);have e2:Hid (a*(0:Int)=0):=Int.mul_zero a;have X5:Hid (Ext w ((w3.setCell ⟨w.heap.size,0,none⟩ (.int .u64 0)).setCell ⟨w.heap.size,1,none⟩ (.int .u64 0))):=by
    have h:=X4.out;rw[e2.out] at h;exact h
   clear X4 a0;go_wp2;exact bodyPost_ret (v:=.tuple #[.int .i64 0,.agg #[.int .u64 0,.int .u64 0]]) (by simp[results,Tryz.results165,go_sem, *]) rfl ⟨by rw[e1.out,e2.out],X5.out⟩
  ·have b0':(b==0)=false:=by simpa using b0
   have e1:Hid (WF a b=1):=Hd (by simp[WF,a0,b0]);clear a0 b0;go_wp2;exact bodyPost_ret (v:=.tuple #[.int .i64 1,.agg #[.int .u64 0,.int .u64 (a*b)]]) (by simp[results,Tryz.results165,go_sem, *]) rfl ⟨by rw[e1.out],X4.out⟩
def Zct (x y:Int) : Int:=if x=y then 0 else if x<y then -1 else 1
theorem Zf4 (x y:Int)(w:World) : Calls Tryz.prog 166 #[.agg #[.int .u64 0,.int .u64 x],.agg #[.int .u64 0,.int .u64 y]] w fun e w'=>e=.returned (.int .i64 (Zct x y))/\Ext w w':=by
 unfold Zct
 by_cases h:x=y
 ·subst h
  rw[if_pos rfl];go_enter Tryz.func166,Tryz.ntmps166;go_wp2;go_ret;exact⟨rfl,by(repeat (first | assumption | exact Ext.rf _ | apply Ext.drew | apply Ext.drewN | apply Ext.alloc))⟩
 ·rw[if_neg h]
  by_cases h1:x<y
  ·rw[if_pos h1]
   have h':(x==y)=false:=by simpa using h
   clear h;go_enter Tryz.func166,Tryz.ntmps166;go_wp2;go_ret;exact⟨rfl,by(repeat (first | assumption | exact Ext.rf _ | apply Ext.drew | apply Ext.drewN | apply Ext.alloc))⟩
  ·rw[if_neg h1]
   have h':(x==y)=false:=by simpa using h
   clear h;go_enter Tryz.func166,Tryz.ntmps166;go_wp2;go_ret;exact⟨rfl,by(repeat (first | assumption | exact Ext.rf _ | apply Ext.drew | apply Ext.drewN | apply Ext.alloc))⟩
theorem Uo (a b:Int) : WF a b=0\/WF a b=1:=by unfold WF;split<;>simp
def QG (a b c d:Int) : Int:=if WF a b<WF c d then -1 else if WF c d<WF a b then 1 else WF a b*Zct (a*b) (c*d)
theorem Zf5 (a b c d:Int)(w:World)(ha:0<=a/\a<=2147483647)(hb:0<=b/\b<=2147483647)(hc:0<=c/\c<=2147483647)(hd:0<=d/\d<=2147483647) :
  Calls Tryz.prog 128 #[.int .i64 a,.int .i64 b,.int .i64 c,.int .i64 d] w fun e w'=>e=.returned (.int .i64 (QG a b c d))/\Ext w w':=by
 have s1:=Uo a b;have s2:=Uo c d;have HC:Hid (QG a b c d=if WF a b<WF c d then -1 else if WF c d<WF a b then 1 else WF a b*Zct (a*b) (c*d)):=rfl;have HO:-1<=Zct (a*b) (c*d)/\Zct (a*b) (c*d)<=1:=by unfold Zct;split<;>(try split)<;>omega
 have P1:=J3 a b;have P2:=J3 c d;have M1:=Un ha.1 ha.2 hb.1 hb.2;have M2:=Un hc.1 hc.2 hd.1 hd.2;generalize QG a b c d=res at *;generalize WF a b=s at *;generalize WF c d=t at *;generalize a*b=p at *;generalize c*d=q at *;replace P1:=Hd P1;replace P2:=Hd P2;have O1:=Hd (Zf4 p q);generalize Zct p q=r at *;go_enter Tryz.func128,Tryz.ntmps128;go_wp2_with (fail);refine(P1.out _ ha.1 ha.2 hb.1 hb.2).mono ?_;rintro e w1 ⟨rfl,x1⟩;go_wp2_with (fail);refine(P2.out _ hc.1 hc.2 hd.1 hd.2).mono ?_;rintro e w2 ⟨rfl,x2⟩;have B1:Blk (w1.alloc (.cells #[.int .u64 0,.int .u64 p] 218)) w1.heap.size 218 #[.int .u64 0,.int .u64 p]:=.new rfl;have B2:=Hd (B1.ext x2);have c0:=B2.out.c0;have c1:=B2.out.c1;have lt1:w1.heap.size<w2.heap.size:=B2.out.lt;have X2:Ext w w2:=Ext.tr (Ext.tr x1 ((Ext.rf _).alloc _)) x2;clear B1;rcases s1 with rfl | rfl
 ·rcases s2 with rfl | rfl
  ·go_wp2_with (fail)
   refine(O1.out _).mono ?_;rintro e w3 ⟨rfl,x3⟩;go_wp2;go_ret;exact⟨ZM (by rw[HC.out];simp),Ext.tr (a:=w) (by(repeat (first | assumption | exact Ext.rf _ | apply Ext.drew | apply Ext.drewN | apply Ext.alloc))) x3⟩
  ·go_wp2_with (fail)
   go_ret;exact⟨ZM (by rw[HC.out];simp),by(repeat (first | assumption | exact Ext.rf _ | apply Ext.drew | apply Ext.drewN | apply Ext.alloc))⟩
 ·rcases s2 with rfl | rfl
  ·go_wp2_with (fail)
   go_ret;exact⟨ZM (by rw[HC.out];simp),by(repeat (first | assumption | exact Ext.rf _ | apply Ext.drew | apply Ext.drewN | apply Ext.alloc))⟩
  ·go_wp2_with (fail)
   refine(O1.out _).mono ?_;rintro e w3 ⟨rfl,x3⟩;go_wp2;go_ret;exact⟨ZM (by rw[HC.out];simp),Ext.tr (a:=w) (by(repeat (first | assumption | exact Ext.rf _ | apply Ext.drew | apply Ext.drewN | apply Ext.alloc))) x3⟩
def nl (l:List Nat) : List Int:=l.map fun n:Nat=>(n:Int)
theorem Zcu (l:List Nat) : (nl l).length=l.length:=by simp[nl]
theorem Zcv {l:List Nat}{k n:Nat}(h:l[k]?=some n) : (nl l)[k]?=some (n:Int):=by simp[nl,h]
section
variable {ops:Array Oper} {i:Nat} {t:TypeId} {d:Option Tmp} {a:Act} {w:World} {K:Act->World->Prop} {Q:Exit->Act->World->Prop}
end
theorem RdI.mod {S:Nat->Prop}{w w':World}{A:Option Addr}{xs:List Int}(h:RdI w A xs)(k:Mod S w w')(hb:∀ b,bl A=some b->¬S b) : RdI w' A xs:=by
 rcases h with rfl | ⟨b,off,rfl,hlt,hc⟩
 ·exact .inl rfl
 ·refine .inr ⟨b,off,rfl,Nat.lt_of_lt_of_le hlt k.size,fun j x hj=>?_⟩
  rw[<-hc j x hj];exact World.cell?_of_block (k.block b hlt (hb b rfl))
end Go.Proofs.YtmojhhlcocjoaaaGreatDoor
namespace Go.Proofs.YtmojhhlcocjoaaaGreatDoor
open Go.RowKit Go.ChangeShapes Go.WideShapes Go.ChangeAt Go.Deep
section
variable {w w2:World} {base g pn pc wc vc hc c':Nat} {cap x:Int} {PA WA VA HA A':Option Addr} {ws vs bs:List Int}
end
def Zhi (vs:List Int)(k:Nat) : List Int:=(List.range (vs.length+1)).map fun i=>if i<k then 0 else Zj (vs.drop i)
theorem Zf6 (vs:List Int)(k:Nat) : (Zhi vs k).length=vs.length+1:=by simp[Zhi]
theorem Zih {vs:List Int}(h:Small31 vs)(k:Nat) : 0<=Zj (vs.drop k)/\Zj (vs.drop k)<=2147483647*vs.length:=by
 have key:∀ l:List Int,(∀ x∈l,0<=x/\x<=2147483647)->0<=Zj l/\Zj l<=2147483647*l.length:=by
  intro l
  induction l with
  | nil=>intro _;simp[Zj]
  | cons x l ih =>
   intro hl;have h1:=hl x (by simp);have h2:=ih fun y hy=>hl y (by simp[hy])
   simp only[Zj,List.length_cons,Int.natCast_add,Int.natCast_one];omega
 have h1:=key (vs.drop k) fun x hx=>h x (List.mem_of_mem_drop hx)
 have h2:(vs.drop k).length<=vs.length:=by simp
 omega
theorem Yb (l:List Nat)(v:List Int) : (Zx l v).length=l.length:=by simp[Zx]
theorem Q6 {l:List Nat}{k n:Nat}{v:List Int}{x:Int}(h:l[k]?=some n)(hx:v[n]?=some x) : Zx (l.take (k+1)) v=Zx (l.take k) v++[x]:=by
 obtain⟨hk,h⟩:=List.getElem?_eq_some_iff.1 h;unfold Zx;rw[List.take_succ_eq_append_getElem hk,List.map_append,h];simp[List.getD,hx]
theorem WZ {l:List Nat}{k n:Nat}{v:List Int}{x:Int}(h:l[k]?=some n)(hx:v[n]?=some x) : (Zx l v)[k]?=some x:=by
 unfold Zx;rw[List.getElem?_map,h];simp[List.getD,hx]
end Go.Proofs.YtmojhhlcocjoaaaGreatDoor
namespace Go.Proofs.YtmojhhlcocjoaaaGreatDoor
open Go.RowKit Go.ChangeShapes Go.WideShapes Go.ChangeAt Go.Deep
structure KOk (cap:Int)(l:List Nat)(ws vs bs:List Int) : Prop where
 cap:0<=cap/\cap<=2147483647
 l64:l.length<=64
 lw:ws.length=l.length
 lv:vs.length=l.length
 lb:bs.length=l.length+1
 sw:Small31 ws
 sv:Small31 vs
theorem Zf7 (x y:Int)(w:World)(hx:0<=x)(hx':x<=4611686014132420609)(hy:1<=y)(hy':y<=2147483647) :
  Calls Tryz.prog 256 #[.int .u64 0,.int .u64 x,.int .u64 y] w fun e w'=>e=.returned (.tuple #[.int .u64 (x / y),.int .u64 (x%y)])/\Ext w w':=by
 have y0:(y==0)=false:=by rw[beq_eq_false_iff_ne];omega
 have y1:decide (y<=0)=false:=by simp;omega
 go_enter Tryz.func256,Tryz.ntmps256;go_wp2_with (go_quiet (fail));go_ret2;exact⟨rfl,by(repeat (first | assumption | exact Ext.rf _ | apply Ext.drew | apply Ext.drewN | apply Ext.alloc))⟩
theorem Zhj (a b c:Int)(w:World)(ha:0<=a/\a<=2147483647)(hb:0<=b/\b<=2147483647)(hc:1<=c/\c<=2147483647) :
  Calls Tryz.prog 255 #[.int .i64 a,.int .i64 b,.int .i64 c] w fun e w'=>e=.returned (.tuple #[.int .i64 (a*b / c),.bool true])/\Ext w w':=by
 obtain⟨ha,ha'⟩:=ha;obtain⟨hb,hb'⟩:=hb;obtain⟨hc,hc'⟩:=hc;have hm:=Un ha ha' hb hb';have wa:IntKind.u64.wrap a=a:=wraps_u64 _ ha (by omega);have wb:IntKind.u64.wrap b=b:=wraps_u64 _ hb (by omega);have wc:IntKind.u64.wrap c=c:=wraps_u64 _ (by omega) (by omega);have M:=ZbJ a b;have D:=Zf7 (a*b) c;have hq:0<=a*b / c/\a*b / c<=4611686014132420609:=by
  refine⟨Int.ediv_nonneg hm.1 (by omega),?_⟩;have:=Int.ediv_le_self c hm.1;omega
 have na:decide (a<0)=false:=by simpa using ha
 have nb:decide (b<0)=false:=by simpa using hb
 have nc:decide (c<=0)=false:=by simp;omega
 generalize a*b=p at *;generalize p / c=q at *;generalize p%c=r at *;obtain⟨hm1,hm2⟩:=hm;obtain⟨hq1,hq2⟩:=hq;have wq:IntKind.i64.wrap q=q:=IntWalk.i64_in _ (by omega);have hcc:decide (c<=0)=false:=nc;have ng:¬(9223372036854775807<q):=by omega
 replace M:=Hd M;replace D:=Hd D;go_enter Tryz.func255,Tryz.ntmps255;go_wp2_with (fail);refine(M.out _ ha ha' hb hb').mono ?_;rintro e w1 ⟨rfl,x1⟩;go_wp2_with (fail);refine(D.out _ hm1 hm2 hc hc').mono ?_;rintro e w2 ⟨rfl,x2⟩;go_wp2;go_ret2;exact⟨rfl,Ext.tr x1 x2⟩
def Zds (ks:List Int)(err:Int)(w:World)(e:Ending)(w':World) : Prop:=∃ A c,e=.returned (.tuple #[.slice A ks.length c,.int .i64 err])/\RdI w' A ks/\ks.length<=c/\c<=9223372036854775807/\Ext w w'
def Q7 (b:Int×Int) : Value:=.tuple #[.int .i64 b.1,.int .i64 b.2]
theorem ZbK (i:InstP)(us:List Value)(P:Option Addr)(c:Nat)(x:List Int)(w:World)(H:RInst w us i)(hc:Zh i=0)(hk:i.kind=1)(hP:RdI w P x)(lx:(x.length:Int)=i.n)(h01:∀ v∈x,v=0\/v=1) :
  Calls Tryz.prog 27 #[.agg (List.toArray us),.slice P x.length c] w fun e w'=>e=.returned (Q7 (QV i.cap i.weight i.value x))/\Ext w w':=by
 have CH:=fun(W:World) (x:Ext w W)=>YW i us W (H.ext x)
 rw[hc] at CH;have ok:=ZR hc hk;have k1:=ok.n1;have k2:=ok.n2;have k3:=ok.w;have k4:=ok.v;have k5:=ok.cap;have k6:=Hd ok.sw;have k7:=Hd ok.sv;clear ok hc;obtain⟨kind,nn,cap,xw,xv,co⟩:=i;obtain⟨A,a,B,b,D,d,rfl,⟨rA,iA,lA,mA⟩,⟨rB,iB,lB,mB⟩,-⟩:=H;simp only at *;subst hk;obtain⟨n,rfl⟩:∃ n:Nat,nn=(n:Int):=⟨nn.toNat,by omega⟩;have lxn:x.length=n:=by omega
 have lwn:xw.length=n:=by omega
 have lvn:xv.length=n:=by omega
 have hn2:n<=64:=by omega
 replace lwn:=Hd lwn;replace lvn:=Hd lvn;replace lxn:=Hd lxn;clear lx k3 k4;have W1:∀ k v u,x[k]?=some v->xw[k]?=some u->Zr (x.take (k+1)) xw=Zr (x.take k) xw+if v=1 then u else 0:=fun k v u h1 h2=>YV _ k x xw h1 h2
 have V1:∀ k v u,x[k]?=some v->xv[k]?=some u->ZE (x.take (k+1)) xv=ZE (x.take k) xv+if v=1 then 0 else u:=fun k v u h1 h2=>YV _ k x xv h1 h2
 replace W1:=Hd W1;replace V1:=Hd V1;replace CH:=Hd CH;replace rA:=Hd rA;replace rB:=Hd rB;replace hP:=Hd hP;replace mA:=Hd mA;replace mB:=Hd mB;replace iA:=Hd iA;replace iB:=Hd iB;replace h01:=Hd h01;have B1:Hid (Blk (w.alloc (.cells #[.int .i64 1,.int .i64 n,.int .i64 cap,.slice A xw.length a,.slice B xv.length b,.slice D co.length d] 25)) w.heap.size 25 #[.int .i64 1,.int .i64 n,.int .i64 cap,.slice A xw.length a,.slice B xv.length b,.slice D co.length d]):=.new rfl;have lz:=List.take_length (l:=x);have bW:∀ k,k<=n->0<=Zr (x.take k) xw/\Zr (x.take k) xw<=2147483647*(k:Int):=by
  intro k
  induction k with
  | zero=>intro _;simp[Zr,Zj]
  | succ k ih =>
   intro hk;have h0:=ih (by omega);have h8:k<x.length:=by rw[lxn.out];omega
   have e1:x[k]?=some x[k]:=List.getElem?_eq_getElem h8;have h9:k<xw.length:=by rw[lwn.out];omega
   have e2:xw[k]?=some xw[k]:=List.getElem?_eq_getElem h9;have h1:=W1.out k _ _ e1 e2;have h2:=k6.out.get e2;rw[h1];split<;>omega
 have bV:∀ k,k<=n->0<=ZE (x.take k) xv/\ZE (x.take k) xv<=2147483647*(k:Int):=by
  intro k
  induction k with
  | zero=>intro _;simp[ZE,Zj]
  | succ k ih =>
   intro hk;have h0:=ih (by omega);have h8:k<x.length:=by rw[lxn.out];omega
   have e1:x[k]?=some x[k]:=List.getElem?_eq_getElem h8;have h9:k<xv.length:=by rw[lvn.out];omega
   have e2:xv[k]?=some xv[k]:=List.getElem?_eq_getElem h9;have h1:=V1.out k _ _ e1 e2;have h2:=k7.out.get e2;rw[h1];split<;>omega
 replace bW:=Hd bW;replace bV:=Hd bV;obtain⟨cc,hcc⟩:∃ cc,Hid (QV cap xw xv x=cc):=⟨_,rfl⟩;have HC:Hid (cc=if cap<Zr (x.take n) xw then(0,9) else(ZE (x.take n) xv,0)):=Hd (by
  rw[<-hcc.out,<-lxn.out,lz]
  rfl)
 rw[hcc.out];clear hcc lz;go_enter Tryz.func27,Tryz.ntmps27;go_wp2_with (fail);refine(CH.out _ (by(repeat (first | assumption | exact Ext.rf _ | apply Ext.drew | apply Ext.drewN | apply Ext.alloc)))).mono ?_;rintro e w1 ⟨rfl,x1⟩;have X1:=Hd (Ext.tr (a:=w) (by(repeat (first | assumption | exact Ext.rf _ | apply Ext.drew | apply Ext.drewN | apply Ext.alloc))) x1);have BB:=Hd (B1.out.ext x1);have d0:=BB.out.c0;have d1:=BB.out.c1;have zb:=BB.out.lt;clear x1;have exn:(x.length:Int)=(n:Int):=by rw[lxn.out]
 have d2:=BB.out.c2;have d3:=BB.out.c3;have d4:=BB.out.c4;go_wp2_with (fail);go_loopw [9,10,11] (fun a b i wr=>∃ k:Nat,i=.int .i64 k/\a=.int .i64 (Zr (x.take k) xw)/\b=.int .i64 (ZE (x.take k) xv)/\k<=n/\Ext w1 wr) (fun _ _ i _=>n-(intOf i).toNat)
 case atStart=>exact⟨0,rfl,rfl,rfl,by omega,Ext.rf _⟩
 case round =>
  obtain⟨wo,rfl⟩:∃ wo:World,wo=wr:=⟨_,rfl⟩;obtain⟨k,rfl,rfl,rfl,hk,Y⟩:=hrel;have e1:=Zc Y zb d1;have e2:=Zc Y zb d2;have e3:=Zc Y zb d3;have e4:=Zc Y zb d4;obtain⟨tw1,tw2⟩:=bW.out k hk;obtain⟨tv1,tv2⟩:=bV.out k hk
  by_cases hlt:k<n
  ·obtain⟨pb,po,y,rfl,zy,cy,ey,_⟩:=(hP.out.ext (X1.out.tr Y)).at (k:=k) (by rw[lxn.out];exact hlt)
   obtain⟨ab,ao,u,rfl,zu,cu,eu,_⟩:=(rA.out.ext (X1.out.tr Y)).at (k:=k) (by rw[lwn.out];exact hlt);obtain⟨vb,vo,v,rfl,zv,cv,ev,_⟩:=(rB.out.ext (X1.out.tr Y)).at (k:=k) (by rw[lvn.out];exact hlt);have sW:=Hd (W1.out k y u ey.out eu.out);have sV:=Hd (V1.out k y v ey.out ev.out);have bu:=k6.out.get eu.out;have bv:=k7.out.get ev.out;have q1:(k:Int)<(x.length:Int):=by omega
   have q2:(k:Int)<(xw.length:Int):=by rw[lwn.out];omega
   have q3:(k:Int)<(xv.length:Int):=by rw[lvn.out];omega
   have hy:=h01.out y (List.mem_of_getElem? ey.out);obtain⟨tw,htw⟩:∃ tw,tw=Zr (x.take k) xw:=⟨_,rfl⟩;obtain⟨tv,htv⟩:∃ tv,tv=ZE (x.take k) xv:=⟨_,rfl⟩;rw[<-htw] at tw1 tw2 sW ⊢;rw[<-htv] at tv1 tv2 sV ⊢;clear ey eu ev htw htv e2
   by_cases y1:y=1
   ·subst y1
    have sW2:Hid (Zr (x.take (k+1)) xw=tw+u):=by
     have h:=sW.out;rw[if_pos rfl] at h;exact h
    have sV2:Hid (ZE (x.take (k+1)) xv=tv):=by
     have h:=sV.out;rw[if_pos rfl,Int.add_zero] at h;exact h
    clear sW sV hy;have w1':IntKind.i64.wrap (tw+u)=tw+u:=IntWalk.i64_in _ (by omega);go_wp2_with (go_quiet (fail));go_roundw
    case rel=>exact⟨k+1,by go_num,by rw[sW2.out],by rw[sV2.out],by omega,by repeat (first | exact Y | apply Ext.drewN)⟩
    case measure=>simp[intOf];omega
   ·obtain rfl:y=0:=by omega
    have sW2:Hid (Zr (x.take (k+1)) xw=tw):=by
     have h:=sW.out;rw[if_neg (by decide),Int.add_zero] at h;exact h
    have sV2:Hid (ZE (x.take (k+1)) xv=tv+v):=by
     have h:=sV.out;rw[if_neg (by decide)] at h;exact h
    clear sW sV hy y1;have w1':IntKind.i64.wrap (tv+v)=tv+v:=IntWalk.i64_in _ (by omega);go_wp2_with (go_quiet (fail));go_roundw
    case rel=>exact⟨k+1,by go_num,by rw[sW2.out],by rw[sV2.out],by omega,by repeat (first | exact Y | apply Ext.drewN)⟩
    case measure=>simp[intOf];omega
  ·obtain rfl:k=n:=by omega
   obtain⟨tw,htw⟩:∃ tw,tw=Zr (x.take k) xw:=⟨_,rfl⟩;obtain⟨tv,htv⟩:∃ tv,tv=ZE (x.take k) xv:=⟨_,rfl⟩;rw[<-htw] at tw1 tw2 HC ⊢;rw[<-htv] at tv1 tv2 HC ⊢;clear htw htv e3 e4
   by_cases hcap:cap<tw
   ·have hb:decide (cap<tw)=true:=decide_eq_true hcap
    have HC2:Hid (cc=(0,9)):=by
     have h:=HC.out;rw[if_pos hcap] at h;exact h
    clear HC hcap;go_wp2_with (fail);go_ret2;rw[HC2.out];exact⟨rfl,X1.out.tr Y⟩
   ·have hb:decide (cap<tw)=false:=decide_eq_false hcap
    have HC2:Hid (cc=(tv,0)):=by
     have h:=HC.out;rw[if_neg hcap] at h;exact h
    clear HC hcap;go_wp2_with (fail);go_ret2;rw[HC2.out];exact⟨rfl,X1.out.tr Y⟩
end Go.Proofs.YtmojhhlcocjoaaaGreatDoor
