/-
  Package cert: like, Check.
-/
import Derived.Test.YtcilaocknhphnaaGreatZgCLike
namespace Go.Proofs.YtcilaocknhphnaaGreat
open Go.RowKit Go.Maps
theorem zki (w:World) (a:Nat) (z:Int) (hz:z=(a:Nat)):YA (w.alloc (.cells #[.int .i64 z] 3)) (.slice (some ⟨w.heap.size,0,none⟩) 1 1) (fun k=>k=w.heap.size) (zhK [a]):=by
 subst hz;exact zkR w a
theorem zkP (w:World) (a b:Nat) (y z:Int) (hy:y=(a:Nat)) (hz:z=(b:Nat)):YA (w.alloc (.cells #[.int .i64 y,.int .i64 z] 3)) (.slice (some ⟨w.heap.size,0,none⟩) 2 2) (fun k=>k=w.heap.size) (zhK [a,b]):=by
 subst hy hz;exact zkQ w a b
theorem zhv (w:World) (s:ByteArray) (k:Nat) (z:Int) (hz:z=(k:Nat)) (hs:s.size<=maxLen) (hk:k < zI s.data.toList):Calls Tryz.prog 248 #[.string s,.int .i64 z] w fun e w'=>e=.returned (.int .u16 (zL s.data.toList k:Nat))∧Chg (fun _=>False) w w':=by
 subst hz;exact ziU w s k hs hk
theorem zim (w:World) (a k:Nat) (z:Int) (hz:z=(k:Nat)) (ha:a < 65536):Calls Tryz.prog 258 #[.int .u16 (a:Nat),.slice (some ⟨w.heap.size,0,none⟩) 1 1] (w.alloc (.cells #[.int .i64 z] 3)) fun e w'=>e=.returned (.bool (decide (a / 8192=k)))∧(w.alloc (.cells #[.int .i64 z] 3))=w':=by
 have:=zeN _ a _ _ [k] ha (zki w k z hz);rwa [show decide (a / 8192∈[k])=decide (a / 8192=k) from by simp] at this
theorem zdk (w:World) (s:ByteArray) (k:Nat) (z:Int) (hz:z=(k:Nat)) (hs:s.size<=maxLen):Calls Tryz.prog 300 #[.string s,.slice (some ⟨w.heap.size,0,none⟩) 1 1] (w.alloc (.cells #[.int .i64 z] 3)) fun e w'=>e=.returned (.bool (Zi s [k]))∧Chg (fun _=>False) w w':=
 (zdj _ s _ _ [k] hs (zki w k z hz)).mono fun _ _ ⟨he,hc⟩=>⟨he,(zi _ _ _).trans hc⟩
theorem zkA (w:World) (s:ByteArray) (hs:s.size<=maxLen):Calls Tryz.prog 300 #[.string s,.slice (some ⟨w.heap.size,0,none⟩) 2 2] (w.alloc (.cells #[.int .i64 1,.int .i64 2] 3)) fun e w'=>e=.returned (.bool (Zi s [1,2]))∧Chg (fun _=>False) w w':=
 (zdj _ s _ _ [1,2] hs (zkP w 1 2 1 2 rfl rfl)).mono fun _ _ ⟨he,hc⟩=>⟨he,(zi _ _ _).trans hc⟩
def zjq (sp u:ByteArray) (sg:Nat) (kind:Int):Bool:=
 if kind=1 then Zi sp [1] && (decide (zI u.data.toList=2) && (decide (zL u.data.toList 0 / 8192=3) && decide (zL u.data.toList 1 / 8192=5)))
 else if kind=2 then Zi sp [1] && decide (u=ZL sg)
 else if kind=3 then Zi sp [2]
 else if kind=4 then Zi sp [3] && Zi u [4]
 else if kind=5 then Zi sp [1,2] && (decide (2<=zI u.data.toList) && decide (zL u.data.toList (zI u.data.toList - 1) / 8192=5))
 else false
set_option maxHeartbeats 8000000 in
set_option maxRecDepth 100000 in
theorem zif (w:World) (c:zF) (sa:Option Addr) (sc:Nat) (G:Nat->Prop) (h:ZW w (.slice sa c.fr.length sc) G c) (hm:ZZ c.sp.data.toList=true) (hfr:xw c.fr=true):
  Calls Tryz.prog 260 #[Zn c (.slice sa c.fr.length sc)] w fun e w'=>e=.returned (.bool (Xl c))∧Chg (fun _=>False) w w':=by
 have hfl:1<=c.fr.length∧c.fr.length<=16:=by
  obtain ⟨q1,q2,_⟩:=of_decide_eq_true hfr;rw [zU] at q1 q2;exact ⟨q1,q2⟩
 have k0:=zi (fun _=>False) w (.cells #[.int .i64 c.kind,.int .u16 (c.sg:Int),.string c.sp,.slice sa c.fr.length sc,.int .i64 c.f,.int .i64 c.t,.int .i64 c.n] 103);have OB:=zf (zh w (.cells #[.int .i64 c.kind,.int .u16 (c.sg:Int),.string c.sp,.slice sa c.fr.length sc,.int .i64 c.f,.int .i64 c.t,.int .i64 c.n] 103));have K0:=zf k0;have DG:=zf (zc9 _ c sa sc G (h.chg k0 (fun _ _ e=>e)) hm hfl.2);have HS:=zf (h.set.chg k0 (fun _ _ e=>e)).at_;have hsp:=(Zq hm).1;have hsg:=h.sg;have R:=zf (show Xl c=if c.kind=6 then true else if c.kind=7 then zeR c else match c.fr with | [u]=>zjq c.sp u c.sg c.kind | _=>false from rfl);generalize Xl c=res at *;generalize hdb:zeR c=db at *;obtain ⟨kind,sg,sp,fr,f,t,n⟩:=c;unfold Zn at DG ⊢;simp only at OB K0 HS hsp hsg R DG hfl ⊢;clear h hm k0 hfr hdb;have p0:=zg (o:=0) OB.out rfl;have p1:=zg (o:=1) OB.out rfl;have p2:=zg (o:=2) OB.out rfl;have p3:=zg (o:=3) OB.out rfl;have p4:=zg (o:=4) OB.out rfl;have p5:=zg (o:=5) OB.out rfl;have p6:=zg (o:=6) OB.out rfl;go_enter Tryz.func260,Tryz.ntmps260;by_cases h6:kind=6
 ·subst h6
  rw [if_pos rfl] at R;go_wp2;go_ret;exact ⟨by rw [R.out];rfl,K0.out⟩
 rw [if_neg h6] at R;have e6:(kind == 6)=false:=zlI.2 h6;by_cases h7:kind=7
 ·subst h7
  rw [if_pos rfl] at R;clear h6;go_wp2_with fail;(with_reducible refine DG.out.mono ?_);rintro e w2 ⟨rfl,k2⟩;go_wp2;go_ret;exact ⟨by rw [R.out];rfl,K0.out.trans k2⟩
 rw [if_neg h7] at R;have e7:(kind == 7)=false:=zlI.2 h7;clear DG h6 h7;by_cases h1:fr.length=1
 ·obtain ⟨u,rfl⟩:=List.length_eq_one_iff.1 h1
  have R:=zf (show res=zjq sp u sg kind from R.out);obtain ⟨_,_,eqn,_,hcl⟩:=HS.out;cases eqn;obtain ⟨lb,lo,rfl,_,c0,hus⟩:=hcl 0 u rfl;simp only [Nat.add_zero] at c0;simp only [List.length_cons,List.length_nil,Nat.zero_add] at OB K0 p0 p1 p2 p3 p4 p5 p6 c0 ⊢;have HC:=zf c0;clear hcl h1 hfl HS;have WL:=zf (fun w=>yf w u hus);have HUS:=zf hus;clear hus;go_wp2_with fail;generalize hw0:w.alloc (.cells #[.int .i64 kind,.int .u16 (sg:Int),.string sp,.slice (some ⟨lb,lo,none⟩) 1 sc,.int .i64 f,.int .i64 t,.int .i64 n] 103)=w0 at *;clear hw0;(with_reducible refine (WL.out w0).mono ?_);rintro e w1 ⟨rfl,rfl⟩;have OC:=zf (fun w1 (k:Chg (fun _=>False) w0 w1)=>k.obj (fun e=>e) OB.out);have hu2:u.size<=maxLen:=HUS.out;by_cases k1:kind=1
  ·subst k1
   have R1:=zf (show res=(Zi sp [1] && (decide (zI u.data.toList=2) && (decide (zL u.data.toList 0 / 8192=3) && decide (zL u.data.toList 1 / 8192=5)))) from R.out);have A1:=zf (zdk w0 sp 1 1 rfl (by unfold maxLen;omega));clear R e6 e7;generalize Zi sp [1]=b1 at *;go_wp2_with fail;(with_reducible refine A1.out.mono ?_);rintro e w2 ⟨rfl,k2⟩;have K2:=zf (K0.out.trans k2);clear k2 A1;cases b1 with
   | false=>
    have RF:=zf (show res=false from by rw [R1.out];rfl);go_wp2;go_ret;exact ⟨by rw [RF.out];rfl,K2.out⟩
   | true=>
    by_cases n2:zI u.data.toList=2
    ·have e2:((zI u.data.toList:Int) == 2)=true:=beq_iff_eq.2 (by omega)
     rw [Bool.true_and,zlx n2,Bool.true_and] at R1;have T0:=zf (zhv w2 u 0 0 rfl hu2 (by omega));have T1:=zf (fun w=>zhv w u 1 1 rfl hu2 (by omega));have h0:=ye u.data.toList 0;have h1':=ye u.data.toList 1;clear n2;generalize zL u.data.toList 0=a0 at *;generalize zL u.data.toList 1=a1 at *;go_wp2_with fail;(with_reducible refine T0.out.mono ?_);rintro e w3 ⟨rfl,k3⟩;have K3:=zf (K2.out.trans k3);have I3:=zf (zim w3 a0 3 3 rfl h0);clear k3 T0 K2;generalize decide (a0 / 8192=3)=b2 at *;go_wp2_with fail;(with_reducible refine I3.out.mono ?_);rintro e w4 ⟨rfl,rfl⟩;have K4:=zf (K3.out.alloc (.cells #[.int .i64 3] 3));clear I3;cases b2 with
     | false=>
      have RF:=zf (show res=false from by rw [R1.out];rfl);go_wp2;go_ret;exact ⟨by rw [RF.out];rfl,K4.out⟩
     | true=>
      rw [Bool.true_and] at R1;have T2:=zf (T1.out (w3.alloc (.cells #[.int .i64 3] 3)));clear T1 K3;go_wp2_with fail;(with_reducible refine T2.out.mono ?_);rintro e w5 ⟨rfl,k5⟩;have K5:=zf (K4.out.trans k5);have I5:=zf (zim w5 a1 5 5 rfl h1');clear k5 T2 K4;generalize decide (a1 / 8192=5)=b3 at *;go_wp2_with fail;(with_reducible refine I5.out.mono ?_);rintro e w6 ⟨rfl,rfl⟩;go_wp2;go_ret;exact ⟨by rw [R1.out];rfl,K5.out.alloc (.cells #[.int .i64 5] 3)⟩
    ·have e2:((zI u.data.toList:Int) == 2)=false:=zlI.2 (by omega)
     have RF:=zf (show res=false from by rw [R1.out,zly n2];rfl);clear n2;go_wp2;go_ret;exact ⟨by rw [RF.out];rfl,K2.out⟩
  have f1:(kind == 1)=false:=zlI.2 k1;by_cases k2:kind=2
  ·subst k2
   have R1:=zf (show res=(Zi sp [1] && decide (u=ZL sg)) from R.out);have A1:=zf (zdk w0 sp 1 1 rfl (by unfold maxLen;omega));clear R e6 e7 f1 k1;generalize Zi sp [1]=b1 at *;go_wp2_with fail;(with_reducible refine A1.out.mono ?_);rintro e w2 ⟨rfl,k2⟩;have K2:=zf (K0.out.trans k2);have o2:=OC.out w2 k2;have q1:=zg (o:=1) o2 rfl;clear k2 A1 o2;cases b1 with
   | false=>
    have RF:=zf (show res=false from by rw [R1.out];rfl);go_wp2;go_ret;exact ⟨by rw [RF.out];rfl,K2.out⟩
   | true=>
    rw [Bool.true_and] at R1;have OF:=zf (zah (w2.alloc (.cells #[.int .u16 (sg:Int)] 58)) w2.heap.size 0 1 sg hsg (zg (zh _ _) rfl));have K3:=zf (K2.out.alloc (.cells #[.int .u16 (sg:Int)] 58));have SE:=XJ u (ZL sg);generalize ZL sg=v at *;rw [<- SE] at R1;clear SE;go_wp2_with fail;(with_reducible refine OF.out.mono ?_);rintro e w4 ⟨rfl,k4⟩;have K4:=zf (K3.out.trans k4);clear k4 OF K3 q1;cases hr:(u.toList == v.toList)
    all_goals
     rw [hr] at R1;go_wp2;go_ret;exact ⟨by rw [R1.out];rfl,K4.out⟩
  have f2:(kind == 2)=false:=zlI.2 k2;by_cases k3:kind=3
  ·subst k3
   have R1:=zf (show res=Zi sp [2] from R.out);have A1:=zf (zdk w0 sp 2 2 rfl (by unfold maxLen;omega));clear R e6 e7 f1 f2 k1 k2;generalize Zi sp [2]=b1 at *;go_wp2_with fail;(with_reducible refine A1.out.mono ?_);rintro e w2 ⟨rfl,k2⟩;go_wp2;go_ret;exact ⟨by rw [R1.out];rfl,K0.out.trans k2⟩
  have f3:(kind == 3)=false:=zlI.2 k3;by_cases k4:kind=4
  ·subst k4
   have R1:=zf (show res=(Zi sp [3] && Zi u [4]) from R.out);have A1:=zf (zdk w0 sp 3 3 rfl (by unfold maxLen;omega));have A2:=zf (fun w=>zdk w u 4 4 rfl hu2);clear R e6 e7 f1 f2 f3 k1 k2 k3;generalize Zi sp [3]=b1 at *;generalize Zi u [4]=b2 at *;go_wp2_with fail;(with_reducible refine A1.out.mono ?_);rintro e w2 ⟨rfl,k2⟩;have K2:=zf (K0.out.trans k2);clear k2 A1;cases b1 with
   | false=>
    have RF:=zf (show res=false from by rw [R1.out];rfl);go_wp2;go_ret;exact ⟨by rw [RF.out];rfl,K2.out⟩
   | true=>
    rw [Bool.true_and] at R1;have A3:=zf (A2.out w2);clear A2;go_wp2_with fail;(with_reducible refine A3.out.mono ?_);rintro e w3 ⟨rfl,k3⟩;go_wp2;go_ret;exact ⟨by rw [R1.out];rfl,K2.out.trans k3⟩
  have f4:(kind == 4)=false:=zlI.2 k4;by_cases k5:kind=5
  ·subst k5
   have R1:=zf (show res=(Zi sp [1,2] && (decide (2<=zI u.data.toList) && decide (zL u.data.toList (zI u.data.toList - 1) / 8192=5))) from R.out);have A1:=zf (zkA w0 sp (by unfold maxLen;omega));clear R e6 e7 f1 f2 f3 f4 k1 k2 k3 k4;generalize Zi sp [1,2]=b1 at *;go_wp2_with fail;(with_reducible refine A1.out.mono ?_);rintro e w2 ⟨rfl,k2⟩;have K2:=zf (K0.out.trans k2);clear k2 A1;cases b1 with
   | false=>
    have RF:=zf (show res=false from by rw [R1.out];rfl);go_wp2;go_ret;exact ⟨by rw [RF.out];rfl,K2.out⟩
   | true=>
    rw [Bool.true_and] at R1;by_cases n2:2<=zI u.data.toList
    ·have e2:decide (2<=(zI u.data.toList:Int))=true:=zlx (by omega)
     have e3:decide ((zI u.data.toList:Int) < 2)=false:=zly (by omega);rw [zlx n2,Bool.true_and] at R1;have hal:zI u.data.toList<=9223372036854775807:=by unfold maxLen at hu2;unfold zI;rw [zz];omega
     have w1:IntKind.i64.wrap ((zI u.data.toList:Int) - 1)=(zI u.data.toList:Int) - 1:=by rw [IntKind.wrap_i64];omega
     have T0:=zf (zhv w2 u (zI u.data.toList - 1) ((zI u.data.toList:Int) - 1) (by omega) hu2 (by omega));have h0:=ye u.data.toList (zI u.data.toList - 1);clear n2;generalize zL u.data.toList (zI u.data.toList - 1)=a0 at *;go_wp2_with fail;(with_reducible refine T0.out.mono ?_);rintro e w3 ⟨rfl,k3⟩;have K3:=zf (K2.out.trans k3);have I3:=zf (zim w3 a0 5 5 rfl h0);clear k3 T0 K2;generalize decide (a0 / 8192=5)=b2 at *;go_wp2_with fail;(with_reducible refine I3.out.mono ?_);rintro e w4 ⟨rfl,rfl⟩;go_wp2;go_ret;exact ⟨by rw [R1.out];rfl,K3.out.alloc (.cells #[.int .i64 5] 3)⟩
    ·have e2:decide (2<=(zI u.data.toList:Int))=false:=zly (by omega)
     have e3:decide ((zI u.data.toList:Int) < 2)=true:=zlx (by omega);have RF:=zf (show res=false from by rw [R1.out,zly n2];rfl);clear n2;go_wp2;go_ret;exact ⟨by rw [RF.out];rfl,K2.out⟩
  have f5:(kind == 5)=false:=zlI.2 k5;have RF:=zf (show res=false from by rw [R.out];unfold zjq;rw [if_neg k1,if_neg k2,if_neg k3,if_neg k4,if_neg k5]);clear k1 k2 k3 k4 k5 R;go_wp2;go_ret;exact ⟨by rw [RF.out];rfl,K0.out⟩
 ·have R2:=zf (show res=false from by
   rw [R.out];rcases fr with _ | ⟨a,_ | ⟨b,r⟩⟩
   ·rfl
   ·exact (h1 rfl).elim
   ·rfl)
  have e1:((fr.length:Int) != 1)=true:=by rw [zlN];omega
  clear h1 R;go_wp2;go_ret;exact ⟨by rw [R2.out];rfl,K0.out⟩
def YO (w:World) (b:Bool) (e:Ending) (w':World):Prop:=(∃ k:Int,e=.returned (.int .i64 k)∧(k=0↔b=true))∧Chg (fun _=>False) w w'
theorem zN {w w':World} {b:Bool} {k:Int} (hk:k≠0) (hb:b=false) (hc:Chg (fun _=>False) w w'):YO w b (.returned (.int .i64 k)) w':=⟨⟨k,rfl,fun e=>(hk e).elim,fun e=>by rw [hb] at e;cases e⟩,hc⟩
theorem zaP {w w':World} {b:Bool} (hb:b=true) (hc:Chg (fun _=>False) w w'):YO w b (.returned (.int .i64 0)) w':=⟨⟨0,rfl,fun _=>hb,fun _=>rfl⟩,hc⟩
set_option maxHeartbeats 8000000 in
set_option maxRecDepth 100000 in
theorem zdb (w:World) (c:zF) (sa:Option Addr) (sc:Nat) (G:Nat->Prop) (h:ZW w (.slice sa c.fr.length sc) G c):
  Calls Tryz.prog 215 #[Zn c (.slice sa c.fr.length sc)] w (YO w (Zj c)):=by
 have k0:=zi (fun _=>False) w (.cells #[.int .i64 c.kind,.int .u16 (c.sg:Int),.string c.sp,.slice sa c.fr.length sc,.int .i64 c.f,.int .i64 c.t,.int .i64 c.n] 103);have OB:=zf (zh w (.cells #[.int .i64 c.kind,.int .u16 (c.sg:Int),.string c.sp,.slice sa c.fr.length sc,.int .i64 c.f,.int .i64 c.t,.int .i64 c.n] 103));have K0:=zf k0;have H0:=zf (h.chg k0 (fun _ _ e=>e));have LK:=zf (fun w1 (k:Chg (fun _=>False) w w1) (hm:ZZ c.sp.data.toList=true) (hf:xw c.fr=true)=>zif w1 c sa sc G (h.chg k (fun _ _ e=>e)) hm hf);have hsp:=h.sp;have hsg:=h.sg;have R:=zf (show Zj c=(decide (1<=c.kind∧c.kind<=7) && (zd9 c && (decide (c.f<=c.t) && (decide (∀ w∈c.fr,zI c.sp.data.toList<=zI w.data.toList) && Xl c)))) from rfl);have FB:=zf (show zd9 c=(decide (c.sg / 8192=1) && (ZZ c.sp.data.toList && (xw c.fr && (XN c.f && (XN c.t && XN c.n))))) from rfl);generalize Zj c=res at *;generalize zd9 c=fb at *;generalize hlb:Xl c=lb at *;obtain ⟨_,scap',eqn,hl0,_⟩:=h.set.at_;cases eqn;obtain ⟨kind,sg,sp,fr,f,t,n⟩:=c;unfold Zn at LK ⊢;simp only at OB K0 H0 hsp hsg R FB LK hl0 ⊢;unfold maxLen at hl0;clear h k0 hlb;have p0:=zg (o:=0) OB.out rfl;go_enter Tryz.func215,Tryz.ntmps215;by_cases k1:kind < 1
 ·have e1:decide (kind < 1)=true:=zlx k1
  have RF:=zf (show res=false from by rw [R.out,zly (fun q=>by omega)];rfl);clear k1;go_wp2;go_ret;exact zN (by decide) RF.out K0.out
 have e1:decide (kind < 1)=false:=zly k1;by_cases k7:7 < kind
 ·have e2:decide (7 < kind)=true:=zlx k7
  have RF:=zf (show res=false from by rw [R.out,zly (fun q=>by omega)];rfl);clear k1 k7;go_wp2;go_ret;exact zN (by decide) RF.out K0.out
 have e2:decide (7 < kind)=false:=zly k7;have R:=zf (show res=(fb && (decide (f<=t) && (decide (∀ w∈fr,zI sp.data.toList<=zI w.data.toList) && lb))) from by rw [R.out,zlx ⟨by omega,by omega⟩];rfl);clear k1 k7;have P:=zf (fun w1 (k:Chg (fun _=>False) (w.alloc (.cells #[.int .i64 kind,.int .u16 (sg:Int),.string sp,.slice sa fr.length sc,.int .i64 f,.int .i64 t,.int .i64 n] 103)) w1)=>k.obj (fun e=>e) OB.out);have p1:=zg (o:=1) OB.out rfl;have I1:=zf (zim (w.alloc (.cells #[.int .i64 kind,.int .u16 (sg:Int),.string sp,.slice sa fr.length sc,.int .i64 f,.int .i64 t,.int .i64 n] 103)) sg 1 1 rfl hsg);have I1:=I1.out;simp only [zlH] at I1;have I1:=zf I1;generalize decide (sg / 8192=1)=b1 at *;go_wp2_with fail;generalize hw0:w.alloc (.cells #[.int .i64 kind,.int .u16 (sg:Int),.string sp,.slice sa fr.length sc,.int .i64 f,.int .i64 t,.int .i64 n] 103)=w0 at *;clear hw0 p0 p1;(with_reducible refine I1.out.mono ?_);rintro e w1 ⟨rfl,rfl⟩;have k1:=zi (fun _=>False) w0 (.cells #[.int .i64 1] 3);have K1:=zf (K0.out.trans k1);have Q1:=zf k1;have o1:=P.out _ k1;have q2:=zg (o:=2) o1 rfl;clear o1 k1 I1;cases b1 with
 | false=>
  have RF:=zf (show res=false from by rw [R.out,FB.out];rfl);go_wp2;go_ret;exact zN (by decide) RF.out K1.out
 | true=>
 rw [Bool.true_and] at FB;have MY:=zf (xg (w0.alloc (.cells #[.int .i64 1] 3)) sp hsp);generalize hmy:ZZ sp.data.toList=b2 at *;go_wp2_with fail;(with_reducible refine MY.out.mono ?_);rintro e w2 ⟨rfl,k2⟩;have K2:=zf (K1.out.trans k2);have Q2:=zf (Q1.out.trans k2);have o2:=P.out _ Q2.out;have q3:=zg (o:=3) o2 rfl;clear o2 k2 K1 Q1 MY q2;cases b2 with
 | false=>
  have RF:=zf (show res=false from by rw [R.out,FB.out];rfl);go_wp2;go_ret;exact zN (by decide) RF.out K2.out
 | true=>
 rw [Bool.true_and] at FB;have SM:=zf (Yt w2 _ G fr (H0.out.set.chg Q2.out (fun _ _ e=>e)).at_);generalize hst:xw fr=b3 at *;go_wp2_with fail;(with_reducible refine SM.out.mono ?_);rintro e w3 ⟨rfl,d3⟩;have k3:Chg (fun _=>False) w2 w3:=d3.chg;have K3:=zf (K2.out.trans k3);have Q3:=zf (Q2.out.trans k3);have o3:=P.out _ Q3.out;have q4:=zg (o:=4) o3 rfl;have q5:=zg (o:=5) o3 rfl;have q6:=zg (o:=6) o3 rfl;clear o3 k3 d3 K2 Q2 SM q3;cases b3 with
 | false=>
  have RF:=zf (show res=false from by rw [R.out,FB.out];rfl);go_wp2;go_ret;exact zN (by decide) RF.out K3.out
 | true=>
 rw [Bool.true_and] at FB;have NU:=zjp (w3.alloc (.cells #[.int .i64 f,.int .i64 t,.int .i64 n] 2)) _ _ [f,t,n] (Xx w3 [f,t,n] 2 (by simp));rw [show [f,t,n].all XN=fb from by rw [FB.out];simp] at NU;change Calls Tryz.prog 259 #[.slice (some ⟨w3.heap.size,0,none⟩) 3 3] (w3.alloc (.cells #[.int .i64 f,.int .i64 t,.int .i64 n] 2)) _ at NU;have NU:=zf NU;have k4:=zi (fun _=>False) w3 (.cells #[.int .i64 f,.int .i64 t,.int .i64 n] 2);have K4:=zf (K3.out.trans k4);have Q4:=zf (Q3.out.trans k4);have o4:=P.out _ Q4.out;have z4:=zg (o:=4) o4 rfl;have z5:=zg (o:=5) o4 rfl;clear o4 k4 FB;go_wp2_with fail;(with_reducible refine NU.out.mono ?_);rintro e w4 ⟨rfl,rfl⟩;clear NU q4 q5 q6 K3 Q3;cases fb with
 | false=>
  have RF:=zf (show res=false from by rw [R.out];rfl);go_wp2;go_ret;exact zN (by decide) RF.out K4.out
 | true=>
 rw [Bool.true_and] at R;by_cases hft:f<=t
 ·rw [zlx hft,Bool.true_and] at R
  have e3:decide (t < f)=false:=zly (by omega);clear hft;generalize w3.alloc (.cells #[.int .i64 f,.int .i64 t,.int .i64 n] 2)=w4 at *;have o4:=P.out _ Q4.out;have y3:=zg (o:=3) o4 rfl;clear o4;go_wp2;go_loopw [49] (fun iv wr=>∃ k:Nat,k<=fr.length∧iv=.int .i64 k∧Hid ((∀ (j:Nat) x,j < k->fr[j]? = some x->zI sp.data.toList<=zI x.data.toList)∧Chg (fun _=>False) w4 wr)) (fun iv _=>fr.length - (intOf iv).toNat)
  case atStart=>exact ⟨0,by omega,rfl,zf ⟨fun j x hj=>by omega,Chg.refl _ _⟩⟩
  case round=>
   obtain ⟨k,hk,rfl,HI⟩:=hrel;have QI:=zf (Q4.out.trans HI.out.2);have oi:=P.out _ QI.out;have x2:=zg (o:=2) oi rfl;by_cases hlt:k < fr.length
   ·obtain ⟨x,hx⟩:∃ x,fr[k]? = some x:=⟨_,zlz hlt⟩
    obtain ⟨_,_,eqn,_,hcl⟩:=(H0.out.set.chg QI.out (fun _ _ e=>e)).at_;cases eqn;obtain ⟨lb',lo,rfl,_,c0,hxs⟩:=hcl k x hx;have L1:=zf (yf wr sp hsp);have L2:=zf (yf wr x hxs);clear hcl oi;by_cases hle:zI sp.data.toList<=zI x.data.toList
    ·have HI2:=zf (show ∀ (j:Nat) y,j < k+1->fr[j]? = some y->zI sp.data.toList<=zI y.data.toList from fun j y hj hy=>by
      rcases Nat.lt_or_ge j k with q | q
      ·exact HI.out.1 j y q hy
      ·obtain rfl:j=k:=by omega
       rw [hx] at hy;cases hy;exact hle)
     have KI:=zf HI.out.2;have g1:decide ((zI x.data.toList:Int) < (zI sp.data.toList:Int))=false:=zly (by omega);have g2:decide (zI x.data.toList < zI sp.data.toList)=false:=zly (by omega);clear hx HI hle hxs;generalize zI sp.data.toList=m1 at *;generalize zI x.data.toList=m2 at *;go_wp2_with fail;(with_reducible refine L1.out.mono ?_);rintro e w5 ⟨rfl,rfl⟩;go_wp2_with fail;(with_reducible refine L2.out.mono ?_);rintro e w5 ⟨rfl,rfl⟩;go_wp2;go_roundw
     case rel=>exact ⟨k+1,by omega,by go_num,zf ⟨HI2.out,KI.out⟩⟩
     case measure=>simp [intOf];omega
    ·have RF:=zf (show res=false from by rw [R.out,zly (fun q=>hle (q x (zlB hx)))];rfl)
     have KF:=zf (K4.out.trans HI.out.2);have g1:decide ((zI x.data.toList:Int) < (zI sp.data.toList:Int))=true:=zlx (by omega);have g2:decide (zI x.data.toList < zI sp.data.toList)=true:=zlx (by omega);clear hx HI hle hxs;generalize zI sp.data.toList=m1 at *;generalize zI x.data.toList=m2 at *;go_wp2_with fail;(with_reducible refine L1.out.mono ?_);rintro e w5 ⟨rfl,rfl⟩;go_wp2_with fail;(with_reducible refine L2.out.mono ?_);rintro e w5 ⟨rfl,rfl⟩;go_wp2;go_ret;exact zN (by decide) RF.out KF.out
   ·obtain rfl:k=fr.length:=by omega
    have RL:=zf (show res=lb from by
     rw [R.out,zlx (fun x hx=>by
      obtain ⟨j,hj⟩:=List.mem_iff_getElem?.1 hx;exact HI.out.1 j x (zlA.1 hj).1 hj)]
     rfl)
    have KF:=zf (K4.out.trans HI.out.2);have LI:=zf (LK.out wr KF.out (by first | trivial | rfl) (by first | trivial | rfl));have x0:=zg (o:=0) oi rfl;have x1:=zg (o:=1) oi rfl;have x3:=zg (o:=3) oi rfl;have x4:=zg (o:=4) oi rfl;have x5:=zg (o:=5) oi rfl;have x6:=zg (o:=6) oi rfl;clear oi HI LK R;go_wp2_with fail;(with_reducible refine LI.out.mono ?_);rintro e w6 ⟨rfl,k6⟩;have K6:=zf (KF.out.trans k6);clear k6 LI KF;cases lb with
    | false=>
     go_wp2;go_ret;exact zN (by decide) RL.out K6.out
    | true=>
     go_wp2;go_ret;exact zaP RL.out K6.out
 ·have e3:decide (t < f)=true:=zlx (by omega)
  have RF:=zf (show res=false from by rw [R.out,zly hft];rfl);clear hft;go_wp2;go_ret;exact zN (by decide) RF.out K4.out
end Go.Proofs.YtcilaocknhphnaaGreat
