/-
  Package cert: like, Check. The reference's Less. The reference's Equal. The reference's Right and And. Sets of words: the reference's May. What the reference's like and Check say, in plain Lean. The reference's Kind, single, num and like. The reference's Check. Entries of access lists in memory; append of a slice that is cut full; the lists in plain Lean.
-/
import Derived.Test.YthdfplafihmejaaGreatZtCLike
import Derived.Test.YthdfplafihmejaaGreatZtMMach2
import Derived.Test.YthdfplafihmejaaGreatZtCMap
import Derived.Test.YthdfplafihmejaaGreatZtKit2
import Derived.Deep.DeepCutAuto
import Derived.Deep.CutBlock
import Derived.Deep.Upon
namespace Go.Proofs.YthdfplafihmejaaGreat
open Go.RowKit Go.Maps
theorem zqe (w:World) (a:Nat) (z:Int) (hz:z=(a:Nat)):Yr (w.alloc (.cells #[.int .i64 z] 3)) (.slice (some ⟨w.heap.size,0,none⟩) 1 1) (fun k=>k=w.heap.size) (zgd [a]):=by
 subst hz;exact zqH w a
theorem zqF (w:World) (a b:Nat) (y z:Int) (hy:y=(a:Nat)) (hz:z=(b:Nat)):Yr (w.alloc (.cells #[.int .i64 y,.int .i64 z] 3)) (.slice (some ⟨w.heap.size,0,none⟩) 2 2) (fun k=>k=w.heap.size) (zgd [a,b]):=by
 subst hy hz;exact zqG w a b
theorem zmZ (w:World) (s:ByteArray) (k:Nat) (z:Int) (hz:z=(k:Nat)) (hs:s.size<=maxLen) (hk:k < zz s.data.toList):Calls Tryz.prog 81 #[.string s,.int .i64 z] w fun e w'=>e=.returned (.int .u16 (zO s.data.toList k:Nat))∧Chg (fun _=>False) w w':=by
 subst hz;exact zi1 w s k hs hk
theorem znZ (w:World) (a k:Nat) (z:Int) (hz:z=(k:Nat)) (ha:a < 65536):Calls Tryz.prog 83 #[.int .u16 (a:Nat),.slice (some ⟨w.heap.size,0,none⟩) 1 1] (w.alloc (.cells #[.int .i64 z] 3)) fun e w'=>e=.returned (.bool (decide (a / 8192=k)))∧(w.alloc (.cells #[.int .i64 z] 3))=w':=by
 have:=zjx _ a _ _ [k] ha (zqe w k z hz);rwa [show decide (a / 8192∈[k])=decide (a / 8192=k) from by simp] at this
theorem zhF (w:World) (s:ByteArray) (k:Nat) (z:Int) (hz:z=(k:Nat)) (hs:s.size<=maxLen):Calls Tryz.prog 113 #[.string s,.slice (some ⟨w.heap.size,0,none⟩) 1 1] (w.alloc (.cells #[.int .i64 z] 3)) fun e w'=>e=.returned (.bool (ZF s [k]))∧Chg (fun _=>False) w w':=
 (zhE _ s _ _ [k] hs (zqe w k z hz)).mono fun _ _ ⟨he,hc⟩=>⟨he,(zi _ _ _).trans hc⟩
theorem zqn (w:World) (s:ByteArray) (hs:s.size<=maxLen):Calls Tryz.prog 113 #[.string s,.slice (some ⟨w.heap.size,0,none⟩) 2 2] (w.alloc (.cells #[.int .i64 1,.int .i64 2] 3)) fun e w'=>e=.returned (.bool (ZF s [1,2]))∧Chg (fun _=>False) w w':=
 (zhE _ s _ _ [1,2] hs (zqF w 1 2 1 2 rfl rfl)).mono fun _ _ ⟨he,hc⟩=>⟨he,(zi _ _ _).trans hc⟩
def zpt (sp u:ByteArray) (sg:Nat) (kind:Int):Bool:=
 if kind=1 then ZF sp [1] && (decide (zz u.data.toList=2) && (decide (zO u.data.toList 0 / 8192=3) && decide (zO u.data.toList 1 / 8192=5)))
 else if kind=2 then ZF sp [1] && decide (u=ZW sg)
 else if kind=3 then ZF sp [2]
 else if kind=4 then ZF sp [3] && ZF u [4]
 else if kind=5 then ZF sp [1,2] && (decide (2<=zz u.data.toList) && decide (zO u.data.toList (zz u.data.toList - 1) / 8192=5))
 else false
set_option maxHeartbeats 8000000 in
set_option maxRecDepth 100000 in
theorem znW (w:World) (c:zq) (sa:Option Addr) (sc:Nat) (G:Nat->Prop) (h:YI w (.slice sa c.fr.length sc) G c) (hm:Zp c.sp.data.toList=true) (hfr:zaJ c.fr=true):
  Calls Tryz.prog 85 #[xI c (.slice sa c.fr.length sc)] w fun e w'=>e=.returned (.bool (zdt c))∧Chg (fun _=>False) w w':=by
 have hfl:1<=c.fr.length∧c.fr.length<=16:=by
  obtain ⟨q1,q2,_⟩:=of_decide_eq_true hfr;rw [Zr] at q1 q2;exact ⟨q1,q2⟩
 have k0:=zi (fun _=>False) w (.cells #[.int .i64 c.kind,.int .u16 (c.sg:Int),.string c.sp,.slice sa c.fr.length sc,.int .i64 c.f,.int .i64 c.t,.int .i64 c.n] 64);have OB:=ze (zh w (.cells #[.int .i64 c.kind,.int .u16 (c.sg:Int),.string c.sp,.slice sa c.fr.length sc,.int .i64 c.f,.int .i64 c.t,.int .i64 c.n] 64));have K0:=ze k0;have DG:=ze (zhu _ c sa sc G (h.chg k0 (fun _ _ e=>e)) hm hfl.2);have HS:=ze (h.set.chg k0 (fun _ _ e=>e)).at_;have hsp:=(Zn hm).1;have hsg:=h.sg;have R:=ze (show zdt c=if c.kind=6 then true else if c.kind=7 then zjD c else match c.fr with | [u]=>zpt c.sp u c.sg c.kind | _=>false from rfl);generalize zdt c=res at *;generalize hdb:zjD c=db at *;obtain ⟨kind,sg,sp,fr,f,t,n⟩:=c;unfold xI at DG ⊢;simp only at OB K0 HS hsp hsg R DG hfl ⊢;clear h hm k0 hfr hdb;have p0:=zf (o:=0) OB.out rfl;have p1:=zf (o:=1) OB.out rfl;have p2:=zf (o:=2) OB.out rfl;have p3:=zf (o:=3) OB.out rfl;have p4:=zf (o:=4) OB.out rfl;have p5:=zf (o:=5) OB.out rfl;have p6:=zf (o:=6) OB.out rfl;go_enter Tryz.func85,Tryz.ntmps85;by_cases h6:kind=6
 ·subst h6
  rw [if_pos rfl] at R;go_wp2;go_ret;exact ⟨by rw [R.out];rfl,K0.out⟩
 rw [if_neg h6] at R;have e6:(kind == 6)=false:=zq9.2 h6;by_cases h7:kind=7
 ·subst h7
  rw [if_pos rfl] at R;clear h6;go_wp2_with fail;(with_reducible refine DG.out.mono ?_);rintro e w2 ⟨rfl,k2⟩;go_wp2;go_ret;exact ⟨by rw [R.out];rfl,K0.out.trans k2⟩
 rw [if_neg h7] at R;have e7:(kind == 7)=false:=zq9.2 h7;clear DG h6 h7;by_cases h1:fr.length=1
 ·obtain ⟨u,rfl⟩:=List.length_eq_one_iff.1 h1
  have R:=ze (show res=zpt sp u sg kind from R.out);obtain ⟨_,_,eqn,_,hcl⟩:=HS.out;cases eqn;obtain ⟨lb,lo,rfl,_,c0,hus⟩:=hcl 0 u rfl;simp only [Nat.add_zero] at c0;simp only [List.length_cons,List.length_nil,Nat.zero_add] at OB K0 p0 p1 p2 p3 p4 p5 p6 c0 ⊢;have HC:=ze c0;clear hcl h1 hfl HS;have WL:=ze (fun w=>ZO w u hus);have HUS:=ze hus;clear hus;go_wp2_with fail;generalize hw0:w.alloc (.cells #[.int .i64 kind,.int .u16 (sg:Int),.string sp,.slice (some ⟨lb,lo,none⟩) 1 sc,.int .i64 f,.int .i64 t,.int .i64 n] 64)=w0 at *;clear hw0;(with_reducible refine (WL.out w0).mono ?_);rintro e w1 ⟨rfl,rfl⟩;have OC:=ze (fun w1 (k:Chg (fun _=>False) w0 w1)=>k.obj (fun e=>e) OB.out);have hu2:u.size<=maxLen:=HUS.out;by_cases k1:kind=1
  ·subst k1
   have R1:=ze (show res=(ZF sp [1] && (decide (zz u.data.toList=2) && (decide (zO u.data.toList 0 / 8192=3) && decide (zO u.data.toList 1 / 8192=5)))) from R.out);have A1:=ze (zhF w0 sp 1 1 rfl (by unfold maxLen;omega));clear R e6 e7;generalize ZF sp [1]=b1 at *;go_wp2_with fail;(with_reducible refine A1.out.mono ?_);rintro e w2 ⟨rfl,k2⟩;have K2:=ze (K0.out.trans k2);clear k2 A1;cases b1 with
   | false=>
    have RF:=ze (show res=false from by rw [R1.out];rfl);go_wp2;go_ret;exact ⟨by rw [RF.out];rfl,K2.out⟩
   | true=>
    by_cases n2:zz u.data.toList=2
    ·have e2:((zz u.data.toList:Int) == 2)=true:=beq_iff_eq.2 (by omega)
     rw [Bool.true_and,zqY n2,Bool.true_and] at R1;have T0:=ze (zmZ w2 u 0 0 rfl hu2 (by omega));have T1:=ze (fun w=>zmZ w u 1 1 rfl hu2 (by omega));have h0:=yT u.data.toList 0;have h1':=yT u.data.toList 1;clear n2;generalize zO u.data.toList 0=a0 at *;generalize zO u.data.toList 1=a1 at *;go_wp2_with fail;(with_reducible refine T0.out.mono ?_);rintro e w3 ⟨rfl,k3⟩;have K3:=ze (K2.out.trans k3);have I3:=ze (znZ w3 a0 3 3 rfl h0);clear k3 T0 K2;generalize decide (a0 / 8192=3)=b2 at *;go_wp2_with fail;(with_reducible refine I3.out.mono ?_);rintro e w4 ⟨rfl,rfl⟩;have K4:=ze (K3.out.alloc (.cells #[.int .i64 3] 3));clear I3;cases b2 with
     | false=>
      have RF:=ze (show res=false from by rw [R1.out];rfl);go_wp2;go_ret;exact ⟨by rw [RF.out];rfl,K4.out⟩
     | true=>
      rw [Bool.true_and] at R1;have T2:=ze (T1.out (w3.alloc (.cells #[.int .i64 3] 3)));clear T1 K3;go_wp2_with fail;(with_reducible refine T2.out.mono ?_);rintro e w5 ⟨rfl,k5⟩;have K5:=ze (K4.out.trans k5);have I5:=ze (znZ w5 a1 5 5 rfl h1');clear k5 T2 K4;generalize decide (a1 / 8192=5)=b3 at *;go_wp2_with fail;(with_reducible refine I5.out.mono ?_);rintro e w6 ⟨rfl,rfl⟩;go_wp2;go_ret;exact ⟨by rw [R1.out];rfl,K5.out.alloc (.cells #[.int .i64 5] 3)⟩
    ·have e2:((zz u.data.toList:Int) == 2)=false:=zq9.2 (by omega)
     have RF:=ze (show res=false from by rw [R1.out,zqZ n2];rfl);clear n2;go_wp2;go_ret;exact ⟨by rw [RF.out];rfl,K2.out⟩
  have f1:(kind == 1)=false:=zq9.2 k1;by_cases k2:kind=2
  ·subst k2
   have R1:=ze (show res=(ZF sp [1] && decide (u=ZW sg)) from R.out);have A1:=ze (zhF w0 sp 1 1 rfl (by unfold maxLen;omega));clear R e6 e7 f1 k1;generalize ZF sp [1]=b1 at *;go_wp2_with fail;(with_reducible refine A1.out.mono ?_);rintro e w2 ⟨rfl,k2⟩;have K2:=ze (K0.out.trans k2);have o2:=OC.out w2 k2;have q1:=zf (o:=1) o2 rfl;clear k2 A1 o2;cases b1 with
   | false=>
    have RF:=ze (show res=false from by rw [R1.out];rfl);go_wp2;go_ret;exact ⟨by rw [RF.out];rfl,K2.out⟩
   | true=>
    rw [Bool.true_and] at R1;have OF:=ze (zb4 (w2.alloc (.cells #[.int .u16 (sg:Int)] 62)) w2.heap.size 0 1 sg hsg (zf (zh _ _) rfl));have K3:=ze (K2.out.alloc (.cells #[.int .u16 (sg:Int)] 62));have SE:=xC u (ZW sg);generalize ZW sg=v at *;rw [<- SE] at R1;clear SE;go_wp2_with fail;(with_reducible refine OF.out.mono ?_);rintro e w4 ⟨rfl,k4⟩;have K4:=ze (K3.out.trans k4);clear k4 OF K3 q1;cases hr:(u.toList == v.toList)
    all_goals
     rw [hr] at R1;go_wp2;go_ret;exact ⟨by rw [R1.out];rfl,K4.out⟩
  have f2:(kind == 2)=false:=zq9.2 k2;by_cases k3:kind=3
  ·subst k3
   have R1:=ze (show res=ZF sp [2] from R.out);have A1:=ze (zhF w0 sp 2 2 rfl (by unfold maxLen;omega));clear R e6 e7 f1 f2 k1 k2;generalize ZF sp [2]=b1 at *;go_wp2_with fail;(with_reducible refine A1.out.mono ?_);rintro e w2 ⟨rfl,k2⟩;go_wp2;go_ret;exact ⟨by rw [R1.out];rfl,K0.out.trans k2⟩
  have f3:(kind == 3)=false:=zq9.2 k3;by_cases k4:kind=4
  ·subst k4
   have R1:=ze (show res=(ZF sp [3] && ZF u [4]) from R.out);have A1:=ze (zhF w0 sp 3 3 rfl (by unfold maxLen;omega));have A2:=ze (fun w=>zhF w u 4 4 rfl hu2);clear R e6 e7 f1 f2 f3 k1 k2 k3;generalize ZF sp [3]=b1 at *;generalize ZF u [4]=b2 at *;go_wp2_with fail;(with_reducible refine A1.out.mono ?_);rintro e w2 ⟨rfl,k2⟩;have K2:=ze (K0.out.trans k2);clear k2 A1;cases b1 with
   | false=>
    have RF:=ze (show res=false from by rw [R1.out];rfl);go_wp2;go_ret;exact ⟨by rw [RF.out];rfl,K2.out⟩
   | true=>
    rw [Bool.true_and] at R1;have A3:=ze (A2.out w2);clear A2;go_wp2_with fail;(with_reducible refine A3.out.mono ?_);rintro e w3 ⟨rfl,k3⟩;go_wp2;go_ret;exact ⟨by rw [R1.out];rfl,K2.out.trans k3⟩
  have f4:(kind == 4)=false:=zq9.2 k4;by_cases k5:kind=5
  ·subst k5
   have R1:=ze (show res=(ZF sp [1,2] && (decide (2<=zz u.data.toList) && decide (zO u.data.toList (zz u.data.toList - 1) / 8192=5))) from R.out);have A1:=ze (zqn w0 sp (by unfold maxLen;omega));clear R e6 e7 f1 f2 f3 f4 k1 k2 k3 k4;generalize ZF sp [1,2]=b1 at *;go_wp2_with fail;(with_reducible refine A1.out.mono ?_);rintro e w2 ⟨rfl,k2⟩;have K2:=ze (K0.out.trans k2);clear k2 A1;cases b1 with
   | false=>
    have RF:=ze (show res=false from by rw [R1.out];rfl);go_wp2;go_ret;exact ⟨by rw [RF.out];rfl,K2.out⟩
   | true=>
    rw [Bool.true_and] at R1;by_cases n2:2<=zz u.data.toList
    ·have e2:decide (2<=(zz u.data.toList:Int))=true:=zqY (by omega)
     have e3:decide ((zz u.data.toList:Int) < 2)=false:=zqZ (by omega);rw [zqY n2,Bool.true_and] at R1;have hal:zz u.data.toList<=9223372036854775807:=by unfold maxLen at hu2;unfold zz;rw [zA];omega
     have w1:IntKind.i64.wrap ((zz u.data.toList:Int) - 1)=(zz u.data.toList:Int) - 1:=by rw [IntKind.wrap_i64];omega
     have T0:=ze (zmZ w2 u (zz u.data.toList - 1) ((zz u.data.toList:Int) - 1) (by omega) hu2 (by omega));have h0:=yT u.data.toList (zz u.data.toList - 1);clear n2;generalize zO u.data.toList (zz u.data.toList - 1)=a0 at *;go_wp2_with fail;(with_reducible refine T0.out.mono ?_);rintro e w3 ⟨rfl,k3⟩;have K3:=ze (K2.out.trans k3);have I3:=ze (znZ w3 a0 5 5 rfl h0);clear k3 T0 K2;generalize decide (a0 / 8192=5)=b2 at *;go_wp2_with fail;(with_reducible refine I3.out.mono ?_);rintro e w4 ⟨rfl,rfl⟩;go_wp2;go_ret;exact ⟨by rw [R1.out];rfl,K3.out.alloc (.cells #[.int .i64 5] 3)⟩
    ·have e2:decide (2<=(zz u.data.toList:Int))=false:=zqZ (by omega)
     have e3:decide ((zz u.data.toList:Int) < 2)=true:=zqY (by omega);have RF:=ze (show res=false from by rw [R1.out,zqZ n2];rfl);clear n2;go_wp2;go_ret;exact ⟨by rw [RF.out];rfl,K2.out⟩
  have f5:(kind == 5)=false:=zq9.2 k5;have RF:=ze (show res=false from by rw [R.out];unfold zpt;rw [if_neg k1,if_neg k2,if_neg k3,if_neg k4,if_neg k5]);clear k1 k2 k3 k4 k5 R;go_wp2;go_ret;exact ⟨by rw [RF.out];rfl,K0.out⟩
 ·have R2:=ze (show res=false from by
   rw [R.out];rcases fr with _ | ⟨a,_ | ⟨b,r⟩⟩
   ·rfl
   ·exact (h1 rfl).elim
   ·rfl)
  have e1:((fr.length:Int) != 1)=true:=by rw [zre];omega
  clear h1 R;go_wp2;go_ret;exact ⟨by rw [R2.out];rfl,K0.out⟩
def xZ (w:World) (b:Bool) (e:Ending) (w':World):Prop:=(∃ k:Int,e=.returned (.int .i64 k)∧(k=0↔b=true))∧Chg (fun _=>False) w w'
theorem zW {w w':World} {b:Bool} {k:Int} (hk:k≠0) (hb:b=false) (hc:Chg (fun _=>False) w w'):xZ w b (.returned (.int .i64 k)) w':=⟨⟨k,rfl,fun e=>(hk e).elim,fun e=>by rw [hb] at e;cases e⟩,hc⟩
theorem zeE {w w':World} {b:Bool} (hb:b=true) (hc:Chg (fun _=>False) w w'):xZ w b (.returned (.int .i64 0)) w':=⟨⟨0,rfl,fun _=>hb,fun _=>rfl⟩,hc⟩
set_option maxHeartbeats 8000000 in
set_option maxRecDepth 100000 in
theorem zeD (w:World) (c:zq) (sa:Option Addr) (sc:Nat) (G:Nat->Prop) (h:YI w (.slice sa c.fr.length sc) G c):
  Calls Tryz.prog 53 #[xI c (.slice sa c.fr.length sc)] w (xZ w (ZD c)):=by
 have k0:=zi (fun _=>False) w (.cells #[.int .i64 c.kind,.int .u16 (c.sg:Int),.string c.sp,.slice sa c.fr.length sc,.int .i64 c.f,.int .i64 c.t,.int .i64 c.n] 64);have OB:=ze (zh w (.cells #[.int .i64 c.kind,.int .u16 (c.sg:Int),.string c.sp,.slice sa c.fr.length sc,.int .i64 c.f,.int .i64 c.t,.int .i64 c.n] 64));have K0:=ze k0;have H0:=ze (h.chg k0 (fun _ _ e=>e));have LK:=ze (fun w1 (k:Chg (fun _=>False) w w1) (hm:Zp c.sp.data.toList=true) (hf:zaJ c.fr=true)=>znW w1 c sa sc G (h.chg k (fun _ _ e=>e)) hm hf);have hsp:=h.sp;have hsg:=h.sg;have R:=ze (show ZD c=(decide (1<=c.kind∧c.kind<=7) && (zmv c && (decide (c.f<=c.t) && (decide (∀ w∈c.fr,zz c.sp.data.toList<=zz w.data.toList) && zdt c)))) from rfl);have FB:=ze (show zmv c=(decide (c.sg / 8192=1) && (Zp c.sp.data.toList && (zaJ c.fr && (zdD c.f && (zdD c.t && zdD c.n))))) from rfl);generalize ZD c=res at *;generalize zmv c=fb at *;generalize hlb:zdt c=lb at *;obtain ⟨_,scap',eqn,hl0,_⟩:=h.set.at_;cases eqn;obtain ⟨kind,sg,sp,fr,f,t,n⟩:=c;unfold xI at LK ⊢;simp only at OB K0 H0 hsp hsg R FB LK hl0 ⊢;unfold maxLen at hl0;clear h k0 hlb;have p0:=zf (o:=0) OB.out rfl;go_enter Tryz.func53,Tryz.ntmps53;by_cases k1:kind < 1
 ·have e1:decide (kind < 1)=true:=zqY k1
  have RF:=ze (show res=false from by rw [R.out,zqZ (fun q=>by omega)];rfl);clear k1;go_wp2;go_ret;exact zW (by decide) RF.out K0.out
 have e1:decide (kind < 1)=false:=zqZ k1;by_cases k7:7 < kind
 ·have e2:decide (7 < kind)=true:=zqY k7
  have RF:=ze (show res=false from by rw [R.out,zqZ (fun q=>by omega)];rfl);clear k1 k7;go_wp2;go_ret;exact zW (by decide) RF.out K0.out
 have e2:decide (7 < kind)=false:=zqZ k7;have R:=ze (show res=(fb && (decide (f<=t) && (decide (∀ w∈fr,zz sp.data.toList<=zz w.data.toList) && lb))) from by rw [R.out,zqY ⟨by omega,by omega⟩];rfl);clear k1 k7;have P:=ze (fun w1 (k:Chg (fun _=>False) (w.alloc (.cells #[.int .i64 kind,.int .u16 (sg:Int),.string sp,.slice sa fr.length sc,.int .i64 f,.int .i64 t,.int .i64 n] 64)) w1)=>k.obj (fun e=>e) OB.out);have p1:=zf (o:=1) OB.out rfl;have I1:=ze (znZ (w.alloc (.cells #[.int .i64 kind,.int .u16 (sg:Int),.string sp,.slice sa fr.length sc,.int .i64 f,.int .i64 t,.int .i64 n] 64)) sg 1 1 rfl hsg);have I1:=I1.out;simp only [zq8] at I1;have I1:=ze I1;generalize decide (sg / 8192=1)=b1 at *;go_wp2_with fail;generalize hw0:w.alloc (.cells #[.int .i64 kind,.int .u16 (sg:Int),.string sp,.slice sa fr.length sc,.int .i64 f,.int .i64 t,.int .i64 n] 64)=w0 at *;clear hw0 p0 p1;(with_reducible refine I1.out.mono ?_);rintro e w1 ⟨rfl,rfl⟩;have k1:=zi (fun _=>False) w0 (.cells #[.int .i64 1] 3);have K1:=ze (K0.out.trans k1);have Q1:=ze k1;have o1:=P.out _ k1;have q2:=zf (o:=2) o1 rfl;clear o1 k1 I1;cases b1 with
 | false=>
  have RF:=ze (show res=false from by rw [R.out,FB.out];rfl);go_wp2;go_ret;exact zW (by decide) RF.out K1.out
 | true=>
 rw [Bool.true_and] at FB;have MY:=ze (zap (w0.alloc (.cells #[.int .i64 1] 3)) sp hsp);generalize hmy:Zp sp.data.toList=b2 at *;go_wp2_with fail;(with_reducible refine MY.out.mono ?_);rintro e w2 ⟨rfl,k2⟩;have K2:=ze (K1.out.trans k2);have Q2:=ze (Q1.out.trans k2);have o2:=P.out _ Q2.out;have q3:=zf (o:=3) o2 rfl;clear o2 k2 K1 Q1 MY q2;cases b2 with
 | false=>
  have RF:=ze (show res=false from by rw [R.out,FB.out];rfl);go_wp2;go_ret;exact zW (by decide) RF.out K2.out
 | true=>
 rw [Bool.true_and] at FB;have SM:=ze (zbh w2 _ G fr (H0.out.set.chg Q2.out (fun _ _ e=>e)).at_);generalize hst:zaJ fr=b3 at *;go_wp2_with fail;(with_reducible refine SM.out.mono ?_);rintro e w3 ⟨rfl,d3⟩;have k3:Chg (fun _=>False) w2 w3:=d3.chg;have K3:=ze (K2.out.trans k3);have Q3:=ze (Q2.out.trans k3);have o3:=P.out _ Q3.out;have q4:=zf (o:=4) o3 rfl;have q5:=zf (o:=5) o3 rfl;have q6:=zf (o:=6) o3 rfl;clear o3 k3 d3 K2 Q2 SM q3;cases b3 with
 | false=>
  have RF:=ze (show res=false from by rw [R.out,FB.out];rfl);go_wp2;go_ret;exact zW (by decide) RF.out K3.out
 | true=>
 rw [Bool.true_and] at FB;have NU:=zpo (w3.alloc (.cells #[.int .i64 f,.int .i64 t,.int .i64 n] 2)) _ _ [f,t,n] (zcY w3 [f,t,n] 2 (by simp));rw [show [f,t,n].all zdD=fb from by rw [FB.out];simp] at NU;change Calls Tryz.prog 84 #[.slice (some ⟨w3.heap.size,0,none⟩) 3 3] (w3.alloc (.cells #[.int .i64 f,.int .i64 t,.int .i64 n] 2)) _ at NU;have NU:=ze NU;have k4:=zi (fun _=>False) w3 (.cells #[.int .i64 f,.int .i64 t,.int .i64 n] 2);have K4:=ze (K3.out.trans k4);have Q4:=ze (Q3.out.trans k4);have o4:=P.out _ Q4.out;have z4:=zf (o:=4) o4 rfl;have z5:=zf (o:=5) o4 rfl;clear o4 k4 FB;go_wp2_with fail;(with_reducible refine NU.out.mono ?_);rintro e w4 ⟨rfl,rfl⟩;clear NU q4 q5 q6 K3 Q3;cases fb with
 | false=>
  have RF:=ze (show res=false from by rw [R.out];rfl);go_wp2;go_ret;exact zW (by decide) RF.out K4.out
 | true=>
 rw [Bool.true_and] at R;by_cases hft:f<=t
 ·rw [zqY hft,Bool.true_and] at R
  have e3:decide (t < f)=false:=zqZ (by omega);clear hft;generalize w3.alloc (.cells #[.int .i64 f,.int .i64 t,.int .i64 n] 2)=w4 at *;have o4:=P.out _ Q4.out;have y3:=zf (o:=3) o4 rfl;clear o4;go_wp2;go_loopw [49] (fun iv wr=>∃ k:Nat,k<=fr.length∧iv=.int .i64 k∧Hid ((∀ (j:Nat) x,j < k->fr[j]? = some x->zz sp.data.toList<=zz x.data.toList)∧Chg (fun _=>False) w4 wr)) (fun iv _=>fr.length - (intOf iv).toNat)
  case atStart=>exact ⟨0,by omega,rfl,ze ⟨fun j x hj=>by omega,Chg.refl _ _⟩⟩
  case round=>
   obtain ⟨k,hk,rfl,HI⟩:=hrel;have QI:=ze (Q4.out.trans HI.out.2);have oi:=P.out _ QI.out;have x2:=zf (o:=2) oi rfl;by_cases hlt:k < fr.length
   ·obtain ⟨x,hx⟩:∃ x,fr[k]? = some x:=⟨_,zq0 hlt⟩
    obtain ⟨_,_,eqn,_,hcl⟩:=(H0.out.set.chg QI.out (fun _ _ e=>e)).at_;cases eqn;obtain ⟨lb',lo,rfl,_,c0,hxs⟩:=hcl k x hx;have L1:=ze (ZO wr sp hsp);have L2:=ze (ZO wr x hxs);clear hcl oi;by_cases hle:zz sp.data.toList<=zz x.data.toList
    ·have HI2:=ze (show ∀ (j:Nat) y,j < k+1->fr[j]? = some y->zz sp.data.toList<=zz y.data.toList from fun j y hj hy=>by
      rcases Nat.lt_or_ge j k with q | q
      ·exact HI.out.1 j y q hy
      ·obtain rfl:j=k:=by omega
       rw [hx] at hy;cases hy;exact hle)
     have KI:=ze HI.out.2;have g1:decide ((zz x.data.toList:Int) < (zz sp.data.toList:Int))=false:=zqZ (by omega);have g2:decide (zz x.data.toList < zz sp.data.toList)=false:=zqZ (by omega);clear hx HI hle hxs;generalize zz sp.data.toList=m1 at *;generalize zz x.data.toList=m2 at *;go_wp2_with fail;(with_reducible refine L1.out.mono ?_);rintro e w5 ⟨rfl,rfl⟩;go_wp2_with fail;(with_reducible refine L2.out.mono ?_);rintro e w5 ⟨rfl,rfl⟩;go_wp2;go_roundw
     case rel=>exact ⟨k+1,by omega,by go_num,ze ⟨HI2.out,KI.out⟩⟩
     case measure=>simp [intOf];omega
    ·have RF:=ze (show res=false from by rw [R.out,zqZ (fun q=>hle (q x (zq2 hx)))];rfl)
     have KF:=ze (K4.out.trans HI.out.2);have g1:decide ((zz x.data.toList:Int) < (zz sp.data.toList:Int))=true:=zqY (by omega);have g2:decide (zz x.data.toList < zz sp.data.toList)=true:=zqY (by omega);clear hx HI hle hxs;generalize zz sp.data.toList=m1 at *;generalize zz x.data.toList=m2 at *;go_wp2_with fail;(with_reducible refine L1.out.mono ?_);rintro e w5 ⟨rfl,rfl⟩;go_wp2_with fail;(with_reducible refine L2.out.mono ?_);rintro e w5 ⟨rfl,rfl⟩;go_wp2;go_ret;exact zW (by decide) RF.out KF.out
   ·obtain rfl:k=fr.length:=by omega
    have RL:=ze (show res=lb from by
     rw [R.out,zqY (fun x hx=>by
      obtain ⟨j,hj⟩:=List.mem_iff_getElem?.1 hx;exact HI.out.1 j x (zq1.1 hj).1 hj)]
     rfl)
    have KF:=ze (K4.out.trans HI.out.2);have LI:=ze (LK.out wr KF.out (by first | trivial | rfl) (by first | trivial | rfl));have x0:=zf (o:=0) oi rfl;have x1:=zf (o:=1) oi rfl;have x3:=zf (o:=3) oi rfl;have x4:=zf (o:=4) oi rfl;have x5:=zf (o:=5) oi rfl;have x6:=zf (o:=6) oi rfl;clear oi HI LK R;go_wp2_with fail;(with_reducible refine LI.out.mono ?_);rintro e w6 ⟨rfl,k6⟩;have K6:=ze (KF.out.trans k6);clear k6 LI KF;cases lb with
    | false=>
     go_wp2;go_ret;exact zW (by decide) RL.out K6.out
    | true=>
     go_wp2;go_ret;exact zeE RL.out K6.out
 ·have e3:decide (t < f)=true:=zqY (by omega)
  have RF:=ze (show res=false from by rw [R.out,zqZ hft];rfl);clear hft;go_wp2;go_ret;exact zW (by decide) RF.out K4.out
def zqM:Value->Nat
 | .slice _ n _=>n
 | _=>0
def zaa (l:List ByteArray):Prop:=∀ x∈l,x.size<=140737488355328
def XV (s:ByteArray):Int:=if zz s.data.toList=1 then ((zO s.data.toList 0 / 8192:Nat):Int) else -1
def zlT (kind:Int) (len:Nat) (who:Int) (n k0 kl a0 sg:Nat) (d:Bool):Bool:=
 if kind=1 then decide (len=1) && (decide (who=1) && (decide (n=2) && (decide (k0=3) && decide (kl=5))))
 else if kind=2 then decide (len=1) && (decide (who=1) && (decide (n=1) && decide (a0=sg)))
 else if kind=3 then decide (len=1) && decide (who=2)
 else if kind=4 then decide (len=1) && (decide (who=3) && (decide (n=1) && decide (kl=4)))
 else if kind=5 then decide (len=1) && ((decide (who=1) || decide (who=2)) && (decide (1 < n) && decide (kl=5)))
 else if kind=7 then d else true
theorem zhc {w:World} {e:TypeId} {z:Value} {size n m gc:Nat} {xs news:List Value} (hz:z.cells.size=size) (hlx:xs.length=n*size) (hln:news.length=m*size) (hge:n+m<=gc) (hcm:gc<=maxLen):
  (w.drew.alloc (.cells (xs.toArray++news.toArray++Builtin.zeroCells z.cells (gc - (n+m))) e)).ownsRow w.heap.size e size (.slice (some ⟨w.heap.size,0,none⟩) (n+m) gc) (n+m) (xs++news):=by
 refine ⟨by rw [zq3,hlx,hln,Nat.add_mul],.inr ⟨w.heap.size,gc,_,rfl,zrj _,heap_alloc_new w.drew _,hge,hcm,?_,?_⟩⟩
 ·simp only [Array.size_append,List.size_toArray,size_zeroCells,hz,hlx,hln,<- Nat.add_mul]
  congr 1;omega
 ·simp only [Array.toList_append]
  rw [List.take_left' (by rw [zq3,hlx,hln,Nat.add_mul])]
theorem zgH {P:Program} {w:World} {ops:Array Oper} {rest:List Oper} {o:Oper} {a:Act} {Q:Exit->Act->World->Prop} (hgd:o.guard=none) (s x:Operand) (t:TypeId)
  (ho:o.op=.call { callee:=.builtin .append,args:=#[s,x],argTypes:=#[t,t] }) (e:TypeId) (size bytes:Nat) (ht:P.underlying t=some (.slice e)) (hE:Zt P e size bytes)
  (sa:Option Addr) (n:Nat) (xs:List Value) (hs:a.eval s=.slice sa n n) (hlx:xs.length=n*size) (hcx:∀ (j:Nat) u,xs[j]? = some u->∃ g o,sa=some ⟨g,o,none⟩∧w.cell? ⟨g,o+j,none⟩=some u) (hnil:sa=none->n=0)
  (g go m c:Nat) (news:List Value) (hx:a.eval x=.slice (some ⟨g,go,none⟩) m c) (hl:news.length=m*size) (hcn:∀ (j:Nat) u,news[j]? = some u->w.cell? ⟨g,go+j,none⟩=some u) (hm:0 < m)
  (h1:∀ u∈xs++news,u.oneCell'=true) (hbytes:(n+m)*bytes<=140737488355328) (h63:n+m<=maxLen)
  (h:∀ v' w',w'.ownsRow w.heap.size e size v' (n+m) (xs++news)->Chg (fun _=>False) w w'->w.heap.size < w'.heap.size->wpList P ops Q rest (a.put o.dst v') w'):wpList P ops Q (o :: rest) a w:=by
 obtain ⟨i,z,hi,hz,q1,q2,q3,q4⟩:=hE;refine wpList_plain hgd fun K hK=>?_;have hnews:∀ j u,news[j]? = some u->w.cell? ((⟨g,go,none⟩:Addr).add j)=some u:=fun j u hj=>by rw [yN];exact hcn j u hj
 suffices hr:∃ v' w',(Builtin.append_ #[t,t] o.type #[.slice sa n n,.slice (some ⟨g,go,none⟩) m c]).run P w=.ok v' w'∧w'.ownsRow w.heap.size e size v' (n+m) (xs++news)∧Chg (fun _=>False) w w'∧w.heap.size < w'.heap.size by
  obtain ⟨v',w',hr,h2,h3,h4⟩:=hr;unfold Oper.wp execOp;simp only [ho,resolve,invoke,builtin,Sem.run_bind,Sem.run_pure,Result.andThen_ok,List.map_toArray,List.map_cons,List.map_nil,hs,hx,hr];exact hK _ _ (h v' w' h2 h3 h4)
 have hge:=grownCap_ge w (n+m) n e;have hcm:=grownCap_le_maxLen w (n+m) n e h63;have hchg:∀ cs,Chg (fun _=>False) w (w.drew.alloc (.cells cs e)):=fun cs=>((Chg.refl _ w).drew).alloc _;cases sa with
 | none=>
  obtain rfl:=hnil rfl;obtain rfl:xs=[]:=List.eq_nil_of_length_eq_zero (by simpa using hlx);simp only [Nat.zero_add] at hge hcm h63 hbytes ⊢;have hr:=run_append_nil (P:=P) w t o.type e i z ht hi hz ⟨g,go,none⟩ m c news (by rw [q1];exact hl) hnews hm (by simp only [maxLen] at h63;omega) (by rw [q2];omega);refine ⟨_,_,hr,?_,hchg _,by simp⟩;have:=zhc (w:=w) (e:=e) (z:=z) (size:=size) (n:=0) (m:=m) (gc:=grownCap w m 0 e) (xs:=[]) (news:=news) q3 (by simp) hl (by simpa using hge) (by simpa using hcm)
  simpa using this
 | some ad=>
  have holds:∀ j u,xs[j]? = some u->w.cell? (ad.add j)=some u:=fun j u hj=>by
   obtain ⟨g',o',e1,c1⟩:=hcx j u hj;cases e1;rw [yN];exact c1
  have hr:=run_append_grow (P:=P) w t o.type e i z ht hi hz ad n n xs (by rw [q1];exact hlx) holds ⟨g,go,none⟩ m c news (by rw [q1];exact hl) hnews (by omega) (by simp only [maxLen] at h63;omega) (growslice_fits (by omega) (by rw [q2];exact hbytes));exact ⟨_,_,hr,zhc q3 hlx hl hge hcm,hchg _,by simp⟩
def yk (E:List (Int × Value)):List Value:=E.flatMap fun e=>[.int .i64 e.1,e.2]
theorem zcq (E F:List (Int × Value)):yk (E++F)=yk E++yk F:=by unfold yk;rw [List.flatMap_append]
theorem Yh (E:List (Int × Value)):(yk E).length=E.length*2:=by
 unfold yk;induction E with
 | nil=>rfl
 | cons a t ih=>rw [List.flatMap_cons,zq3,ih];simp;omega
theorem zc1:∀ (E:List (Int × Value)) (k:Nat) r,E[k]? = some r->(yk E)[k*2]? = some (.int .i64 r.1)∧(yk E)[k*2+1]? = some r.2
 | [],k,r,h=>by simp at h
 | a :: t,0,r,h=>by
  simp at h;subst h;unfold yk;rw [List.flatMap_cons];exact ⟨rfl,rfl⟩
 | a :: t,k+1,r,h=>by
  obtain ⟨h1,h2⟩:=zc1 t k r (by simpa using h);have e:yk (a :: t)=[.int .i64 a.1,a.2]++yk t:=by unfold yk;rw [List.flatMap_cons]
  rw [e];refine ⟨?_,?_⟩
  ·rw [List.getElem?_append_right (by simp;omega)];simpa [show (k+1)*2 - 2=k*2 by omega] using h1
  ·rw [List.getElem?_append_right (by simp;omega)];simpa [show (k+1)*2+1 - 2=k*2+1 by omega] using h2
theorem zmG {E:List (Int × Value)} {j:Nat} {u:Value} (h:(yk E)[j]? = some u):∃ k r,E[k]? = some r∧(j=k*2∧u=.int .i64 r.1∨j=k*2+1∧u=r.2):=by
 have hl:=(zq1.1 h).1;rw [Yh] at hl;have hk:j / 2 < E.length:=by omega
 refine ⟨j / 2,E[j / 2],zq0 hk,?_⟩;obtain ⟨h1,h2⟩:=zc1 E (j / 2) _ (zq0 hk);rcases Nat.mod_two_eq_zero_or_one j with q | q
 ·rw [show j / 2*2=j by omega,h] at h1
  exact .inl ⟨by omega,Option.some.inj h1⟩
 ·rw [show j / 2*2+1=j by omega,h] at h2
  exact .inr ⟨by omega,Option.some.inj h2⟩
theorem zbr {E:List (Int × Value)} (h:∀ e∈E,e.2.oneCell'=true):∀ v∈yk E,v.oneCell'=true:=by
 intro v hv;unfold yk at hv;rw [List.mem_flatMap] at hv;obtain ⟨r,hr,h2⟩:=hv;simp at h2;rcases h2 with rfl | rfl
 ·rfl
 ·exact h r hr
abbrev Za:=Int × List ByteArray
structure zgF (w:World) (G:Nat->Prop) (E:List (Int × Value)) (L:List Za):Prop where
 len:E.length=L.length
 ent:∀ (j:Nat) e x,E[j]? = some e->L[j]? = some x->e.1=x.1∧xf w e.2 G x.2
theorem zgF.one {w:World} {G:Nat->Prop} {E:List (Int × Value)} {L:List Za} (h:zgF w G E L):∀ e∈E,e.2.oneCell'=true:=by
 intro e he;obtain ⟨j,hj⟩:=List.mem_iff_getElem?.1 he;have hl:=(zq1.1 hj).1;obtain ⟨_,q⟩:=h.ent j e _ hj (zq0 (by rw [<- h.len];exact hl));obtain ⟨a,c,e2⟩:=q.shape;rw [e2];rfl
theorem zgF.chg {S:Nat->Prop} {w w':World} {G:Nat->Prop} {E:List (Int × Value)} {L:List Za} (h:zgF w G E L) (hc:Chg S w w') (hs:∀ k,G k->¬ S k):zgF w' G E L:=
 ⟨h.len,fun j e x h1 h2=>⟨(h.ent j e x h1 h2).1,(h.ent j e x h1 h2).2.chg hc hs⟩⟩
theorem zgF.up {w:World} {G G':Nat->Prop} {E:List (Int × Value)} {L:List Za} (h:zgF w G E L) (hg:∀ k,G k->G' k):zgF w G' E L:=
 ⟨h.len,fun j e x h1 h2=>⟨(h.ent j e x h1 h2).1,(h.ent j e x h1 h2).2.up hg⟩⟩
theorem zgF.snoc {w:World} {G:Nat->Prop} {E:List (Int × Value)} {L:List Za} (h:zgF w G E L) {e:Int × Value} {x:Za} (h1:e.1=x.1) (h2:xf w e.2 G x.2):zgF w G (E++[e]) (L++[x]):=by
 refine ⟨by simp [h.len],fun j e' x' q1 q2=>?_⟩;rcases Nat.lt_or_ge j E.length with q | q
 ·rw [List.getElem?_append_left q] at q1
  rw [List.getElem?_append_left (by rw [<- h.len];exact q)] at q2;exact h.ent j e' x' q1 q2
 ·rw [List.getElem?_append_right q] at q1
  rw [List.getElem?_append_right (by rw [<- h.len];exact q)] at q2
  have hj:j - E.length=0:=by
   have:=(zq1.1 q1).1;simp at this;omega
  rw [hj] at q1;rw [<- h.len,hj] at q2;simp at q1 q2;subst q1 q2;exact ⟨h1,h2⟩
def ZI (w:World) (v:Value) (G:Nat->Prop) (L:List Za):Prop:=
 ∃ E la cap,v=.slice la L.length cap∧L.length<=cap∧cap<=maxLen∧(la=none->cap=0)∧zgF w G E L ∧
  ∀ (j:Nat) u,(yk E)[j]? = some u->∃ lb lo,la=some ⟨lb,lo,none⟩∧G lb∧w.cell? ⟨lb,lo+j,none⟩=some u
theorem ZI.chg {S:Nat->Prop} {w w':World} {v:Value} {G:Nat->Prop} {L:List Za} (h:ZI w v G L) (hc:Chg S w w') (hs:∀ k,G k->¬ S k):ZI w' v G L:=by
 obtain ⟨E,la,cap,h1,h2,h3,h4,h5,h6⟩:=h;exact ⟨E,la,cap,h1,h2,h3,h4,h5.chg hc hs,fun j u hj=>by obtain ⟨lb,lo,q1,q2,q3⟩:=h6 j u hj;exact ⟨lb,lo,q1,q2,zj hc (hs lb q2) q3⟩⟩
theorem ZI.up {w:World} {v:Value} {G G':Nat->Prop} {L:List Za} (h:ZI w v G L) (hg:∀ k,G k->G' k):ZI w v G' L:=by
 obtain ⟨E,la,cap,h1,h2,h3,h4,h5,h6⟩:=h;exact ⟨E,la,cap,h1,h2,h3,h4,h5.up hg,fun j u hj=>by obtain ⟨lb,lo,q1,q2,q3⟩:=h6 j u hj;exact ⟨lb,lo,q1,hg _ q2,q3⟩⟩
theorem ZI.get {w:World} {la:Option Addr} {n cap:Nat} {G:Nat->Prop} {L:List Za} (h:ZI w (.slice la n cap) G L) {j:Nat} {x:Za} (hj:L[j]? = some x):
  ∃ g o sa sc,la=some ⟨g,o,none⟩∧G g∧w.cell? ⟨g,o+j*2,none⟩=some (.int .i64 x.1)∧w.cell? ⟨g,o+j*2+1,none⟩=some (.slice sa x.2.length sc)∧xf w (.slice sa x.2.length sc) G x.2:=by
 obtain ⟨E,la',cap',e,_,_,_,h5,h6⟩:=h;cases e;have hl:=(zq1.1 hj).1;obtain ⟨e,he⟩:∃ e,E[j]? = some e:=⟨_,zq0 (by rw [h5.len];exact hl)⟩;obtain ⟨q1,q2⟩:=h5.ent j e x he hj;obtain ⟨c1,c2⟩:=zc1 E j e he;obtain ⟨g,o,e1,hg,d1⟩:=h6 _ _ c1;obtain ⟨g',o',e2,_,d2⟩:=h6 _ _ c2;cases e1;cases e2;obtain ⟨sa,sc,e3⟩:=q2.shape;rw [e3] at d2 q2;rw [q1] at d1;exact ⟨g,o,sa,sc,rfl,hg,d1,by rw [Nat.add_assoc];exact d2,q2⟩
theorem ZI.shape {w:World} {v:Value} {G:Nat->Prop} {L:List Za} (h:ZI w v G L):∃ la cap,v=.slice la L.length cap∧L.length<=cap∧cap<=maxLen:=by
 obtain ⟨E,la,cap,h1,h2,h3,_⟩:=h;exact ⟨la,cap,h1,h2,h3⟩
theorem zc0 (w:World) (G:Nat->Prop):ZI w (.slice none 0 0) G []:=
 ⟨[],none,0,rfl,zrj _,by unfold maxLen;omega,fun _=>rfl,⟨rfl,fun j e x h=>by simp at h⟩,fun j u h=>by simp [yk] at h⟩
theorem zfF {w:World} {base:Nat} {v:Value} {G:Nat->Prop} {E:List (Int × Value)} {L:List Za} (h:w.ownsRow base 56 2 v E.length (yk E)) (hE:zgF w G E L) (hG:∀ k,v.ownBlock=some k->G k):ZI w v G L:=by
 have h0:=h;obtain ⟨h1,⟨rfl,h2⟩ | ⟨g,cap,cur,rfl,hg,hh,q1,q2,q3,q4⟩⟩:=h
 ·have hn:L=[]:=List.eq_nil_of_length_eq_zero (by rw [<- hE.len,h2])
  subst hn;exact zc0 w G
 ·refine ⟨E,_,cap,by rw [hE.len],by rw [<- hE.len];exact q1,q2,(fun e=>by cases e),hE,fun j u hj=>⟨g,0,rfl,hG g rfl,?_⟩⟩
  have hj':=(zq1.1 hj).1;rw [Yh] at hj';rw [Nat.zero_add,h0.cellAt (j:=j) (by omega)];exact hj
theorem Tryz.elemEntry:Zt Tryz.prog 56 2 32:=Zj (z:=.agg #[.int .i64 0,.slice none 0 0]) (by kernel_rfl) rfl (by decide)
def znf (x:Za):Prop:=(0<=x.1∧x.1 < 8)∧zaJ x.2=true
instance (x:Za):Decidable (znf x):=by unfold znf;infer_instance
def zkY (x:Za):Bool:=decide (znf x)
theorem zcp {x:Za}:zkY x=true↔(0<=x.1∧x.1 < 8)∧zaJ x.2=true:=zra
theorem xV {l:List ByteArray} (h:zaJ l=true):1<=l.length∧l.length<=16:=by
 have h:=of_decide_eq_true h;have h1:=h.1;have h2:=h.2.1;rw [zhh] at h1 h2;exact ⟨h1,h2⟩
def zbu (x:Za) (L:List Za):Int:=if zkY x=true then (if x∈L then 11 else if 12<=L.length then 3 else 0) else 2
def zeN (x:Za) (L:List Za):List Za:=if zbu x L=0 then L++[x] else L
structure LOk (L:List Za):Prop where
 nodup:L.Nodup
 may:∀ x∈L,zkY x=true
 few:L.length<=12
theorem zm5 {x:Za} {L:List Za} (h:zbu x L=0):zkY x=true∧x ∉ L∧L.length < 12:=by
 unfold zbu at h;by_cases h1:zkY x=true
 ·rw [if_pos h1] at h
  by_cases h2:x∈L
  ·rw [if_pos h2] at h;simp at h
  ·rw [if_neg h2] at h
   by_cases h3:12<=L.length
   ·rw [if_pos h3] at h;simp at h
   ·exact ⟨h1,h2,by omega⟩
 ·rw [if_neg h1] at h;simp at h
def zeo:List Za->List Za->Int
 | _,[]=>0
 | L,x :: r=>if zbu x L=0 then zeo (L++[x]) r else zbu x L
theorem zhf {l:List Za} {k:Nat} {x:Za} (hx:l[k]? = some x):zeo (l.take k) (l.drop k)=if zbu x (l.take k)=0 then zeo (l.take (k+1)) (l.drop (k+1)) else zbu x (l.take k):=by
 have hl:=(zq1.1 hx).1;rw [List.drop_eq_getElem_cons hl,zeo,(zq1.1 hx).2,zri,hx];rfl
end Go.Proofs.YthdfplafihmejaaGreat
