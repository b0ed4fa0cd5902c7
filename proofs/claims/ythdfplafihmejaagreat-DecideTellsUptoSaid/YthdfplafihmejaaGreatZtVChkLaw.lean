/-
  QSame: what else. VPlain2: what else. VArgs: what else. VWrap: what else. VWhyProof: what else. DecideChecks, walked.
-/
import Derived.Test.YthdfplafihmejaaGreatZtQSame
import Derived.Test.YthdfplafihmejaaGreatZtAEntZ
import Derived.Test.YthdfplafihmejaaGreatZtUPlainY
import Derived.Test.YthdfplafihmejaaGreatZtVPlain2
import Derived.Test.YthdfplafihmejaaGreatZtVWhyProof
import Derived.Test.YthdfplafihmejaaGreatZtVWrap
namespace Go.Proofs.YthdfplafihmejaaGreat
open Go.RowKit Go.Maps
set_option maxRecDepth 100000 in
theorem zdc (w:World) (va vb:Value) (a:zE) (G G':Nat->Prop) (ha:Yq w va G a) (hb:Yq w vb G' a):
  Calls Tryz.prog 70 #[va,vb] w fun e w'=>e=.returned (.bool true)∧Chg (fun _=>False) w w':=by
 obtain ⟨la,ca,rfl,hl1,hl3⟩:=ha.at_;obtain ⟨lb,cb,rfl,hm1,hm3⟩:=hb.at_;have HL3:=ze hl3;have HM3:=ze hm3;unfold maxLen at hl1 hm1;clear hl3 hm3 ha hb;have hne:((a.length:Int) != (a.length:Int))=false:=by simp
 go_enter Tryz.func70,Tryz.ntmps70;go_wp2;go_loopw [5] (fun iv wr=>∃ k:Nat,k<=a.length∧iv=.int .i64 k∧Chg (fun _=>False) w wr) (fun iv _=>a.length - (intOf iv).toNat)
 case atStart=>exact ⟨0,by omega,rfl,Chg.refl _ _⟩
 case round=>
  obtain ⟨k,hk,rfl,hc⟩:=hrel;by_cases hlt:k < a.length
  ·obtain ⟨⟨x1,x2⟩,hx⟩:∃ x,a[k]? = some x:=⟨_,zq0 hlt⟩
   obtain ⟨ga,oa,rfl,_,a0,a1⟩:=HL3.out k _ hx;obtain ⟨gb,ob,rfl,_,b0,b1⟩:=HM3.out k _ hx;have c0:=zj hc (fun e=>e) a0;have c1:=zj hc (fun e=>e) a1;have e0:=zj hc (fun e=>e) b0;have e1:=zj hc (fun e=>e) b1;have HC:=ze hc;simp only at c0 c1 e0 e1;have g1:(x1 == x1)=true:=by simp
   have g2:(x2 == x2)=true:=by simp
   clear a0 b0 a1 b1 hc hx;go_wp2;go_quiet (fail);rename_i nq;have HC2:=ze (HC.out.drewN nq);go_wp2;go_roundw
   case rel=>exact ⟨k+1,by omega,by go_num,HC2.out⟩
   case measure=>simp [intOf];omega
  ·obtain rfl:k=a.length:=by omega
   go_wp2;go_ret;exact ⟨rfl,hc⟩
set_option maxHeartbeats 4000000 in
set_option maxRecDepth 100000 in
theorem zj8 (w:World) (iv sv jv tv:Value) (p:zL) (G G':Nat->Prop) (ha:Zz w iv sv G p) (hb:Zz w jv tv G' p):
  Calls Tryz.prog 39 #[.agg #[iv,sv],.agg #[jv,tv]] w fun e w'=>e=.returned (.bool true)∧Chg (fun _=>False) w w':=by
 have il:p.items.length<=9223372036854775807:=by obtain ⟨_,_,_,q,_⟩:=ha.items;unfold maxLen at q;omega
 have HA:=ze ha;have HB:=ze hb;obtain ⟨ia,ic,rfl⟩:=ha.items.shape;obtain ⟨sa,sc,rfl⟩:=ha.steps.shape;obtain ⟨ja,jc,rfl⟩:=hb.items.shape;obtain ⟨ta,tc,rfl⟩:=hb.steps.shape;have k1:=zi (fun _=>False) w (.cells #[.slice ia p.items.length ic,.slice sa p.steps.length sc] 83);have k2:=zi (fun _=>False) (w.alloc (.cells #[.slice ia p.items.length ic,.slice sa p.steps.length sc] 83)) (.cells #[.slice ja p.items.length jc,.slice ta p.steps.length tc] 83);have o1:=zh (w.alloc (.cells #[.slice ia p.items.length ic,.slice sa p.steps.length sc] 83)) (.cells #[.slice ja p.items.length jc,.slice ta p.steps.length tc] 83);rw [zq8] at o1;have O0:=ze (k2.obj (fun e=>e) (zh w (.cells #[.slice ia p.items.length ic,.slice sa p.steps.length sc] 83)));have O1:=ze o1;have K2:=ze (k1.trans k2);have ST:=ze (fun W (k:Chg (fun _=>False) w W)=>zdc W _ _ p.steps _ _ (ha.steps.chg k (fun _ _ e=>e)) (hb.steps.chg k (fun _ _ e=>e)));have hne:((p.items.length:Int) != (p.items.length:Int))=false:=by simp
 clear k1 k2 o1 ha hb;go_enter Tryz.func39,Tryz.ntmps39;go_upto_region 1 with fail;generalize (w.alloc (.cells #[.slice ia p.items.length ic,.slice sa p.steps.length sc] 83)).alloc (.cells #[.slice ja p.items.length jc,.slice ta p.steps.length tc] 83)=w1 at *;generalize w.heap.size+1=b3 at *;obtain ⟨b2,hb2⟩:∃ b2,b2=w.heap.size:=⟨_,rfl⟩;rw [<- hb2] at O0;rw [<- hb2];clear hb2;have p0:=zf (o:=0) O0.out rfl;have p1:=zf (o:=1) O0.out rfl;have q0:=zf (o:=0) O1.out rfl;have q1:=zf (o:=1) O1.out rfl;have S1:=ze (ST.out w1 K2.out);clear ST;go_wp2_with fail;(with_reducible refine S1.out.mono ?_);rintro e w2 ⟨rfl,k2⟩;have KW:=ze (K2.out.trans k2);have P0:=ze (k2.obj (fun e=>e) O0.out);have P1:=ze (k2.obj (fun e=>e) O1.out);clear k2 S1 O0 O1 K2 p0 p1 q0 q1;go_wp2;go_loopw [5] (fun iv wr=>∃ k:Nat,k<=p.items.length∧iv=.int .i64 k∧Hid (Chg (fun _=>False) w2 wr)) (fun iv _=>p.items.length - (intOf iv).toNat)
 case atStart=>exact ⟨0,by omega,rfl,ze (Chg.refl _ _)⟩
 case round=>
  obtain ⟨k,hk,rfl,KC⟩:=hrel;obtain ⟨wo,hwo⟩:∃ wo,wo=wr:=⟨_,rfl⟩;subst hwo;have p0:=zf (o:=0) (KC.out.obj (fun e=>e) P0.out) rfl;have q0:=zf (o:=0) (KC.out.obj (fun e=>e) P1.out) rfl;by_cases hlt:k < p.items.length
  rotate_left
  ·obtain rfl:k=p.items.length:=by omega
   go_wp2;go_ret;exact ⟨rfl,KW.out.trans KC.out⟩
  obtain ⟨x,hx⟩:∃ x,p.items[k]? = some x:=⟨_,zq0 hlt⟩;obtain ⟨_,_,e1,_,hcl⟩:=HA.out.items;cases e1;obtain ⟨la,lo,pv,rfl,_,a0,a1,hpa⟩:=hcl k _ hx;obtain ⟨_,_,e1,_,hcl2⟩:=HB.out.items;cases e1;obtain ⟨lb,lp,pw,rfl,_,b0,b1,hpb⟩:=hcl2 k _ hx;have hpl:=hpa.len;obtain ⟨pa,pc,rfl⟩:=hpa.shape;obtain ⟨pb,pd,rfl⟩:=hpb.shape;have KK:=ze (KW.out.trans KC.out);have c0:=zj KK.out (fun e=>e) a0;have c1:=zj KK.out (fun e=>e) a1;have HPA:=ze hpa;have HPB:=ze hpb;have B0:=ze b0;have B1:=ze b1;obtain ⟨cert,paths⟩:=x;simp only at c0 c1 hpl HPA HPB B0 B1;clear a0 a1 b0 b1 hcl hcl2 hx hpa hpb;have hne2:((paths.length:Int) != (paths.length:Int))=false:=by simp
  have hne3:(cert != cert)=false:=by simp
  have kx:=zi (fun _=>False) wo (.cells #[.int .i64 cert,.slice pa paths.length pc] 98);have OX:=ze (zh wo (.cells #[.int .i64 cert,.slice pa paths.length pc] 98));have KX:=ze (KK.out.trans kx);have CX:=ze (KC.out.trans kx);have r0:=zf (o:=0) (CX.out.obj (fun e=>e) P1.out) rfl;clear kx;go_upto_region 7 with fail;clear p0 q0 c0 c1;generalize wo.alloc (.cells #[.int .i64 cert,.slice pa paths.length pc] 98)=wx at *;generalize wo.heap.size=b6 at *;have d0:=zj KX.out (fun e=>e) B0.out;have d1:=zj KX.out (fun e=>e) B1.out;have ky:=zi (fun _=>False) wx (.cells #[.int .i64 cert,.slice pb paths.length pd] 98);have OY:=ze (zh wx (.cells #[.int .i64 cert,.slice pb paths.length pd] 98));have OX2:=ze (ky.obj (fun e=>e) OX.out);have KY:=ze (KX.out.trans ky);have CY:=ze (CX.out.trans ky);clear ky OX CX KX B0 B1;go_upto_region 8 with fail;clear d0 d1 r0;generalize wx.alloc (.cells #[.int .i64 cert,.slice pb paths.length pd] 98)=wy at *;generalize wx.heap.size=b7 at *;have x0:=zf (o:=0) OX2.out rfl;have x1:=zf (o:=1) OX2.out rfl;have y0:=zf (o:=0) OY.out rfl;have y1:=zf (o:=1) OY.out rfl;go_wp2;clear x0 x1 y0 y1;go_loopw [8] (fun iv wr=>∃ q:Nat,q<=paths.length∧iv=.int .i64 q∧Hid (Chg (fun _=>False) wy wr)) (fun iv _=>paths.length - (intOf iv).toNat)
  case atStart=>exact ⟨0,by omega,rfl,ze (Chg.refl _ _)⟩
  case round=>
   obtain ⟨q,hq,rfl,KQ⟩:=hrel;have x1:=zf (o:=1) (KQ.out.obj (fun e=>e) OX2.out) rfl;have y1:=zf (o:=1) (KQ.out.obj (fun e=>e) OY.out) rfl;by_cases hql:q < paths.length
   rotate_left
   ·obtain rfl:q=paths.length:=by omega
    go_wp2;go_roundw
    case rel=>exact ⟨k+1,by omega,by go_num,ze (CY.out.trans KQ.out)⟩
    case measure=>simp [intOf];omega
   obtain ⟨l,hl⟩:∃ l,paths[q]? = some l:=⟨_,zq0 hql⟩;obtain ⟨_,_,e1,_,hcl⟩:=HPA.out;cases e1;obtain ⟨la2,lo2,sv2,rfl,_,a0,hsa⟩:=hcl q l hl;obtain ⟨_,_,e1,_,hcl2⟩:=HPB.out;cases e1;obtain ⟨lb2,lp2,tv2,rfl,_,b0,hsb⟩:=hcl2 q l hl;have KT:=ze (KY.out.trans KQ.out);have c0:=zj KT.out (fun e=>e) a0;have c1:=zj KT.out (fun e=>e) b0;have SS:=ze (fun W (k:Chg (fun _=>False) wr W)=>zdc W _ _ l _ _ (hsa.chg (KT.out.trans k) (fun _ _ e=>e)) (hsb.chg (KT.out.trans k) (fun _ _ e=>e)));clear hcl hcl2 hl hsa hsb a0 b0;go_wp2_with fail;refine zu (N:=74) [.rd [0,1,2,3,4,5,6,7,8,9],.ef 10,.rd [11]] (fun W=>(W.cell? ⟨b6,1,none⟩=some (.slice (some ⟨la2,lo2,none⟩) paths.length pc)∧W.cell? ⟨b7,1,none⟩=some (.slice (some ⟨lb2,lp2,none⟩) paths.length pd))∧(W.cell? ⟨la2,lo2+q,none⟩=some sv2∧W.cell? ⟨lb2,lp2+q,none⟩=some tv2)) (by kernel_rfl) (by kernel_rfl) (by kernel_rfl) (by kernel_rfl) (Nat.le_of_ble_eq_true rfl) ⟨⟨x1,y1⟩,c0,c1⟩ ?_;refine zB (A:=?A1) ?h1 ?h2
   case h1=>
    rintro w' ⟨⟨f0,f1⟩,f2,f3⟩ K hK;simp only [zM,zqT,zqU,zqV,zqW,zqX]
    repeat still_step
    refine wpStill_nil ?_;exact hK
   have D:=ze (zw (fun _=>False) wr);have SD:=ze (SS.out wr.drew D.out);have KD:=ze (KQ.out.trans D.out);have z0:=zj D.out (fun e=>e) x1;have z1:=zj D.out (fun e=>e) y1;have z2:=zj D.out (fun e=>e) c0;have z3:=zj D.out (fun e=>e) c1;clear SS D x1 y1 c0 c1;generalize wr.drew=wd at *;refine zI rfl ?_;go_wp2_with fail;(with_reducible refine SD.out.mono ?_);rintro e w9 ⟨rfl,k9⟩;have K9:=ze (KD.out.trans k9);have u0:=zj k9 (fun e=>e) z0;have u1:=zj k9 (fun e=>e) z1;have u2:=zj k9 (fun e=>e) z2;have u3:=zj k9 (fun e=>e) z3;clear k9 SD z0 z1 z2 z3 KD;go_wp2_with fail;refine ⟨⟨⟨u0,u1⟩,u2,u3⟩,?_⟩;refine zB (A:=?A2) ?h3 ?h4
   case h3=>
    intro w' hS K hK;clear hS;simp only [zM,zqT,zqU,zqV,zqW,zqX]
    repeat still_step
    refine wpStill_nil ?_;exact hK
   refine zR ?_;go_wp2;go_roundw
   case rel=>exact ⟨q+1,by omega,by go_num,K9⟩
   case measure=>simp [intOf];omega
section
variable {R:List zF} {C:List zq} {L:List Za} {op:Int} {c:List ByteArray} {b:Int}
end
open Go.ChangeShapes Go.WideShapes Go.ChangeAt
section
variable {W:World} {H:Type} {enc:TypeId × Value->H}
end
theorem zdm {w:World} {b:Nat} {a0 a1 a2:Value} {t:TypeId} {f:Nat × Nat} (h:w.heap[b]? = some (.cells #[a0,a1,a2] t f)):w.cell? ⟨b,0,none⟩=some a0∧w.cell? ⟨b,1,none⟩=some a1∧w.cell? ⟨b,2,none⟩=some a2:=
 ⟨zf (o:=0) h rfl,zf (o:=1) h rfl,zf (o:=2) h rfl⟩
end Go.Proofs.YthdfplafihmejaaGreat

namespace Go.Proofs.YthdfplafihmejaaGreat.DecideWhyP
open Go.ChangeShapes Go.WideShapes Go.ChangeAt Go.RowKit
end Go.Proofs.YthdfplafihmejaaGreat.DecideWhyP
namespace Go.Proofs.YthdfplafihmejaaGreat
open Go.RowKit Go.Maps
set_option maxRecDepth 100000 in
theorem zl7 (w:World) (e:Int) (ta qa:Option Addr) (n tc m qc:Nat):Calls Tryz.prog 16 #[.agg #[.int .i64 e,.slice ta n tc,.slice qa m qc]] w fun en w'=>en=.returned (.agg #[.int .i64 e,.slice ta n tc,.slice qa m qc])∧Chg (fun _=>False) w w':=by
 have B1:=zh (w.alloc (.cells #[.int .i64 e,.slice ta n tc,.slice qa m qc] 39)) (.cells #[.int .i64 0,.slice none 0 0,.slice none 0 0] 42);have B2:=zh (w.alloc (.cells #[.int .i64 e,.slice ta n tc,.slice qa m qc] 39)) (.cells #[.int .i64 e,.slice ta n tc,.slice qa m qc] 42);rw [zq8] at B1 B2;have KB:=ze ((zi (fun _=>False) w (.cells #[.int .i64 e,.slice ta n tc,.slice qa m qc] 39)).trans (zi _ _ (.cells #[.int .i64 e,.slice ta n tc,.slice qa m qc] 42)));have OB:=ze B2;obtain ⟨c0,c1,c2⟩:=zdm (Ze (.cells #[.int .i64 0,.slice none 0 0,.slice none 0 0] 42) (zh w (.cells #[.int .i64 e,.slice ta n tc,.slice qa m qc] 39)));obtain ⟨d0,d1,d2⟩:=zdm B1;have fz:∀ i,((w.alloc (.cells #[.int .i64 e,.slice ta n tc,.slice qa m qc] 39)).alloc (.cells #[.int .i64 0,.slice none 0 0,.slice none 0 0] 42)).frozen? ⟨w.heap.size+1,i,none⟩=false:=fun i=>zm B1;clear B1 B2;go_enter Tryz.func16,Tryz.ntmps16;go_wp2;obtain ⟨f0,f1,f2⟩:=zdm OB.out;generalize (w.alloc (.cells #[.int .i64 e,.slice ta n tc,.slice qa m qc] 39)).alloc (.cells #[.int .i64 e,.slice ta n tc,.slice qa m qc] 42)=wf at *;refine bodyPost_ret (v:=.agg #[.int .i64 e,.slice ta n tc,.slice qa m qc]) ?_ rfl ?_
 · simp [results,Tryz.results16,go_sem,f0,f1,f2]
 · exact ⟨rfl,KB.out⟩
end Go.Proofs.YthdfplafihmejaaGreat
