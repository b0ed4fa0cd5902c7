/-
  The reference's Cut, walked.
-/
import Derived.Test.YthdfplafihmejaaGreatZtUPlainY
import Derived.Test.YthdfplafihmejaaGreatZtAEntZ
import Derived.Test.YthdfplafihmejaaGreatZtBaseZ
import Derived.Test.YthdfplafihmejaaGreatZtRRefAZ
import Derived.Test.YthdfplafihmejaaGreatZtVShort
import Derived.Test.YthdfplafihmejaaGreatZtDRun
import Derived.Test.YthdfplafihmejaaGreatZtQRef1
import Derived.Test.YthdfplafihmejaaGreatZtKit2
namespace Go.Proofs.YthdfplafihmejaaGreat
open Go.RowKit Go.Maps
theorem zqQ (w:World) (a b c:Obj):Chg (fun _=>False) w (((w.alloc a).alloc b).alloc c)∧(((w.alloc a).alloc b).alloc c).heap[w.heap.size]? = some a∧(((w.alloc a).alloc b).alloc c).heap[w.heap.size+1]? = some b∧(((w.alloc a).alloc b).alloc c).heap[w.heap.size+2]? = some c∧(((w.alloc a).alloc b).alloc c).heap.size=w.heap.size+3:=by
  have k1:=zi (fun _=>False) w a;have k2:=zi (fun _=>False) (w.alloc a) b;have k3:=zi (fun _=>False) ((w.alloc a).alloc b) c;have o1:=zh w a;have o2:=zh (w.alloc a) b;have o3:=zh ((w.alloc a).alloc b) c;rw [zq8] at o2;rw [zq8,zq8] at o3;exact ⟨(k1.trans k2).trans k3,(k2.trans k3).obj (fun e=>e) o1,k3.obj (fun e=>e) o2,o3,by rw [zq8,zq8,zq8]⟩
def zjM (w:World) (gn:Nat) (M:List Bool):Prop:=w.heap[gn]? = some (.cells (M.map Value.bool).toArray 4 (0,0))
theorem zjM.set {w:World} {gn:Nat} {M:List Bool} (h:zjM w gn M) (i:Nat) (b:Bool):zjM (w.setCell ⟨gn,i,none⟩ (.bool b)) gn (M.set i b):=by
  unfold zjM at h ⊢;rw [zt (o:=i) h (.bool b)]
  congr 2
  rw [List.map_set,List.setIfInBounds_toArray]
theorem zjM.chg {w w':World} {gn:Nat} {M:List Bool} (h:zjM w gn M) (k:Chg (fun _=>False) w w'):zjM w' gn M:=k.obj (fun e=>e) h
theorem zjM.cell {w:World} {gn:Nat} {M:List Bool} (h:zjM w gn M) {i:Nat} {b:Bool} (hi:M[i]? = some b):w.cell? ⟨gn,i,none⟩=some (.bool b):=zf (o:=i) h (by rw [zqV,zrb,hi];rfl)
set_option maxHeartbeats 32000000 in
set_option maxRecDepth 100000 in
theorem znE (w:World) (roots:Int) (v iv sv:Value) (P:List (zq × Value)) (p:zL) (G G':Nat->Prop) (hv:ym w v G P) (hp:Zz w iv sv G' p) (hG:∀ k,G' k->k < w.heap.size) (hf:xz p) (hI:p.items.length<=1000) (hC:∀ c∈zk P,c.fr.length<=1000) (hL:p.steps.length<=1000000) (hLs:∀ x∈p.items,x.paths.length<=1000∧∀ l∈x.paths,l.length<=1000000) (hr1:-9223372036854775808<=roots) (hr2:roots<=1099511627776):
    Calls Tryz.prog 69 #[.int .i64 roots,v,.agg #[iv,sv]] w (zhN w roots (zk P) p):=by
  have HP:=ze hp;have HG:=ze hG;have HLS:=ze hLs;obtain ⟨la,lcap,hvs,_,_⟩:=id hv;obtain ⟨ia,ic,rfl⟩:=hp.items.shape;obtain ⟨sa,sc,rfl⟩:=hp.steps.shape;have FS:=ze (fun (s:Int × Int) (hs:s∈p.steps)=>show s.2<=9223372036854775807 from (hf.steps s hs).2.2);have FI:=ze (fun (k:Nat) (x:zP) (hx:p.items[k]? = some x) (l:zE) (hl:l∈x.paths) (s:Int × Int) (hs:s∈l)=>show s.2<=9223372036854775807 from ((hf.items x (zq2 hx)).2 l hl s hs).2.2);have TB:=ze (fun k (hk:k<=p.items.length)=>show tot (zk P) p.items k<=1000000 from Nat.le_trans (zb9 hC p.items k) (by have:=Nat.mul_le_mul_right 1000 (Nat.le_trans hk hI);omega));have TM:=ze (fun k=>zi4 (zk P) p.items k);have COK:=ze (fun h0 hin hl hi=>@zon roots (zk P) p h0 hin hl hi);have NOR:=ze (fun (h:¬ zaG (zk P) p.items) (q:yF roots (zk P) p)=>h (ziH q));have NOZ:=ze (fun (h:roots < 0) (q:yF roots (zk P) p)=>show False from by have:=q.root;omega);have NOL:=ze (fun (h:xd (roots+(tot (zk P) p.items p.items.length:Int)) p.steps=false) (q:yF roots (zk P) p)=>show False from by have:=zk5 q;rw [h] at this;cases this);have NOP:=ze (fun (k:Nat) (x:zP) (hx:p.items[k]? = some x) (l:zE) (hl:l∈x.paths) (h:xd (roots+(tot (zk P) p.items k:Int)) l=false) (q:yF roots (zk P) p)=>show False from by have:=zk4 q hx hl;rw [h] at this;cases this);have DE:=ze (fun (q:yF roots (zk P) p) i (hi:i < p.items.length)=>znu q hi);have DS:=ze (fun (i k:Nat) (x:zP) (hx:p.items[k]? = some x) (h:i < k)=>@zlD roots (zk P) p i k x hx h);have D0:=ze (fun i=>zj4 roots (zk P) p i);have AL:=ze (fun (k:Nat) (hk:k<=p.items.length) (l:zE) (hl:∀ s∈l,s.2 < roots+tot (zk P) p.items k)=>@zkn roots (zk P) p k hk l hl);have STD:=ze (fun (q:yF roots (zk P) p) (k:Nat) (x:zP) (hx:p.items[k]? = some x) (l:zE) (hl:l∈x.paths) (s:Int × Int) (hs:s∈l)=>q.stands hx hl hs);have LST:=ze (fun (q:yF roots (zk P) p) (s:Int × Int) (hs:s∈p.steps)=>q.lasts hs);have CE:=ze (show zgE roots (zk P) p=⟨za5 roots (zN (zk P) p.items) (YU (zk P) p.items (xh roots (zN (zk P) p.items) p)) (xh roots (zN (zk P) p.items) p) p.items p.items.length,YZ roots (zN (zk P) p.items) (YU (zk P) p.items (xh roots (zN (zk P) p.items) p)) p.steps⟩ from rfl);have NDD:=ze (fun i=>show zdr roots (zk P) p i=(xh roots (zN (zk P) p.items) p).getD i false from rfl);obtain ⟨kw,o0,o1,o2,hsz⟩:=zqQ w (.cells #[.slice ia p.items.length ic,.slice sa p.steps.length sc] 83) (.cells #[.slice none 0 0,.slice none 0 0] 83) (.cells #[.slice none 0 0,.slice none 0 0] 83);have FR:=zih _ roots v (.slice ia p.items.length ic) (.slice sa p.steps.length sc) P p G G' (hv.chg kw (fun _ _ e=>e)) (hp.chg kw (fun _ _ e=>e)) hI hC hr1 hr2;unfold zgz at FR;have FR:=ze FR;have K1:=ze kw;have O0:=ze o0;have O1:=ze o1;have O2:=ze o2;have q0:=zf (o:=0) o0 rfl;have q1:=zf (o:=1) o0 rfl;have HS:=ze hsz;subst hvs;unfold zhN;obtain ⟨T,hT⟩:∃ T:Nat->Nat,T=tot (zk P) p.items:=⟨_,rfl⟩;obtain ⟨N,hN⟩:∃ N:Nat->Bool,N=zdr roots (zk P) p:=⟨_,rfl⟩;obtain ⟨U,hU⟩:∃ U:Nat->List zE->Bool,U=zpY roots (zk P) p:=⟨_,rfl⟩;have UX:=ze (fun i ps=>show U i ps=ps.any (zb5 (roots+(T i:Int)) (roots+(T (i+1):Int))) from by rw [hU,hT];rfl);simp only [<- hT,<- hN,<- hU] at TB TM COK NOL NOP DE DS D0 AL STD LST NDD FR;obtain ⟨D,hD⟩:∃ D:Nat->Nat->Bool,D=zoz roots (zk P) p:=⟨_,rfl⟩;simp only [<- hD] at DE DS D0;obtain ⟨need,hneed⟩:∃ need:List Bool,need=xh roots (zN (zk P) p.items) p:=⟨_,rfl⟩;rw [<- hneed] at CE;simp only [<- hneed] at AL NDD;obtain ⟨GT,hGT⟩:∃ GT:Nat->Nat,GT=YU (zk P) p.items need:=⟨_,rfl⟩;rw [<- hGT] at CE;simp only [<- hGT] at AL;obtain ⟨B,hB⟩:∃ B:List Nat,B=zN (zk P) p.items:=⟨_,rfl⟩;rw [<- hB] at CE;simp only [<- hB] at AL;generalize zgE roots (zk P) p=RES at *;generalize yF roots (zk P) p=OK at *;clear hv hp hG hf hC hLs kw o0 o1 o2 hsz hT hN hU hD hneed hGT hB;generalize zaG (zk P) p.items=IR at *;go_enter Tryz.func69,Tryz.ntmps69;go_wp2_with fail;clear q0 q1;generalize ((w.alloc (.cells #[.slice ia p.items.length ic,.slice sa p.steps.length sc] 83)).alloc (.cells #[.slice none 0 0,.slice none 0 0] 83)).alloc (.cells #[.slice none 0 0,.slice none 0 0] 83)=w1 at *;(with_reducible refine FR.out.mono ?_);rintro e w2 ⟨k2,hres⟩;have KK2:=ze (K1.out.trans k2);have HZ2:=ze (show w.heap.size+3<=w2.heap.size from by have:=k2.size;have:=HS.out;omega);have HZ1:=ze (show w.heap.size<=w1.heap.size from by have:=HS.out;omega);have P0:=ze (k2.obj (fun e=>e) O0.out);have P1:=ze (k2.obj (fun e=>e) O1.out);have P2:=ze (k2.obj (fun e=>e) O2.out)
  have FAIL:=ze (fun (wr:World) (kr:Chg (fun _=>False) w2 wr) (W:World) (hW:W=(wr.setCell ⟨w.heap.size+1,0,none⟩ (.slice none 0 0)).setCell ⟨w.heap.size+1,1,none⟩ (.slice none 0 0))=>show Chg (fun _=>False) w W∧W.cell? ⟨w.heap.size+1,0,none⟩=some (.slice none 0 0)∧W.cell? ⟨w.heap.size+1,1,none⟩=some (.slice none 0 0) from by
    obtain ⟨ob,kW⟩:=zd6 (kr.obj (fun e=>e) P1.out) _ _ W hW;exact ⟨(KK2.out.trans kr).next kW (fun i hi e=>by omega),zf ob rfl,zf ob rfl⟩)
  have NONE:=ze (fun (wr:World) (kr:Chg (fun _=>False) w2 wr)=>show wr.cell? ⟨w.heap.size+2,0,none⟩=some (.slice none 0 0)∧wr.cell? ⟨w.heap.size+2,1,none⟩=some (.slice none 0 0)∧wr.cell? ⟨w.heap.size+1,0,none⟩=some (.slice none 0 0)∧wr.cell? ⟨w.heap.size+1,1,none⟩=some (.slice none 0 0)∧wr.frozen? ⟨w.heap.size+1,0,none⟩=false∧wr.frozen? ⟨w.heap.size+1,1,none⟩=false from by
    have a1:=kr.obj (fun e=>e) P1.out;have a2:=kr.obj (fun e=>e) P2.out;exact ⟨zf (o:=0) a2 rfl,zf (o:=1) a2 rfl,zf (o:=0) a1 rfl,zf (o:=1) a1 rfl,zm (o:=0) a1,zm (o:=1) a1⟩)
  clear FR O0 O1 O2 K1 HS;rcases hres with ⟨hin,fv,rfl,hrow⟩ | ⟨hno,rfl⟩
  rotate_left
  · as_aux_lemma=>
    have NO:=ze (NOR.out hno);have K2D:=ze (fun n=>(Chg.refl (fun _=>False) w2).drewN n);clear hno k2;cases hr0:decide (roots < 0) with
    | true=>
      go_wp2_with fail;go_quiet (fail);rename_i nq;obtain ⟨n0,n1,d0,d1,e0,e1⟩:=NONE.out _ (K2D.out nq);go_wp2;obtain ⟨W,hW⟩:∃ W,W=((w2.drewN nq).setCell ⟨w.heap.size+1,0,none⟩ (.slice none 0 0)).setCell ⟨w.heap.size+1,1,none⟩ (.slice none 0 0):=⟨_,rfl⟩;rw [<- hW];obtain ⟨kf,z0,z1⟩:=FAIL.out _ (K2D.out nq) W hW;clear hW;refine bodyPost_ret (v:=.tuple #[.agg #[.slice none 0 0,.slice none 0 0],.int .i64 2]) (by simp [results,Tryz.results69,go_sem,z0,z1]) rfl ?_;exact ⟨kf,.inr ⟨NO.out,rfl⟩⟩
    | false=>
      go_wp2_with fail;go_quiet (fail);rename_i nq;obtain ⟨n0,n1,d0,d1,e0,e1⟩:=NONE.out _ (K2D.out nq);go_wp2;obtain ⟨W,hW⟩:∃ W,W=((w2.drewN nq).setCell ⟨w.heap.size+1,0,none⟩ (.slice none 0 0)).setCell ⟨w.heap.size+1,1,none⟩ (.slice none 0 0):=⟨_,rfl⟩;rw [<- hW];obtain ⟨kf,z0,z1⟩:=FAIL.out _ (K2D.out nq) W hW;clear hW;refine bodyPost_ret (v:=.tuple #[.agg #[.slice none 0 0,.slice none 0 0],.int .i64 2]) (by simp [results,Tryz.results69,go_sem,z0,z1]) rfl ?_;exact ⟨kf,.inr ⟨NO.out,rfl⟩⟩
  have HIN:=ze hin
  obtain ⟨fb,fc,rfl⟩:∃ fb fc,fv=.slice (some ⟨fb,0,none⟩) (p.items.length+1) fc:=by
    obtain ⟨fa,fc,rfl⟩:=zl hrow;obtain ⟨g,rfl⟩:=ZA hrow (by omega);exact ⟨g,fc,rfl⟩
  have F2:=ze (fun k (hk:k<=p.items.length)=>show w2.cell? ⟨fb,k,none⟩=some (.int .i64 (roots+(T k:Int))) from by
    have:=hrow.cellAt (j:=k) (by omega);rw [zkV (by omega)] at this;exact this)
  have hfb2:fb < w2.heap.size:=(hrow.lt fb rfl).2;have hfb1:w1.heap.size<=fb:=(hrow.lt fb rfl).1;clear hrow hin k2 NOR;cases hr0:decide (roots < 0) with
  | true=>
    as_aux_lemma=>
    have NO:=ze (NOZ.out (of_decide_eq_true hr0));have K2D:=ze (fun n=>(Chg.refl (fun _=>False) w2).drewN n);go_wp2_with fail;go_quiet (fail);rename_i nq;obtain ⟨n0,n1,d0,d1,e0,e1⟩:=NONE.out _ (K2D.out nq);go_wp2;obtain ⟨W,hW⟩:∃ W,W=((w2.drewN nq).setCell ⟨w.heap.size+1,0,none⟩ (.slice none 0 0)).setCell ⟨w.heap.size+1,1,none⟩ (.slice none 0 0):=⟨_,rfl⟩;rw [<- hW];obtain ⟨kf,z0,z1⟩:=FAIL.out _ (K2D.out nq) W hW;clear hW;refine bodyPost_ret (v:=.tuple #[.agg #[.slice none 0 0,.slice none 0 0],.int .i64 2]) (by simp [results,Tryz.results69,go_sem,z0,z1]) rfl ?_;exact ⟨kf,.inr ⟨NO.out,rfl⟩⟩
  | false=>
  have h0:0<=roots:=by have:=of_decide_eq_false hr0;omega
  have tn:=TB.out p.items.length (zrj _);have x1:IntKind.i64.wrap ((p.items.length:Int)+1 - 1)=(p.items.length:Int):=by rw [IntKind.wrap_i64] <;> omega
  have x2:IntKind.i64.wrap (((p.items.length+1:Nat):Int) - 1)=(p.items.length:Int):=by rw [IntKind.wrap_i64] <;> omega
  have x3:IntKind.i64.wrap (p.items.length:Int)=(p.items.length:Int):=by rw [IntKind.wrap_i64] <;> omega
  have x4:(p.items.length:Int) < (p.items.length:Int)+1:=by omega
  have q1:=zf (o:=1) P0.out rfl;have f1:=F2.out p.items.length (zrj _);obtain ⟨ab,hab⟩:∃ ab,ab=xd (roots+(T p.items.length:Int)) p.steps:=⟨_,rfl⟩;have AH0:=ze (fun (W:World) (k:Chg (fun _=>False) w2 W)=>zfp W (.slice sa p.steps.length sc) G' p.steps (roots+(T p.items.length:Int)) (HP.out.steps.chg (KK2.out.trans k) (fun _ _ e=>e)).at_);rw [<- hab] at AH0 NOL COK;clear hab;go_wp2_with fail;refine zu (N:=223) [.rd [0,1,2,3,4,5,6,7,8,9,10,11,12,13,14],.ef 15,.rd [16,17]] (fun W=>W.cell? ⟨w.heap.size,1,none⟩=some (.slice sa p.steps.length sc)∧W.cell? ⟨fb,p.items.length,none⟩=some (.int .i64 (roots+(T p.items.length:Int)))) (by kernel_rfl) (by kernel_rfl) (by kernel_rfl) (by kernel_rfl) (Nat.le_of_ble_eq_true rfl) ⟨q1,f1⟩ ?_;refine zB (A:=?A1) ?h1 ?h2
  case h1=>
    rintro w' ⟨z0,z1⟩ K hK;simp only [zM,zqT,zqU,zqV,zqW,zqX];refine WS.out ?_
    repeat (refine Zu (fun K hK=>?_);go_simp;refine hK _ ?_;clear hK K)
    refine yn ?_;exact hK
  have KD:=ze (zw (fun _=>False) w2);have AH:=ze (AH0.out _ KD.out);clear q1 f1 AH0;generalize w2.drew=wd at *;refine zI rfl ?_;go_wp2_with fail;(with_reducible refine AH.out.mono ?_);rintro e w4 ⟨rfl,k4⟩;have K4:=ze (KD.out.trans k4);have q1:=zf (o:=1) (K4.out.obj (fun e=>e) P0.out) rfl;have f1:=zj K4.out (fun e=>e) (F2.out p.items.length (zrj _));clear k4 KD AH;go_wp2_with fail;refine ⟨⟨q1,f1⟩,?_⟩;refine zB (A:=?A2) ?h3 ?h4
  case h3=>
    rintro w' z0 K hK;simp only [zM,zqT,zqU,zqV,zqW,zqX];refine WS.out ?_
    repeat (refine Zu (fun K hK=>?_);go_simp;refine hK _ ?_;clear hK K)
    refine yn ?_;exact hK
  refine zR ?_;clear q1 f1;cases ab with
  | false=>
    as_aux_lemma=>
    have NO:=ze (NOL.out rfl);obtain ⟨n0,n1,d0,d1,e0,e1⟩:=NONE.out _ K4.out;go_wp2;obtain ⟨W,hW⟩:∃ W,W=(w4.setCell ⟨w.heap.size+1,0,none⟩ (.slice none 0 0)).setCell ⟨w.heap.size+1,1,none⟩ (.slice none 0 0):=⟨_,rfl⟩;rw [<- hW];obtain ⟨kf,z0,z1⟩:=FAIL.out _ K4.out W hW;clear hW;refine bodyPost_ret (v:=.tuple #[.agg #[.slice none 0 0,.slice none 0 0],.int .i64 2]) (by simp [results,Tryz.results69,go_sem,z0,z1]) rfl ?_;exact ⟨kf,.inr ⟨NO.out,rfl⟩⟩
  | true=>
  clear NOL NOZ hr0;go_wp2;go_loopw [11] (fun iv wr=>∃ k:Nat,k<=p.items.length∧iv=.int .i64 k∧Hid (Chg (fun _=>False) w2 wr∧∀ (j:Nat) x,j < k->p.items[j]? = some x->∀ (m:Nat) l,x.paths[m]? = some l->xd (roots+(T j:Int)) l=true)) (fun iv _=>p.items.length - (intOf iv).toNat)
  case atStart=>exact ⟨0,by omega,rfl,ze ⟨K4.out,fun j x hj=>by omega⟩⟩
  case round=>
    obtain ⟨k,hk,rfl,HI⟩:=hrel;have KC:=ze HI.out.1;have ALL:=ze HI.out.2;have q0:=zf (o:=0) (KC.out.obj (fun e=>e) P0.out) rfl;clear HI K4;by_cases hlt:k < p.items.length
    · as_aux_lemma=>
      have g0:decide ((k:Int) < (p.items.length:Int))=true:=zqY (by omega);have g0':decide (k < p.items.length)=true:=zqY hlt;have y4:(k:Int) < (p.items.length:Int)+1:=by omega
      obtain ⟨x,hx⟩:∃ x,p.items[k]? = some x:=⟨_,zq0 hlt⟩;obtain ⟨_,_,e1,_,hcl⟩:=HP.out.items;cases e1;obtain ⟨lb,lo,pv,rfl,_,_,j1,hpa⟩:=hcl k _ hx;have hpl:=hpa.len;obtain ⟨pa,pc,rfl⟩:=hpa.shape;have HPA:=ze hpa;have J1:=ze j1;have NPX:=ze (fun l (hl:l∈x.paths) h=>NOP.out k x hx l hl h)
      have NX:=ze (fun (q:∀ (m:Nat) l,x.paths[m]? = some l->xd (roots+(T k:Int)) l=true)=>show ∀ (j:Nat) y,j < k+1->p.items[j]? = some y->∀ (m:Nat) l,y.paths[m]? = some l->xd (roots+(T j:Int)) l=true from fun j y hj hy=>by
        rcases Nat.lt_or_ge j k with z | z
        · exact ALL.out j y z hy
        · obtain rfl:j=k:=by omega
          rw [hx] at hy;cases hy;exact q)
      obtain ⟨cert,paths⟩:=x;simp only at hpl HPA J1 NPX NX;clear hcl hx hpa j1 ALL;go_wp2_with fail;clear q0;go_loopw [12] (fun jv wr=>∃ j:Nat,j<=paths.length∧jv=.int .i64 j∧Hid (Chg (fun _=>False) w2 wr∧∀ (m:Nat) l,m < j->paths[m]? = some l->xd (roots+(T k:Int)) l=true)) (fun jv _=>paths.length - (intOf jv).toNat)
      case atStart=>exact ⟨0,by omega,rfl,ze ⟨KC.out,fun m l hm=>by omega⟩⟩
      case round=>
        obtain ⟨j,hj,rfl,HJ⟩:=hrel;have KJ:=ze HJ.out.1;have ALJ:=ze HJ.out.2;have q0:=zf (o:=0) (KJ.out.obj (fun e=>e) P0.out) rfl;have i1:=zj (KK2.out.trans KJ.out) (fun e=>e) J1.out;clear HJ KC;by_cases hjl:j < paths.length
        · as_aux_lemma=>
          have g1:decide ((j:Int) < (paths.length:Int))=true:=zqY (by omega);have g1':decide (j < paths.length)=true:=zqY hjl;obtain ⟨l,hl⟩:∃ l,paths[j]? = some l:=⟨_,zq0 hjl⟩;obtain ⟨_,_,e1,_,hcl⟩:=HPA.out;cases e1;obtain ⟨lb2,lo2,pv2,rfl,_,s0,hst⟩:=hcl j l hl;obtain ⟨qa,qc,rfl⟩:=hst.shape;have HST:=ze hst;have r0:=zj (KK2.out.trans KJ.out) (fun e=>e) s0;have f0:=zj KJ.out (fun e=>e) (F2.out k hk);have NPL:=ze (NPX.out l (zq2 hl))
          have NXJ:=ze (fun (q:xd (roots+(T k:Int)) l=true)=>show ∀ (m:Nat) l',m < j+1->paths[m]? = some l'->xd (roots+(T k:Int)) l'=true from fun m l' hm hl'=>by
            rcases Nat.lt_or_ge m j with z | z
            · exact ALJ.out m l' z hl'
            · obtain rfl:m=j:=by omega
              rw [hl] at hl';cases hl';exact q)
          obtain ⟨ab,hab⟩:∃ ab,ab=xd (roots+(T k:Int)) l:=⟨_,rfl⟩;have AH0:=ze (fun (W:World) (k':Chg (fun _=>False) wr W)=>zfp W (.slice qa l.length qc) G' l (roots+(T k:Int)) (HST.out.chg (KK2.out.trans (KJ.out.trans k')) (fun _ _ e=>e)).at_);rw [<- hab] at AH0 NPL NXJ;clear hab hcl hl hst s0;go_wp2_with fail;refine zu (N:=223) [.rd [0,1,2,3,4,5,6,7,8,9,10,11,12],.ef 13,.rd [14]] (fun W=>W.cell? ⟨w.heap.size,0,none⟩=some (.slice (some ⟨lb,lo,none⟩) p.items.length ic)∧W.cell? ⟨lb,lo+k*2+1,none⟩=some (.slice (some ⟨lb2,lo2,none⟩) paths.length pc)∧W.cell? ⟨lb2,lo2+j,none⟩=some (.slice qa l.length qc)∧W.cell? ⟨fb,k,none⟩=some (.int .i64 (roots+(T k:Int)))) (by kernel_rfl) (by kernel_rfl) (by kernel_rfl) (by kernel_rfl) (Nat.le_of_ble_eq_true rfl) ⟨q0,i1,r0,f0⟩ ?_;refine zB (A:=?B1) ?n1 ?n2
          case n1=>
            rintro w' ⟨z0,z1,z2,z3⟩ K hK;simp only [zM,zqT,zqU,zqV,zqW,zqX]
            repeat still_step
            refine wpStill_nil ?_;exact hK
          have KD:=ze (zw (fun _=>False) wr);have AH:=ze (AH0.out _ KD.out);have SS:=ze (fun (W:World) (k':Chg (fun _=>False) wr W)=>And.intro (zj k' (fun e=>e) q0) (And.intro (zj k' (fun e=>e) i1) (And.intro (zj k' (fun e=>e) r0) (zj k' (fun e=>e) f0))));clear q0 i1 r0 f0 AH0;generalize wr.drew=wd at *;refine zI rfl ?_;go_wp2_with fail;(with_reducible refine AH.out.mono ?_);rintro e w5 ⟨rfl,k5⟩;have K5:=ze (KJ.out.trans (KD.out.trans k5));have ss:=SS.out _ (KD.out.trans k5);clear k5 KD AH SS;go_wp2_with fail;refine ⟨ss,?_⟩;clear ss;refine zB (A:=?B2) ?n3 ?n4
          case n3=>
            rintro w' z0 K hK;simp only [zM,zqT,zqU,zqV,zqW,zqX]
            repeat still_step
            refine wpStill_nil ?_;exact hK
          refine zR ?_;cases ab with
          | false=>
            have NO:=ze (NPL.out rfl);obtain ⟨n0,n1,d0,d1,e0,e1⟩:=NONE.out _ K5.out;go_wp2;obtain ⟨W,hW⟩:∃ W,W=(w5.setCell ⟨w.heap.size+1,0,none⟩ (.slice none 0 0)).setCell ⟨w.heap.size+1,1,none⟩ (.slice none 0 0):=⟨_,rfl⟩;rw [<- hW];obtain ⟨kf,z0,z1⟩:=FAIL.out _ K5.out W hW;clear hW;refine bodyPost_ret (v:=.tuple #[.agg #[.slice none 0 0,.slice none 0 0],.int .i64 2]) (by simp [results,Tryz.results69,go_sem,z0,z1]) rfl ?_;exact ⟨kf,.inr ⟨NO.out,rfl⟩⟩
          | true=>
            have R:=ze (NXJ.out rfl);go_wp2;go_roundw
            case rel=>exact ⟨j+1,by omega,by go_num,ze ⟨K5.out,R.out⟩⟩
            case measure=>simp [intOf];omega
        · as_aux_lemma=>
          obtain rfl:j=paths.length:=by omega
          have g1:decide ((paths.length:Int) < (paths.length:Int))=false:=zqZ (by omega);have g1':decide (paths.length < paths.length)=false:=zqZ (by omega);have R:=ze (NX.out (fun m l hm=>ALJ.out m l (zq1.1 hm).1 hm));go_wp2;go_roundw
          case rel=>exact ⟨k+1,by omega,by go_num,ze ⟨KJ.out,R.out⟩⟩
          case measure=>simp [intOf];omega
    obtain rfl:k=p.items.length:=by omega
    have HOK:=ze (COK.out h0 HIN.out (by first | trivial | rfl) (fun j x hx m l hm=>ALL.out j x (zq1.1 hx).1 hx m l hm));clear ALL COK NOP HIN FAIL NONE x1 x2 x3 x4;have g0:decide ((p.items.length:Int) < (p.items.length:Int))=false:=zqZ (by omega);have g0':decide (p.items.length < p.items.length)=false:=zqZ (by omega);obtain ⟨bi,hbi,hbz,hb1,hb2⟩:=Tryz.boolInfo;have hwz:w.heap.size<=wr.heap.size:=by have:=KC.out.size;have:=HZ2.out;omega
    go_wp2_with (at_make;refine wpList_make_full _ rfl (.tmp 84) (.tmp 84) 145 rfl w.heap.size 4 bi (.bool false) 1 Tryz.underlying145 hbi hbz hb1 .i64 .i64 (p.items.length:Int) (p.items.length:Int) p.items.length rfl rfl rfl rfl ?mb2 ?mb3 ?mb4 ?mnext)
    case mb2=>rw [hb2];omega
    case mb3=>unfold maxLen;omega
    case mb4=>exact hwz
    intro wC ownC gC;obtain ⟨hnd,_,_⟩:=zej ownC;have hmb:=zqc p.items.length;have kC:=(Chg.of_grown gC).mono (T:=fun _=>False) (fun _ _ e=>by cases e);have KCC:=ze (KC.out.trans kC);have GNZ:=ze (show fb < wr.heap.size∧w.heap.size+3<=wr.heap.size∧wr.heap.size < wC.heap.size from ⟨by have:=KC.out.size;omega,by have:=KC.out.size;have:=HZ2.out;omega,(ownC.lt _ rfl).2⟩)
    have NR0:=ze (show zjM wC wr.heap.size (List.replicate p.items.length false) from by
      unfold zjM;rw [<- hmb];exact hnd)
    clear ownC gC hnd hmb kC KC q0 hwz hbi hbz hb1 hb2;generalize wr.heap.size=gn at *;have KWX:=ze (fun (W:World) (kW:Chg (fun j=>j=gn) wC W)=>show Chg (fun _=>False) w W from (KK2.out.trans KCC.out).next kW (fun i hi e=>by have:=GNZ.out.2.1;omega));have PX:=ze (fun (W:World) (kW:Chg (fun j=>j=gn) wC W)=>And.intro (kW.obj (show ¬ w.heap.size=gn from fun e=>by have:=GNZ.out.2.1;omega) (KCC.out.obj (fun e=>e) P0.out)) (kW.obj (show ¬ w.heap.size+1=gn from fun e=>by have:=GNZ.out.2.1;omega) (KCC.out.obj (fun e=>e) P1.out)));have FX:=ze (fun (W:World) (kW:Chg (fun j=>j=gn) wC W) (k:Nat) (hk:k<=p.items.length)=>zj kW (show ¬ fb=gn from fun e=>by have:=GNZ.out.1;omega) (zj KCC.out (fun e=>e) (F2.out k hk)));have m1:IntKind.i64.wrap ((p.items.length:Int) - 1)=(p.items.length:Int) - 1:=by rw [IntKind.wrap_i64] <;> omega
    have c0:=zf (o:=0) (PX.out wC (Chg.refl _ _)).1 rfl;go_wp2;clear c0 m1;go_loopw [14] (fun iv wr=>∃ (k:Nat) (M:List Bool),k<=p.items.length∧iv=.int .i64 ((k:Int) - 1)∧Hid (zjM wr gn M∧M.length=p.items.length∧(∀ j,k<=j->j < p.items.length->M[j]? = some (N j))∧Chg (fun j=>j=gn) wC wr)) (fun iv _=>(intOf iv+1).toNat)
    case atStart=>exact ⟨p.items.length,_,zrj _,by first | rfl | simp,ze ⟨NR0.out,List.length_replicate,fun j h1 h2=>by omega,Chg.refl _ _⟩⟩
    case round=>
      obtain ⟨k,M,hk,rfl,HI⟩:=hrel;have NR:=ze HI.out.1;have ML:=ze HI.out.2.1;have MN:=ze HI.out.2.2.1;have KR:=ze HI.out.2.2.2;clear HI NR0;cases k with
      | zero=>
        as_aux_lemma=>
        have g1:decide ((0:Int)<=((0:Nat):Int) - 1)=false:=zqZ (by omega);have g2:decide ((0:Int) <= -1)=false:=zqZ (by omega);have KWR:=ze (KWX.out wr KR.out);have RA:=ze (show zeP wr fb fc gn (some ⟨gn,0,none⟩) p.items.length roots T p.items.length N from ⟨fun k hk=>FX.out wr KR.out k hk,fun k hk=>⟨rfl,NR.out.cell (MN.out k (Nat.zero_le _) hk)⟩⟩);have P0R:=ze (PX.out wr KR.out).1;have P1R:=ze (PX.out wr KR.out).2;have RANY:=ze (fun (W:World) (hra:zeP W fb fc gn (some ⟨gn,0,none⟩) p.items.length roots T p.items.length N) (sv:Value) (l:zE) (hl:Yq W sv G' l) (hll:l.length<=1000000) (hs:∀ s∈l,0<=s.2∧s.2<=9223372036854775807)=>zlZ W fb fc gn (some ⟨gn,0,none⟩) p.items.length roots T p.items.length N sv G' l hra hl hll hI TM.out tn h0 hr2 hs);have AW:=RANY.out wr RA.out (.slice sa p.steps.length sc) p.steps (HP.out.steps.chg KWR.out (fun _ _ e=>e)) hL (fun s hs=>⟨(LST.out HOK.out s hs).1,FS.out s hs⟩);rw [AL.out p.items.length (zrj _) p.steps (fun s hs=>(LST.out HOK.out s hs).2)] at AW;have AW:=ze AW;have GNR:=ze (show fb < wr.heap.size∧gn < wr.heap.size∧w.heap.size+3<=wr.heap.size from ⟨by have:=GNZ.out;have:=KR.out.size;omega,by have:=GNZ.out;have:=KR.out.size;omega,by have:=GNZ.out;have:=KR.out.size;omega⟩);have NB:=ze (fun k (hk:k < p.items.length)=>show need.getD k false=N k from (NDD.out k).symm);have lowr:=GNR.out.2.2;have c1:=zf (o:=1) P0R.out rfl;clear KWX PX FX NR MN KR DE DS D0 UX KCC F2 LST NDD FS;go_wp2_with fail;clear c1;(with_reducible refine AW.out.mono ?_);rintro e w3 ⟨vs,rfl,o3,k3⟩;obtain ⟨a3,c3,rfl⟩:=zl o3;have kb3:=zi (fun _=>False) w3 (.cells #[.slice none 0 0,.slice a3 p.steps.length c3] 83);have HS3:=ze (zn o3 kb3 (fun _ _ e=>e));have OBR:=ze (zh w3 (.cells #[.slice none 0 0,.slice a3 p.steps.length c3] 83));have KWM:=ze (KWR.out.trans (k3.trans kb3));have RAM:=ze (RA.out.chg (k3.trans kb3));have P0M:=ze ((k3.trans kb3).obj (fun e=>e) P0R.out);have P1M:=ze ((k3.trans kb3).obj (fun e=>e) P1R.out);have HZ:=ze (show fb < w3.heap.size∧gn < w3.heap.size∧w.heap.size+3<=w3.heap.size∧wr.heap.size<=w3.heap.size from ⟨by have:=GNR.out;have:=k3.size;omega,by have:=GNR.out;have:=k3.size;omega,by have:=GNR.out;have:=k3.size;omega,k3.size⟩)
        have KP0:=ze (show XR (w3.alloc (.cells #[.slice none 0 0,.slice a3 p.steps.length c3] 83)) (w3.alloc (.cells #[.slice none 0 0,.slice a3 p.steps.length c3] 83)) w3.heap.size (.slice none 0 0) (.slice a3 p.steps.length c3) [] (fun _=>False) from
          ⟨OBR.out,⟨rfl,.inl ⟨rfl,rfl⟩⟩,fun x hx=>(by cases hx),fun _ e=>e.elim⟩)
        have O3LT:=ze (fun k (hk:(Value.slice a3 p.steps.length c3).ownBlock=some k)=>(o3.lt k hk).2);have ALEN:=ze (show (YZ roots B GT p.steps).length=p.steps.length from by unfold YZ;rw [zq4]);obtain ⟨KT,hKT⟩:∃ KT:Nat->List zP,KT=za5 roots B GT need p.items:=⟨_,rfl⟩;have KT0:=ze (show KT 0=[] from by rw [hKT];rfl)
        have KTN:=ze (fun (k:Nat) (x:zP) (hx:p.items[k]? = some x) (hn:N k=false)=>show KT (k+1)=KT k from by
          rw [hKT,zax];unfold ziA;rw [hx];simp only;rw [NB.out k (zq1.1 hx).1,hn];simp)
        have KTY:=ze (fun (k:Nat) (x:zP) (hx:p.items[k]? = some x) (hn:N k=true)=>show KT (k+1)=KT k++[⟨x.cert,x.paths.map (YZ roots B GT)⟩] from by
          rw [hKT,zax];unfold ziA;rw [hx];simp only;rw [NB.out k (zq1.1 hx).1,hn];rfl)
        have KTL:=ze (fun k=>show (KT k).length<=k from by rw [hKT];exact zay _ _ _ _ _ _);rw [<- hKT] at CE;clear hKT NB;clear o3 k3 kb3 P0R P1R AW RA KWR GNR GNZ;go_wp2_with fail;generalize w3.alloc (.cells #[.slice none 0 0,.slice a3 p.steps.length c3] 83)=wM at *;generalize w3.heap.size=br at *
        have EE:=ze (fun (W:World) (kW:Chg (fun j=>j=br) wM W)=>
          have ne:∀ {k:Nat},k < br->¬ k=br:=fun h e=>by omega
          And.intro (show zeP W fb fc gn (some ⟨gn,0,none⟩) p.items.length roots T p.items.length N from ⟨fun i hi=>zj kW (ne HZ.out.1) (RAM.out.f i hi),fun i hi=>⟨rfl,zj kW (ne HZ.out.2.1) (RAM.out.n i hi).2⟩⟩)
            (And.intro (kW.obj (ne (show w.heap.size < br from by have:=HZ.out.2.2.1;omega)) P0M.out) (kW.obj (ne (show w.heap.size+1 < br from by have:=HZ.out.2.2.1;omega)) P1M.out)))
        clear RAM P0M P1M;go_wp2_with fail;go_loopw [18] (fun iv wr=>∃ (k:Nat) (ivv:Value) (xs:List (zP × Value)) (Gx:Nat->Prop),k<=p.items.length∧iv=.int .i64 k∧Hid (XR wM wr br ivv (.slice a3 p.steps.length c3) xs Gx∧Chg (fun j=>j=br) wM wr∧xs.map Prod.fst=KT k)) (fun iv _=>p.items.length - (intOf iv).toNat)
        case atStart=>exact ⟨0,_,[],_,by omega,rfl,ze ⟨KP0.out,Chg.refl _ _,by rw [KT0.out];rfl⟩⟩
        case round=>
          obtain ⟨k,ivv,xs,Gx,hk,rfl,HI⟩:=hrel;have KP:=ze HI.out.1;have KC:=ze HI.out.2.1;have XM:=ze HI.out.2.2;have KW:=ze (KWM.out.next KC.out (fun i hi e=>by have:=HZ.out.2.2.1;omega));have O0R:=ze (EE.out wr KC.out).2.1;have O1R:=ze (EE.out wr KC.out).2.2;have q0:=zf (o:=0) O0R.out rfl;clear HI KP0;by_cases hlt:k < p.items.length
          · as_aux_lemma=>
            have g3:decide ((k:Int) < (p.items.length:Int))=true:=zqY (by omega);have g3':decide (k < p.items.length)=true:=zqY hlt;have hkn:(k:Int) < (p.items.length:Int):=by omega
            obtain ⟨x,hx⟩:∃ x,p.items[k]? = some x:=⟨_,zq0 hlt⟩;obtain ⟨bq,hbq⟩:∃ bq,bq=N k:=⟨_,rfl⟩;have nc:=((EE.out wr KC.out).1.n k hlt).2;rw [<- hbq] at nc;have KTN1:=ze (fun (q:bq=false)=>KTN.out k x hx (by rw [<- hbq,q]));have KTY1:=ze (fun (q:bq=true)=>KTY.out k x hx (by rw [<- hbq,q]));obtain ⟨_,_,e1,_,hcl⟩:=HP.out.items;cases e1;obtain ⟨lb,lo,pv,rfl,_,j0,j1,hpa⟩:=hcl k _ hx;have hpl:=hpa.len;obtain ⟨pa,pc,rfl⟩:=hpa.shape;have HPA:=ze hpa;have i0:=zj KW.out (fun e=>e) j0;have J1:=ze j1;have LSX:=ze (HLS.out x (zq2 hx));have FIX:=ze (fun (l:zE) (hl:l∈x.paths)=>show (∀ s∈l,0<=s.2∧s.2<=9223372036854775807)∧(∀ s∈l,s.2 < roots+T k) from ⟨fun s hs=>⟨(STD.out HOK.out k x hx l hl s hs).1,FI.out k x hx l hl s hs⟩,fun s hs=>(STD.out HOK.out k x hx l hl s hs).2⟩);obtain ⟨cert,paths⟩:=x;simp only at i0 hpl HPA KTY1 LSX FIX J1;clear hcl hx hpa j0 j1 hbq KTN KTY;cases bq with
            | false=>
              have R:=ze (KTN1.out rfl);go_wp2;go_roundw
              case rel=>exact ⟨k+1,_,_,_,by omega,by go_num,ze ⟨KP.out,KC.out,by rw [R.out];exact XM.out⟩⟩
              case measure=>simp [intOf];omega
            | true=>
            have R:=ze (KTY1.out rfl);have kyb:=zi (fun _=>False) wr (.cells #[.int .i64 cert,.slice none 0 0] 98)
            have PI0:=ze (show xR wr (wr.alloc (.cells #[.int .i64 cert,.slice none 0 0] 98)) wr.heap.size cert (.slice none 0 0) [] (fun _=>False) from
              ⟨zh _ _,⟨rfl,.inl ⟨rfl,rfl⟩⟩,fun z hz=>(by cases hz),fun _ e=>e.elim,kyb,zrj _⟩)
            have HZX:=ze (show wM.heap.size<=wr.heap.size from KC.out.size);have RAR:=ze (EE.out wr KC.out).1;clear kyb KTN1 KTY1;obtain ⟨wx,hwx⟩:∃ wx,wx=wr:=⟨_,rfl⟩;subst hwx;go_wp2_with fail;clear i0 q0 nc;generalize wx.alloc (.cells #[.int .i64 cert,.slice none 0 0] 98)=wy at *;go_wp2_with fail;go_loopw [20] (fun jv wr=>∃ (j:Nat) (pv:Value) (zs:List (zE × Value)) (Gz:Nat->Prop),j<=paths.length∧jv=.int .i64 j∧Hid (xR wx wr wx.heap.size cert pv zs Gz∧zs.map Prod.fst=(paths.take j).map (YZ roots B GT))) (fun jv _=>paths.length - (intOf jv).toNat)
            case atStart=>exact ⟨0,_,[],_,by omega,rfl,ze ⟨PI0.out,rfl⟩⟩
            case round=>
              obtain ⟨j,pv,zs,Gz,hj,rfl,HJ⟩:=hrel;obtain ⟨za,zc,ezv⟩:=zl HJ.out.1.row;subst ezv;have PI:=ze HJ.out.1;have ZM:=ze HJ.out.2
              have hzl:zs.length<=1000:=by
                have:=congrArg List.length ZM.out;rw [zq4,zq4,zq5] at this;have:=LSX.out.1;omega
              have KWJ:=ze (KW.out.trans PI.out.ch);have q0:=zf (o:=0) (PI.out.ch.obj (fun e=>e) O0R.out) rfl;have i1:=zj KWJ.out (fun e=>e) J1.out;clear HJ PI0;by_cases hjl:j < paths.length
              · as_aux_lemma=>
                have g4:decide ((j:Int) < (paths.length:Int))=true:=zqY (by omega);have g4':decide (j < paths.length)=true:=zqY hjl;have hjn:(j:Int) < (paths.length:Int):=by omega
                obtain ⟨l,hl⟩:∃ l,paths[j]? = some l:=⟨_,zq0 hjl⟩;obtain ⟨_,_,e1,_,hcl⟩:=HPA.out;cases e1;obtain ⟨lb2,lo2,pv2,rfl,_,s0,hst⟩:=hcl j l hl;obtain ⟨qa,qc,rfl⟩:=hst.shape;have S0:=ze s0;have HST:=ze hst;have hlm:l∈paths:=zq2 hl
                have AWF:=ze (fun (W:World) (kW:Chg (fun _=>False) wr W)=>show Calls Tryz.prog 103 #[.slice qa l.length qc,.slice (some ⟨fb,0,none⟩) (p.items.length+1) fc,.slice (some ⟨gn,0,none⟩) p.items.length (p.items.length)] W (fun e w'=>∃ v,e=.returned v∧w'.ownsRow W.heap.size 153 2 v l.length (Zv (YZ roots B GT l))∧Chg (fun _=>False) W w') from by
                  have:=RANY.out W (RAR.out.chg (PI.out.ch.trans kW)) (.slice qa l.length qc) l (HST.out.chg (KWJ.out.trans kW) (fun _ _ e=>e)) (LSX.out.2 l hlm) (FIX.out l hlm).1;rw [AL.out k (Nat.le_of_lt hlt) l (FIX.out l hlm).2] at this;exact this)
                have ZN:=ze (fun v=>show (zs++[(YZ roots B GT l,v)]).map Prod.fst=(paths.take (j+1)).map (YZ roots B GT) from by
                  rw [List.map_append,ZM.out,zri,hl,List.map_append];rfl)
                have AL2:=ze (show (YZ roots B GT l).length=l.length from by unfold YZ;rw [zq4])
                have FACTS:=ze (fun (W:World) (kW:Chg (fun _=>False) wr W)=>And.intro (show W.cell? ⟨wx.heap.size,1,none⟩=some (.slice za zs.length zc) from zf (o:=1) (kW.obj (fun e=>e) PI.out.box) rfl) (And.intro (show W.cell? ⟨w.heap.size,0,none⟩=some (.slice (some ⟨lb,lo,none⟩) p.items.length ic) from zf (o:=0) ((PI.out.ch.trans kW).obj (fun e=>e) O0R.out) rfl)
                  (And.intro (show W.cell? ⟨lb,lo+k*2+1,none⟩=some (.slice (some ⟨lb2,lo2,none⟩) paths.length pc) from zj (KWJ.out.trans kW) (fun e=>e) J1.out) (show W.cell? ⟨lb2,lo2+j,none⟩=some (.slice qa l.length qc) from zj (KWJ.out.trans kW) (fun e=>e) S0.out))))
                have hzx:wx.heap.size<=wr.heap.size:=PI.out.ch.size;clear hcl hl hst s0;go_wp2_with fail;clear q0 i1;refine Zk (N:=223) [.rd [0,1,2,3,4,5,6,7,8,9,10,11,12],.ef 13,.ef 14,.ef 15,.ef 16,.ef 17] 17 (fun W=>W.cell? ⟨wx.heap.size,1,none⟩=some (.slice za zs.length zc)∧W.cell? ⟨w.heap.size,0,none⟩=some (.slice (some ⟨lb,lo,none⟩) p.items.length ic)∧W.cell? ⟨lb,lo+k*2+1,none⟩=some (.slice (some ⟨lb2,lo2,none⟩) paths.length pc)∧W.cell? ⟨lb2,lo2+j,none⟩=some (.slice qa l.length qc)) (by kernel_rfl) (by kernel_rfl) (by kernel_rfl) (by kernel_rfl) (by kernel_rfl) (Nat.le_of_ble_eq_true rfl) (FACTS.out _ (zw _ _)) ?_;refine xu (A:=?G1) ?o1 ?o2
                case o1=>
                  rintro w' ⟨z0,z1,z2,z3⟩ K hK;simp only [zM,zqT,zqU,zqV,zqW,zqX]
                  repeat still_step
                  refine wpStill_nil ?_;exact hK
                have kd:=zw (fun _=>False) wr;have KD:=ze kd;have PD:=ze (PI.out.chg kd);have AWD:=ze (AWF.out _ kd);have hzd:wx.heap.size<=wr.drew.heap.size:=hzx;clear kd PI AWF;generalize wr.drew=wd at *;refine zJ rfl ?_;go_wp2_with fail;(with_reducible refine AWD.out.mono ?_);rintro e wa ⟨va,rfl,hoa,ka⟩;obtain ⟨aa,ac,rfl⟩:=zl hoa;have PA:=ze (PD.out.chg ka);have KA:=ze (KD.out.trans ka);have hza:wx.heap.size<=wa.heap.size:=PA.out.ch.size;have HOA:=ze (ZP hoa hzd);have fa:=FACTS.out _ KA.out;clear AWD ka hoa PD KD;go_wp2_with fail
                first | refine ⟨.inr fa,?_⟩ | refine ⟨fa,?_⟩
                refine zJ rfl ?_;go_wp2_with fail;have kb:=zi (fun _=>False) wa (.cells #[.slice aa l.length ac] 81);have PB:=ze (PA.out.chg kb);have KB:=ze (KA.out.trans kb);have HOB:=ze (zn HOA.out kb (fun _ _ e=>e));have obn:=zh wa (.cells #[.slice aa l.length ac] 81);have hzb:wx.heap.size<=(wa.alloc (.cells #[.slice aa l.length ac] 81)).heap.size:=PB.out.ch.size;have fb2:=FACTS.out _ KB.out
                first | refine ⟨.inr fb2,?_⟩ | refine ⟨fb2,?_⟩
                clear fa fb2 kb PA HOA;refine zJ rfl ?_;refine Zd rfl (.tmp 200) (.tmp 213) 96 rfl 81 1 24 Tryz.underlying96 Tryz.elemSteps wx.heap.size (.slice za zs.length zc) zs.length (zs.map Prod.snd) rfl PB.out.row wa.heap.size [.slice aa l.length ac] 81 (0,0) rfl obn rfl (by intro u hu;simp at hu;subst hu;rfl) (by omega) (by unfold maxLen;omega) hzb ?_;generalize wa.alloc (.cells #[.slice aa l.length ac] 81)=wb at *;intro v9 w9 o9 g9;obtain ⟨a9,c9,rfl⟩:=zl o9;have PP:=PB.out.push (l:=YZ roots B GT l) (v:=.slice aa l.length ac) (by rw [AL2.out];exact HOB.out) g9 o9;have bx9:=PP.2;have PN:=ze PP.1;have y4:=zf (o:=1) bx9 rfl;have f4:=zm (o:=1) bx9;have K9:=ze (show Chg (fun _=>False) wx w9 from PB.out.ch.next (Chg.of_grown g9) (fun x hx e=>by have:=(PB.out.row.lt x e).1;omega));have fx0:=zf (o:=0) (K9.out.obj (fun e=>e) O0R.out) rfl;have fx1:w9.cell? ⟨lb,lo+k*2+1,none⟩=some (.slice (some ⟨lb2,lo2,none⟩) paths.length pc):=zj (KW.out.trans K9.out) (fun e=>e) J1.out;have fx2:w9.cell? ⟨lb2,lo2+j,none⟩=some (.slice qa l.length qc):=zj (KW.out.trans K9.out) (fun e=>e) S0.out;clear PP bx9 o9 g9 PB HOB obn KB KA FACTS;go_wp2_with fail
                first | refine ⟨.inr ⟨y4,fx0,fx1,fx2⟩,?_⟩ | refine ⟨⟨y4,fx0,fx1,fx2⟩,?_⟩
                refine zJ rfl ?_;go_wp2_with fail
                first | refine ⟨.inr ⟨y4,fx0,fx1,fx2⟩,?_⟩ | refine ⟨⟨y4,fx0,fx1,fx2⟩,?_⟩
                refine zJ rfl ?_;go_wp2_with fail
                first | refine ⟨.inl rfl,yA ?_⟩ | (unfold zc8;refine yA ?_)
                go_wp2;go_roundw
                case rel=>exact ⟨j+1,_,_,_,by omega,by go_num,ze ⟨PN.out,ZN.out _⟩⟩
                case measure=>simp [intOf];omega
              · as_aux_lemma=>
                obtain rfl:j=paths.length:=by omega
                have g4:decide ((paths.length:Int) < (paths.length:Int))=false:=zqZ (by omega);have g4':decide (paths.length < paths.length)=false:=zqZ (by omega);rw [zrk] at ZM;obtain ⟨pd1,pd2⟩:=PI.out.done;rw [ZM.out] at pd1;have KPW:=ze (KP.out.chg PI.out.ch);obtain ⟨va,vc,eiv⟩:=zl KPW.out.row;subst eiv
                have hxl:xs.length<=1000:=by
                  have:=congrArg List.length XM.out;rw [zq4] at this;have:=KTL.out k;omega
                have ka:=zi (fun _=>False) wr (.cells #[.int .i64 cert,.slice za zs.length zc] 98)
                have HPP:=ze (And.intro (pd1.chg ka (fun _ _ e=>e)) (fun k hk=>show wM.heap.size<=k∧∃ cs t,(wr.alloc (.cells #[.int .i64 cert,.slice za zs.length zc] 98)).heap[k]? = some (.cells cs t (0,0))∧(t=81∨t=153) from by
                  obtain ⟨h1,cs,t,q,ht⟩:=pd2 k hk;exact ⟨Nat.le_trans HZX.out h1,cs,t,ka.obj (fun e=>e) q,ht⟩))
                have KPA:=ze (KPW.out.chg ka);have KCA:=ze (KC.out.trans ((PI.out.ch.trans ka).mono (fun _ _ e=>e.elim)));have b0:=zf (o:=0) KPW.out.box rfl;have y0:=zf (o:=0) PI.out.box rfl;have y1:=zf (o:=1) PI.out.box rfl;have hwm:wM.heap.size<=wr.heap.size:=Nat.le_trans HZX.out PI.out.ch.size;clear pd1 pd2 ka KPW;go_wp2_with (at_builtin;refine Zd rfl (.tmp 217) (.tmp 219) 80 rfl 98 2 32 Tryz.underlying80 Tryz.elemItem wM.heap.size (.slice va xs.length vc) xs.length (Xv xs) rfl KPA.out.row _ [.int .i64 cert,.slice za zs.length zc] 98 (0,0) rfl (zh _ _) rfl ?u1 ?u2 ?u3 ?u4 ?unx)
                case u1=>intro u hu;simp at hu;rcases hu with rfl | rfl <;> rfl
                case u2=>omega
                case u3=>unfold maxLen;omega
                case u4=>first | omega | (rw [zq8];omega)
                intro v5 w5 o5 g5;obtain ⟨a5,c5,rfl⟩:=zl o5;have KPP:=KPA.out.push (y:=⟨cert,paths.map (YZ roots B GT)⟩) HPP.out.1 HPP.out.2 g5 o5;have KPN:=ze KPP.1;have bx5:=KPP.2.1;have b5:=zf (o:=0) bx5 rfl;have f5:=zm (o:=0) bx5
                have KCN:=ze (KCA.out.next KPP.2.2 (fun i hi e=>by
                  rcases e with e | e
                  · exact e
                  · have:=(KPA.out.row.lt i e).1;omega))
                clear KPP bx5 o5 g5 HPP KPA KCA b0 y0 y1;go_wp2;go_roundw
                case rel=>exact ⟨k+1,_,_,_,by omega,by go_num,ze ⟨KPN.out,KCN.out,by rw [R.out,List.map_append,XM.out];rfl⟩⟩
                case measure=>simp [intOf];omega
          · as_aux_lemma=>
            obtain rfl:k=p.items.length:=by omega
            have g3:decide ((p.items.length:Int) < (p.items.length:Int))=false:=zqZ (by omega);have g3':decide (p.items.length < p.items.length)=false:=zqZ (by omega);have r0:=zf (o:=0) O1R.out rfl;have r1:=zf (o:=1) O1R.out rfl;have f0:=zm (o:=0) O1R.out;have f1:=zm (o:=1) O1R.out;have s0:=zf (o:=0) KP.out.box rfl;have s1:=zf (o:=1) KP.out.box rfl;obtain ⟨va,vc,eiv⟩:=zl KP.out.row;subst eiv;go_wp2;obtain ⟨W,hW⟩:∃ W,W=(wr.setCell ⟨w.heap.size+1,0,none⟩ (.slice va xs.length vc)).setCell ⟨w.heap.size+1,1,none⟩ (.slice a3 p.steps.length c3):=⟨_,rfl⟩;rw [<- hW];obtain ⟨ob,kW⟩:=zd6 O1R.out _ _ W hW;clear hW;have z0:W.cell? ⟨w.heap.size+1,0,none⟩=some (.slice va xs.length vc):=zf ob rfl;have z1:W.cell? ⟨w.heap.size+1,1,none⟩=some (.slice a3 p.steps.length c3):=zf ob rfl;refine bodyPost_ret (v:=.tuple #[.agg #[.slice va xs.length vc,.slice a3 p.steps.length c3],.int .i64 0]) (by simp [results,Tryz.results69,go_sem,z0,z1]) rfl ?_;have hwM:=KWM.out.size;have hz:=HZ.out.2.2.1;have kfin:Chg (fun _=>False) w W:=KW.out.next kW (fun i hi e=>by omega)
            have it:=zcj KP.out.row KP.out.ent
            have tyG:∀ k,(Gx k∨(Value.slice va xs.length vc).ownBlock=some k)->wM.heap.size<=k∧∃ cs t,wr.heap[k]? = some (.cells cs t (0,0))∧t≠83:=fun k hk=>by
              rcases hk with hk | hk
              · obtain ⟨h1,cs,t,q,ht⟩:=KP.out.typ k hk
                exact ⟨h1,cs,t,q,by rcases ht with rfl | rfl <;> decide⟩
              · obtain ⟨cs,q⟩:=zC KP.out.row hk
                exact ⟨(KP.out.row.lt k hk).1,cs,_,q,by decide⟩
            have nott:∀ k,(Gx k∨(Value.slice va xs.length vc).ownBlock=some k)->¬ (k=w.heap.size+1):=fun k hk e=>by
              obtain ⟨_,cs,t,q,ht⟩:=tyG k hk;exact zZ q O1R.out ht e
            have it2:=(it.chg kW nott).up (G':=fun k=>w.heap.size<=k∧k < W.heap.size) (fun k hk=>by
              obtain ⟨h1,cs,t,q,_⟩:=tyG k hk;have h2:=zr (kW.obj (nott k hk) q);exact ⟨by omega,h2⟩)
            rw [XM.out] at it2;have hst:=zn (zn HS3.out KC.out (fun k hk e=>by have:=O3LT.out k hk;omega)) kW (fun k hk e=>by have:=(HS3.out.lt k hk).1;have:=HZ.out;omega);refine ⟨kfin,.inl ⟨HOK.out,_,_,rfl,?_,?_⟩⟩
            · rw [CE.out]
              exact it2
            · rw [CE.out]
              simp only;rw [ALEN.out];exact ZP hst (by omega)
      | succ k=>
        as_aux_lemma=>
        have e1:((k+1:Nat):Int) - 1=(k:Int):=by omega
        rw [e1];clear e1;have hkl:k < p.items.length:=hk;have hkn:(k:Int) < (p.items.length:Int):=by omega
        have g1:decide ((0:Int)<=(k:Int))=true:=zqY (by omega);have x1:IntKind.i64.wrap ((k:Int)+1)=(k:Int)+1:=by rw [IntKind.wrap_i64] <;> omega
        have x4:((k:Int)+1).toNat=k+1:=by omega
        have x5:0<=(k:Int)+1:=by omega
        have x6:(k:Int) < (p.items.length:Int)+1:=by omega
        have xm:IntKind.i64.wrap ((k:Int) - 1)=(k:Int) - 1:=by rw [IntKind.wrap_i64] <;> omega
        have RU0:=ze (fun (W:World) (kW:Chg (fun _=>False) w W) (sv:Value) (l:zE) (hl:Yl W sv G' l)=>zlI W sv G' l (roots+(T k:Int)) (roots+(T (k+1):Int)) hl);have UD:=ze (D0.out k);have UXK:=ze (UX.out k);have FA:=ze (fun (W:World) (kW:Chg (fun j=>j=gn) wC W)=>And.intro (FX.out W kW k (by omega)) (FX.out W kW (k+1) (by omega)));obtain ⟨a,ha⟩:∃ a:Int,a=roots+(T k:Int):=⟨_,rfl⟩;obtain ⟨b,hb⟩:∃ b:Int,b=roots+(T (k+1):Int):=⟨_,rfl⟩;simp only [<- ha,<- hb] at RU0 UD UXK FA;clear ha hb;have S1:=ze (fun (W:World) (kW:Chg (fun j=>j=gn) wC W)=>And.intro (zf (o:=1) (PX.out W kW).1 rfl:W.cell? ⟨w.heap.size,1,none⟩=some (.slice sa p.steps.length sc)) (FA.out W kW));obtain ⟨ub,hub⟩:∃ ub,ub=zb5 a b p.steps:=⟨_,rfl⟩;have RU1:=ze (fun (W:World) (kW:Chg (fun j=>j=gn) wC W)=>RU0.out W (KWX.out W kW) (.slice sa p.steps.length sc) p.steps (HP.out.steps.chg (KWX.out W kW) (fun _ _ e=>e)).at_);rw [<- hub] at UD RU1;clear hub;obtain ⟨bk,hbk⟩:∃ bk,M[k]? = some bk:=⟨_,zq0 (by rw [ML.out];exact hkl)⟩;have BK:=ze hbk;clear hbk;obtain ⟨c1,f0,f1⟩:=S1.out wr KR.out;go_wp2_with fail;refine zu (N:=223) [.rd [0,1,2,3,4,5,6,7,8,9,10,11,12],.ef 13,.rd [14],.ef 15] (fun W=>W.cell? ⟨w.heap.size,1,none⟩=some (.slice sa p.steps.length sc)∧W.cell? ⟨fb,k,none⟩=some (.int .i64 a)∧W.cell? ⟨fb,k+1,none⟩=some (.int .i64 b)) (by kernel_rfl) (by kernel_rfl) (by kernel_rfl) (by kernel_rfl) (Nat.le_of_ble_eq_true rfl) ⟨c1,f0,f1⟩ ?_;refine zB (A:=?C1) ?k1 ?k2
        case k1=>
          rintro w' ⟨z0,z1,z2⟩ K hK;simp only [zM,zqT,zqU,zqV,zqW,zqX];refine WS.out ?_
          repeat (refine Zu (fun K hK=>?_);go_simp;refine hK _ ?_;clear hK K)
          refine yn ?_;exact hK
        clear c1 f0 f1;have KD:=ze (KR.out.trans (zw _ wr));have ND:=ze (NR.out.chg (zw _ wr));have RU2:=ze (RU1.out _ KD.out);clear NR KR RU1;generalize wr.drew=wd at *;refine zI rfl ?_;go_wp2_with fail;(with_reducible refine RU2.out.mono ?_);rintro e w5 ⟨rfl,k5⟩;have K5:=ze (KD.out.trans (k5.mono (fun _ _ e=>e.elim)));have N5:=ze (ND.out.chg k5);clear k5 RU2 KD ND;go_wp2_with fail;refine ⟨S1.out _ K5.out,?_⟩;refine zB (A:=?C2) ?k3 ?k4
        case k3=>
          rintro w' z0 K hK;clear z0;simp only [zM,zqT,zqU,zqV,zqW,zqX]
          repeat still_step
          refine wpStill_nil ?_;exact hK
        refine zI rfl ?_;have c5:=N5.out.cell BK.out;have f5:=zm (o:=k) N5.out;go_wp2_with fail;clear c5 f5;have K6:=ze (K5.out.trans (zG w5 gn k (.bool ub)));have N6:=ze (N5.out.set k ub);clear K5 N5;generalize w5.setCell ⟨gn,k,none⟩ (.bool ub)=w6 at *;refine ⟨S1.out _ K6.out,?_⟩;refine zR ?_;go_wp2;go_loopw [15] (fun jv wr=>∃ (j:Nat) (M:List Bool),k+1<=j∧j<=p.items.length∧jv=.int .i64 j∧Hid (zjM wr gn M∧M.length=p.items.length∧M[k]? = some (D k j)∧(∀ i,k < i->i < p.items.length->M[i]? = some (N i))∧Chg (fun j=>j=gn) wC wr)) (fun jv _=>p.items.length - (intOf jv).toNat)
        case atStart=>exact ⟨k+1,_,zrj _,hk,by go_num,ze ⟨N6.out,by rw [List.length_set];exact ML.out,by rw [UD.out];exact List.getElem?_set_self (by rw [ML.out];exact hkl),fun i h1 h2=>by rw [List.getElem?_set_ne (by omega)];exact MN.out i (by omega) h2,K6.out⟩⟩
        case round=>
          clear MN ML BK N6 K6 UD;obtain ⟨j,M,hj1,hj2,rfl,HJ⟩:=hrel;have NR:=ze HJ.out.1;have ML:=ze HJ.out.2.1;have MK:=ze HJ.out.2.2.1;have MN:=ze HJ.out.2.2.2.1;have KR:=ze HJ.out.2.2.2.2;clear HJ;by_cases hjl:j < p.items.length
          · as_aux_lemma=>
            have g2:decide ((j:Int) < (p.items.length:Int))=true:=zqY (by omega);have g2':decide (j < p.items.length)=true:=zqY hjl;have hjn:(j:Int) < (p.items.length:Int):=by omega
            obtain ⟨x,hx⟩:∃ x,p.items[j]? = some x:=⟨_,zq0 hjl⟩;obtain ⟨_,_,e1,_,hcl⟩:=HP.out.items;cases e1;obtain ⟨lb,lo,pv,rfl,_,_,j1,hpa⟩:=hcl j _ hx;have hpl:=hpa.len;obtain ⟨pa,pc,rfl⟩:=hpa.shape;have HPA:=ze hpa;have J1:=ze j1;have DSJ:=ze (DS.out k j x hx (by omega));obtain ⟨cert,paths⟩:=x;simp only at hpl HPA J1 DSJ;obtain ⟨nj,hnj⟩:∃ nj,nj=N j:=⟨_,rfl⟩;have MJ:=ze (fun (M:List Bool) (h:∀ i,k < i->i < p.items.length->M[i]? = some (N i))=>show M[j]? = some nj from by rw [hnj];exact h j (by omega) hjl);rw [<- hnj] at DSJ;obtain ⟨E,hE⟩:∃ E:Nat->Bool,E=fun m=>(D k j || (nj && U k (paths.take m))):=⟨_,rfl⟩;have E0:=ze (show E 0=D k j from by rw [hE];simp only [List.take_zero];rw [UXK.out];simp)
            have ES:=ze (fun m l (hl:paths[m]? = some l)=>show E (m+1)=(E m || (nj && zb5 a b l)) from by
              rw [hE];simp only;rw [UXK.out,UXK.out,zri,hl,List.any_append];cases nj <;> simp [Bool.or_assoc])
            have EN:=ze (show D k (j+1)=E paths.length from by rw [hE,DSJ.out];simp only [zrk]);have EF:=ze (fun (q:nj=false) m=>show D k (j+1)=E m from by rw [hE,DSJ.out,q];simp);have q0:=zf (o:=0) (PX.out wr KR.out).1 rfl;clear hcl hx hpa j1 DSJ hE hnj;go_wp2_with fail;clear q0;go_loopw [16] (fun mv wr=>∃ (m:Nat) (M:List Bool),m<=paths.length∧mv=.int .i64 m∧Hid (zjM wr gn M∧M.length=p.items.length∧M[k]? = some (E m)∧(∀ i,k < i->i < p.items.length->M[i]? = some (N i))∧Chg (fun j=>j=gn) wC wr)) (fun mv _=>paths.length - (intOf mv).toNat)
            case atStart=>exact ⟨0,_,by omega,rfl,ze ⟨NR.out,ML.out,by rw [E0.out];exact MK.out,MN.out,KR.out⟩⟩
            case round=>
              clear NR ML MK MN KR E0;obtain ⟨m,M,hm,rfl,HM⟩:=hrel;have NR:=ze HM.out.1;have ML:=ze HM.out.2.1;have MK:=ze HM.out.2.2.1;have MN:=ze HM.out.2.2.2.1;have KR:=ze HM.out.2.2.2.2;clear HM;have nc:=NR.out.cell (MJ.out M MN.out);cases nj with
              | false=>
                as_aux_lemma=>
                have R:=ze (EF.out rfl m);go_wp2;go_roundw
                case rel=>exact ⟨j+1,_,by omega,by omega,by go_num,ze ⟨NR.out,ML.out,by rw [R.out];exact MK.out,MN.out,KR.out⟩⟩
                case measure=>simp [intOf];omega
              | true=>
              have q0:=zf (o:=0) (PX.out wr KR.out).1 rfl;have i1:=zj (KWX.out wr KR.out) (fun e=>e) J1.out;by_cases hml:m < paths.length
              rotate_left
              · as_aux_lemma=>
                obtain rfl:m=paths.length:=by omega
                have g3:decide ((paths.length:Int) < (paths.length:Int))=false:=zqZ (by omega);have g3':decide (paths.length < paths.length)=false:=zqZ (by omega);go_wp2;go_roundw
                case rel=>exact ⟨j+1,_,by omega,by omega,by go_num,ze ⟨NR.out,ML.out,by rw [EN.out];exact MK.out,MN.out,KR.out⟩⟩
                case measure=>simp [intOf];omega
              have g3:decide ((m:Int) < (paths.length:Int))=true:=zqY (by omega);have g3':decide (m < paths.length)=true:=zqY hml;have hmn:(m:Int) < (paths.length:Int):=by omega
              obtain ⟨l,hl⟩:∃ l,paths[m]? = some l:=⟨_,zq0 hml⟩;obtain ⟨_,_,e1,_,hcl⟩:=HPA.out;cases e1;obtain ⟨lb2,lo2,pv2,rfl,_,s0,hst⟩:=hcl m l hl;obtain ⟨qa,qc,rfl⟩:=hst.shape;have HST:=ze hst;have S0:=ze s0;have ESM:=ze (ES.out m l hl);have RU1:=ze (fun (W:World) (kW:Chg (fun j=>j=gn) wC W)=>RU0.out W (KWX.out W kW) (.slice qa l.length qc) l (HST.out.chg (KWX.out W kW) (fun _ _ e=>e)).at_);obtain ⟨um,hum⟩:∃ um,um=zb5 a b l:=⟨_,rfl⟩;rw [<- hum] at ESM RU1;have S2:=ze (fun (W:World) (kW:Chg (fun j=>j=gn) wC W)=>And.intro (zf (o:=0) (PX.out W kW).1 rfl:W.cell? ⟨w.heap.size,0,none⟩=some (.slice (some ⟨lb,lo,none⟩) p.items.length ic)) (And.intro (zj (KWX.out W kW) (fun e=>e) J1.out) (And.intro (zj (KWX.out W kW) (fun e=>e) S0.out) (FA.out W kW))));clear hum hcl hl hst s0;obtain ⟨bk,hbk⟩:∃ bk,bk=E m:=⟨_,rfl⟩;rw [<- hbk] at MK ESM;clear hbk;go_wp2_with fail;clear q0 i1 nc;cases bk with
              | true=>
                as_aux_lemma=>
                obtain ⟨q0,i1,r0,f0,f1⟩:=S2.out wr KR.out;have kc:=NR.out.cell MK.out;have R:=ze (show E (m+1)=true from by rw [ESM.out];rfl);refine zu (N:=223) [.rd [0,1,2,3,4,5,6,7,8,9,10,11,12,13,14,15,16,17,18,19,20,21,22,23,24],.ef 25,.rd [26,27],.ef 28] (fun W=>W.cell? ⟨gn,k,none⟩=some (.bool true)) (by kernel_rfl) (by kernel_rfl) (by kernel_rfl) (by kernel_rfl) (Nat.le_of_ble_eq_true rfl) kc ?_;refine zB (A:=?D1) ?l1 ?l2
                case l1=>
                  rintro w' z0 K hK;simp only [zM,zqT,zqU,zqV,zqW,zqX];refine WS.out ?_
                  repeat (refine Zu (fun K hK=>?_);go_simp;refine hK _ ?_;clear hK K)
                  refine yn ?_;exact hK
                clear q0 i1 r0 f0 f1 kc;have KD:=ze (KR.out.trans (zw _ wr));have ND:=ze (NR.out.chg (zw _ wr));clear NR KR RU1;generalize wr.drew=wd at *;refine zI rfl ?_;refine zam (by simp [Region.wanted,yielded,undef]) ?_;go_wp2_with fail;refine ⟨ND.out.cell MK.out,?_⟩;refine zB (A:=?D2) ?l3 ?l4
                case l3=>
                  rintro w' z0 K hK;simp only [zM,zqT,zqU,zqV,zqW,zqX];refine WS.out ?_
                  repeat (refine Zu (fun K hK=>?_);go_simp;refine hK _ ?_;clear hK K)
                  refine yn ?_;exact hK
                refine zI rfl ?_;have c5:=ND.out.cell MK.out;have f5:=zm (o:=k) ND.out;go_wp2_with fail;clear c5 f5;have K6:=ze (KD.out.trans (zG wd gn k (.bool true)));have N6:=ze (ND.out.set k true);clear KD ND;generalize wd.setCell ⟨gn,k,none⟩ (.bool true)=w6 at *;have MK6:=ze (show (M.set k true)[k]? = some true from List.getElem?_set_self (by rw [ML.out];exact hkl));refine ⟨N6.out.cell MK6.out,?_⟩;refine zR ?_;go_wp2;go_roundw
                case rel=>exact ⟨m+1,_,by omega,by go_num,ze ⟨N6.out,by rw [List.length_set];exact ML.out,by rw [R.out];exact MK6.out,fun i h1 h2=>by rw [List.getElem?_set_ne (by omega)];exact MN.out i h1 h2,K6.out⟩⟩
                case measure=>simp [intOf];omega
              | false=>
                as_aux_lemma=>
                obtain ⟨q0,i1,r0,f0,f1⟩:=S2.out wr KR.out;have kc:=NR.out.cell MK.out;have R:=ze (show E (m+1)=um from by rw [ESM.out];simp);refine Zk (N:=223) [.rd [0,1,2,3,4,5,6,7,8,9,10,11,12,13,14,15,16,17,18,19,20,21,22,23,24],.ef 25,.ef 26,.ef 27,.ef 28] 28 (fun W=>W.cell? ⟨w.heap.size,0,none⟩=some (.slice (some ⟨lb,lo,none⟩) p.items.length ic)∧W.cell? ⟨lb,lo+j*2+1,none⟩=some (.slice (some ⟨lb2,lo2,none⟩) paths.length pc)∧W.cell? ⟨lb2,lo2+m,none⟩=some (.slice qa l.length qc)∧W.cell? ⟨fb,k,none⟩=some (.int .i64 a)∧W.cell? ⟨fb,k+1,none⟩=some (.int .i64 b)∧W.cell? ⟨gn,k,none⟩=some (.bool false)) (by kernel_rfl) (by kernel_rfl) (by kernel_rfl) (by kernel_rfl) (by kernel_rfl) (Nat.le_of_ble_eq_true rfl) ⟨q0,i1,r0,f0,f1,kc⟩ ?_;refine xu (A:=?F1) ?m1 ?m2
                case m1=>
                  rintro w' ⟨z0,z1,z2,z3,z4,z5⟩ K hK;simp only [zM,zqT,zqU,zqV,zqW,zqX];refine WS.out ?_
                  repeat (refine Zu (fun K hK=>?_);go_simp;refine hK _ ?_;clear hK K)
                  refine yn ?_;exact hK
                clear q0 i1 r0 f0 f1 kc;have KD:=ze (KR.out.trans (zw _ wr));have ND:=ze (NR.out.chg (zw _ wr));have RU2:=ze (RU1.out _ KD.out);clear NR KR RU1;generalize wr.drew=wd at *;refine zJ rfl ?_;go_wp2_with fail;(with_reducible refine RU2.out.mono ?_);rintro e w5 ⟨rfl,k5⟩;have K5:=ze (KD.out.trans (k5.mono (fun _ _ e=>e.elim)));have N5:=ze (ND.out.chg k5)
                have s5:w5.cell? ⟨w.heap.size,0,none⟩=some (.slice (some ⟨lb,lo,none⟩) p.items.length ic)∧w5.cell? ⟨lb,lo+j*2+1,none⟩=some (.slice (some ⟨lb2,lo2,none⟩) paths.length pc)∧w5.cell? ⟨lb2,lo2+m,none⟩=some (.slice qa l.length qc)∧w5.cell? ⟨fb,k,none⟩=some (.int .i64 a)∧w5.cell? ⟨fb,k+1,none⟩=some (.int .i64 b)∧w5.cell? ⟨gn,k,none⟩=some (.bool false):=by
                  obtain ⟨q0,i1,r0,f0,f1⟩:=S2.out w5 K5.out;exact ⟨q0,i1,r0,f0,f1,N5.out.cell MK.out⟩
                have S5:=ze s5;clear k5 RU2 KD ND s5;go_wp2_with fail
                first | refine ⟨.inr S5.out,?_⟩ | refine ⟨S5.out,?_⟩
                refine zJ rfl ?_;go_wp2_with fail
                first | refine ⟨.inr S5.out,?_⟩ | refine ⟨S5.out,?_⟩
                refine zJ rfl ?_;go_wp2_with fail
                first | refine ⟨.inr S5.out,?_⟩ | refine ⟨S5.out,?_⟩
                refine zJ rfl ?_;have c5:=N5.out.cell MK.out;have f5:=zm (o:=k) N5.out;go_wp2_with fail;clear c5 f5;have K6:=ze (K5.out.trans (zG w5 gn k (.bool um)));have N6:=ze (N5.out.set k um)
                first | refine ⟨.inl rfl,yA ?_⟩ | (unfold zc8;refine yA ?_)
                clear K5 N5 S5;generalize w5.setCell ⟨gn,k,none⟩ (.bool um)=w6 at *;have MK6:=ze (show (M.set k um)[k]? = some um from List.getElem?_set_self (by rw [ML.out];exact hkl));go_wp2;go_roundw
                case rel=>exact ⟨m+1,_,by omega,by go_num,ze ⟨N6.out,by rw [List.length_set];exact ML.out,by rw [R.out];exact MK6.out,fun i h1 h2=>by rw [List.getElem?_set_ne (by omega)];exact MN.out i h1 h2,K6.out⟩⟩
                case measure=>simp [intOf];omega
          · as_aux_lemma=>
            obtain rfl:j=p.items.length:=by omega
            have g2:decide ((p.items.length:Int) < (p.items.length:Int))=false:=zqZ (by omega);have R:=ze (DE.out HOK.out k hkl);have q0:=zf (o:=0) (PX.out wr KR.out).1 rfl;go_wp2;go_roundw
            case rel=>exact ⟨k,_,by omega,by first | rfl | simp,ze ⟨NR.out,ML.out,fun i h1 h2=>by
              rcases Nat.eq_or_lt_of_le h1 with h | h
              · rw [<- h,<- R.out];exact MK.out
              · exact MN.out i h h2,KR.out⟩⟩
            case measure=>simp [intOf]
end Go.Proofs.YthdfplafihmejaaGreat
