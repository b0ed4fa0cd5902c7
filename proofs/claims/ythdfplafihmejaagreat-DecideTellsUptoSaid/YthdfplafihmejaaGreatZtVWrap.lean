/-
  The reference's acl: may, Same, Add. The reference's acl: New. Decide: the reference's Wrong and Check. Layer 17: what is asked; decide, explain, own. Layer 17: long.
-/
import Derived.Test.YthdfplafihmejaaGreatZtUPlainY
import Derived.Test.YthdfplafihmejaaGreatZtAEntZ
import Derived.Test.YthdfplafihmejaaGreatZtBaseZ
import Derived.Test.YthdfplafihmejaaGreatZtVShort
import Derived.Test.YthdfplafihmejaaGreatZtRRefAZ
import Derived.Test.YthdfplafihmejaaGreatZtDCheckZ
import Derived.Test.YthdfplafihmejaaGreatZtANew
import Derived.Test.YthdfplafihmejaaGreatZtAEnt
import Derived.Deep.DeepCutAuto
import Derived.Deep.CutBlock
namespace Go.Proofs.YthdfplafihmejaaGreat
open Go.RowKit Go.Maps
set_option maxRecDepth 100000 in
theorem zlY (w:World) (x:Za) (a:Option Addr) (n c:Nat) (G:Nat->Prop) (hv:zx w (.slice a n c) G x.2) (hz:zaa x.2):
    Calls Tryz.prog 98 #[.agg #[.int .i64 x.1,.slice a n c]] w fun e w'=>e=.returned (.bool (zkY x))∧Chg (fun _=>False) w w':=by
  have k1:=zi (fun _=>False) w (.cells #[.int .i64 x.1,.slice a n c] 56);have MAY:=ze (zau _ _ G x.2 (hv.chg k1 (fun _ _ e=>e)) hz);have YES:=ze (fun h=>zjC (x:=x) h);have NO:=ze (fun h=>zmF (x:=x) h);have K1:=ze k1;clear k1 hv hz;generalize zkY x=b at *;obtain ⟨op,l⟩:=x;simp only at MAY YES NO K1 ⊢;by_cases h0:0<=op
  · have g0:decide (0<=op)=true:=zqY h0
    by_cases h1:op < 8
    · have g1:decide (op<=7)=true:=zqY (by omega)
      rw [<- YES.out ⟨h0,h1⟩] at MAY;clear h0 h1 YES NO;go_enter Tryz.func98,Tryz.ntmps98;go_wp2_with fail;(with_reducible refine MAY.out.mono ?_);rintro e w2 ⟨rfl,d2⟩;have K2:=ze (K1.out.trans d2);clear d2 MAY K1;cases b
      all_goals
        go_wp2;go_ret;exact ⟨rfl,K2.out⟩
    · have g1:decide (op<=7)=false:=zqZ (by omega)
      obtain rfl:=NO.out (fun q=>h1 q.2);clear h0 h1 YES NO MAY;go_enter Tryz.func98,Tryz.ntmps98;go_wp2;go_ret;exact ⟨rfl,K1.out⟩
  · have g0:decide (0<=op)=false:=zqZ h0
    obtain rfl:=NO.out (fun q=>h0 q.1);clear h0 YES NO MAY;go_enter Tryz.func98,Tryz.ntmps98;go_wp2;go_ret;exact ⟨rfl,K1.out⟩
set_option maxRecDepth 100000 in
theorem zkl (w:World) (x y:Za) (a b:Option Addr) (n c m d:Nat) (G G':Nat->Prop) (hv:zx w (.slice a n c) G x.2) (hu:zx w (.slice b m d) G' y.2):
    Calls Tryz.prog 99 #[.agg #[.int .i64 x.1,.slice a n c],.agg #[.int .i64 y.1,.slice b m d]] w fun e w'=>e=.returned (.bool (eqB x y))∧Chg (fun _=>False) w w':=by
  have k1:=(zi (fun _=>False) w (.cells #[.int .i64 x.1,.slice a n c] 56)).alloc (.cells #[.int .i64 y.1,.slice b m d] 56);have EQ:=ze (zfm _ _ _ G G' x.2 y.2 (hv.chg k1 (fun _ _ e=>e)) (hu.chg k1 (fun _ _ e=>e)));have YES:=ze (fun h=>zmE (x:=x) (y:=y) h);have NO:=ze (fun h=>zoJ (x:=x) (y:=y) h);have K1:=ze k1;clear k1 hv hu;generalize eqB x y=r at *;obtain ⟨op,l⟩:=x;obtain ⟨oq,k⟩:=y;simp only at EQ YES NO K1 ⊢;by_cases h0:op=oq
  · have g0:(op == oq)=true:=beq_iff_eq.2 h0
    rw [<- YES.out h0] at EQ;clear h0 YES NO;go_enter Tryz.func99,Tryz.ntmps99;go_wp2_with fail;(with_reducible refine EQ.out.mono ?_);rintro e w2 ⟨rfl,d2⟩;have K2:=ze (K1.out.trans d2.chg);clear d2 EQ K1;cases r
    all_goals
      go_wp2;go_ret;exact ⟨rfl,K2.out⟩
  · have g0:(op == oq)=false:=zq9.2 h0
    obtain rfl:=NO.out h0;clear h0 YES NO EQ;go_enter Tryz.func99,Tryz.ntmps99;go_wp2;go_ret;exact ⟨rfl,K1.out⟩
set_option maxHeartbeats 4000000 in
set_option maxRecDepth 100000 in
theorem znH (w:World) (b:Nat) (ty:TypeId) (x:Za) (L:List Za) (ver:Nat) (a:Option Addr) (n c:Nat) (G G':Nat->Prop) (hl:Yk w b ty G L ver) (hver:ver<=1000000) (hL:L.length<=1000) (hv:xf w (.slice a n c) G' x.2) (hz:zaa x.2):
    Calls Tryz.prog 65 #[.pointer (some ⟨b,0,none⟩),.agg #[.int .i64 x.1,.slice a n c]] w (zaM w b ty G (zbu x L) (zeN x L) ver):=by
  obtain ⟨la,cap,h1,h2,hcap,hcm⟩:=hl.open
  have hbl:=hl.lt;unfold maxLen at hcm;have k1:=zi (fun _=>False) w (.cells #[.int .i64 x.1,.slice a n c] 56);have K1:=ze k1;have MAY:=ze (zlY _ x a n c G' (hv.at_.chg k1 (fun _ _ e=>e)) hz);have X1:=ze (zh w (.cells #[.int .i64 x.1,.slice a n c] 56));have HL:=ze hl;have HV:=ze hv;have H1:=ze h1;have H2:=ze h2;have HZ:=ze hz;clear k1 hl hv h1 h2 hz;cases hm:zkY x with
  | false=>
    have R:zbu x L=2:=by unfold zbu;rw [hm];rfl
    have RL:zeN x L=L:=by unfold zeN;rw [R];rfl
    rw [R,RL];rw [hm] at MAY;clear R RL hm;obtain ⟨op,l⟩:=x;simp only at MAY K1 ⊢;go_enter Tryz.func65,Tryz.ntmps65;go_wp2_with fail;(with_reducible refine MAY.out.mono ?_);rintro e w2 ⟨rfl,k2⟩;go_wp2;go_ret;exact xq HL.out (by omega) (K1.out.trans k2)
  | true=>
    rw [hm] at MAY;have HM:=ze hm;obtain ⟨hs1,hs2⟩:=xV (zcp.1 hm).2;clear hm;have SA:=ze (fun w1 (k:Chg (fun _=>False) w w1) y d m e (hu:zx w1 (.slice d m e) G y.2)=>zkl w1 y x d a m e n c G G' hu (HV.out.at_.chg k (fun _ _ e=>e)));have RT:=ze (show ∀ k,k=0∨k=3∨k=11->∀ L2,L2=zeN x L->zbu x L=k->zaM w b ty G (zbu x L) (zeN x L) ver=zaM w b ty G k L2 ver from fun k _ L2 h1 h2=>by rw [h1,h2]);have ADE:=ze (show zbu x L=if x∈L then 11 else if 12<=L.length then 3 else 0 by unfold zbu;rw [if_pos HM.out]);generalize hq:zaM w b ty G (zbu x L) (zeN x L) ver=POST at *;have HQ:=ze hq;clear hq;obtain ⟨op,l⟩:=x;obtain ⟨_,_,eqn⟩:=HV.out.shape;cases eqn;simp only at MAY K1 SA hs1 hs2 ⊢;go_enter Tryz.func65,Tryz.ntmps65;go_wp2_with fail;(with_reducible refine MAY.out.mono ?_);rintro e w2 ⟨rfl,k2⟩;have o2:=k2.obj (fun e=>e) X1.out;have K2:=ze (K1.out.trans k2);have X2:=ze o2;clear o2 k2 K1 MAY X1;go_wp2;go_loopw [5] (fun iv wr=>∃ k:Nat,k<=L.length∧iv=.int .i64 k∧Hid ((∀ j,j < k->L[j]?≠some (op,l))∧Chg (fun _=>False) w2 wr)) (fun iv _=>L.length - (intOf iv).toNat)
    case atStart=>exact ⟨0,by omega,rfl,ze ⟨fun j hj=>by omega,Chg.refl _ _⟩⟩
    case round=>
      obtain ⟨k,hk,rfl,HI⟩:=hrel;have KR:=ze (K2.out.trans HI.out.2);have X3:=ze (HI.out.2.obj (fun e=>e) X2.out);have c0:wr.cell? ⟨b,0,none⟩=some (.slice la L.length cap):=zf (KR.out.obj (fun e=>e) H1.out) rfl;have d0:wr.cell? ⟨w.heap.size,0,none⟩=some (.int .i64 op):=zf X3.out rfl;have d1:wr.cell? ⟨w.heap.size,1,none⟩=some (.slice a l.length c):=zf X3.out rfl;by_cases hlt:k < L.length
      · obtain ⟨y,hy⟩:∃ y,L[k]? = some y:=⟨_,zq0 hlt⟩
        obtain ⟨g,o,sa,sc,rfl,_,e0,e1,hs⟩:=(H2.out.chg KR.out (fun _ _ e=>e)).get hy;have SA2:=ze (fun w1 (k:Chg (fun _=>False) wr w1)=>SA.out w1 (KR.out.trans k) y sa y.2.length sc (hs.at_.chg k (fun _ _ e=>e)));have HY:=ze hy;have HN:=ze HI.out.1;have KI:=ze HI.out.2;clear hs hy HI KR X3;generalize hb:eqB y (op,l)=r at *;have HB:=ze hb;obtain ⟨oq,ly⟩:=y;simp only at SA2 e0 e1;clear hb;go_wp2_with fail;refine zu (N:=57) [.rd [0,1,2,3,4,5,6,7],.ef 8] (fun w'=>w'.cell? ⟨b,0,none⟩=some (.slice (some ⟨g,o,none⟩) L.length cap)∧w'.cell? ⟨w.heap.size,0,none⟩=some (.int .i64 op)∧w'.cell? ⟨w.heap.size,1,none⟩=some (.slice a l.length c)∧w'.cell? ⟨g,o+k*2,none⟩=some (.int .i64 oq)∧w'.cell? ⟨g,o+k*2+1,none⟩=some (.slice sa ly.length sc)) (by kernel_rfl) (by kernel_rfl) (by kernel_rfl) (by kernel_rfl) (Nat.le_of_ble_eq_true rfl) ⟨c0,d0,d1,e0,e1⟩ ?_;refine zB (A:=?A1) ?h1 ?h2
        case h1=>
          rintro w' ⟨z0,z1,z2,z3,z4⟩ K hK;simp only [zM,zqT,zqU,zqV,zqW,zqX];refine WS.out ?_
          repeat (refine Zu (fun K hK=>?_);go_simp;refine hK _ ?_;clear hK K)
          refine yn ?_;exact hK
        have D:=ze (zw (fun _=>False) wr);have f0:=zj D.out (fun e=>e) c0;have f1:=zj D.out (fun e=>e) d0;have f2:=zj D.out (fun e=>e) d1;have f3:=zj D.out (fun e=>e) e0;have f4:=zj D.out (fun e=>e) e1;have S3:=ze (SA2.out wr.drew D.out);have KD:=ze (KI.out.drew);clear D c0 d0 d1 e0 e1 SA2 KI;generalize wr.drew=wd at *;refine zI rfl ?_;go_wp2_with fail;(with_reducible refine S3.out.mono ?_);rintro e w4 ⟨rfl,k4⟩;have K4:=ze (KD.out.trans k4);have g0:=zj k4 (fun e=>e) f0;have g1:=zj k4 (fun e=>e) f1;have g2:=zj k4 (fun e=>e) f2;have g3:=zj k4 (fun e=>e) f3;have g4:=zj k4 (fun e=>e) f4;clear k4 f0 f1 f2 f3 f4 S3 KD;go_wp2_with fail;refine ⟨⟨g0,g1,g2,g3,g4⟩,?_⟩;refine zR ?_;clear g0 g1 g2 g3 g4;cases r with
        | true=>
          have HIN:=ze (show (op,l)∈L from by
            have:=of_decide_eq_true HB.out;rw [<- this];exact zq2 HY.out)
          have R:=ze (show POST=zaM w b ty G 11 L ver from by
            have e1:zbu (op,l) L=11:=by rw [ADE.out,if_pos HIN.out]
            have e2:zeN (op,l) L=L:=by unfold zeN;rw [e1];rfl
            rw [<- HQ.out,e1,e2])
          go_wp2;rw [R.out];exact xq HL.out (by omega) (K2.out.trans K4.out)
        | false=>
          have HN2:=ze (show ∀ j,j < k+1->L[j]?≠some (op,l) from fun j hj=>by
            rcases Nat.lt_or_ge j k with q | q
            · exact HN.out j q
            · obtain rfl:j=k:=by omega
              rw [HY.out];exact fun e=>of_decide_eq_false HB.out (Option.some.inj e))
          go_wp2;go_roundw
          case rel=>exact ⟨k+1,by omega,by go_num,ze ⟨HN2.out,K4.out⟩⟩
          case measure=>simp [intOf];omega
      · obtain rfl:k=L.length:=by omega
        have HNI:=ze (show (op,l) ∉ L from zcl HI.out.1);by_cases hmany:12<=L.length
        · have g:decide (12<=(L.length:Int))=true:=by rw [decide_eq_true_eq];omega
          have R:=ze (show POST=zaM w b ty G 3 L ver from by
            have e1:zbu (op,l) L=3:=by rw [ADE.out,if_neg HNI.out,if_pos hmany]
            have e2:zeN (op,l) L=L:=by unfold zeN;rw [e1];rfl
            rw [<- HQ.out,e1,e2])
          clear HI hlt;go_wp2;rw [R.out];exact xq HL.out (by omega) KR.out
        · have g:decide (12<=(L.length:Int))=false:=by rw [decide_eq_false_iff_not];omega
          have R:=ze (show POST=zaM w b ty G 0 (L++[(op,l)]) ver from by
            have e1:zbu (op,l) L=0:=by rw [ADE.out,if_neg HNI.out,if_neg hmany]
            have e2:zeN (op,l) L=L++[(op,l)]:=by unfold zeN;rw [e1];rfl
            rw [<- HQ.out,e1,e2])
          have B3:=ze (KR.out.obj (fun e=>e) H1.out);have hb3:=KR.out.size;have ka:=zi (fun _=>False) wr (.cells #[] 57);have d1a:=zj ka (fun e=>e) d1;have HS:=ze (HV.out.chg (KR.out.trans ka) (fun _ _ e=>e));have KA:=ze (KR.out.trans ka);have X3L:=ze X3.out;have KRL:=ze KR.out;have XA:=ze (ka.obj (fun e=>e) X3.out);clear HI hlt hmany ka d0 d1 SA ADE RT KR X3 B3;go_wp2_with (at_builtin;refine zV rfl (.tmp 33) (.tmp 35) 26 rfl 57 1 16 Tryz.underlying26 Tryz.elemWord wr.heap.size _ 0 [] rfl (ZH _ _ _ _ (zrj _)) a l.length c (zK l) rfl ?a1 ?a2 ?a3 ?a4 ?a5 ?a6 ?a7 ?nx1)
          case a1=>unfold zK;rw [zq4];omega
          case a2=>exact zac HS.out.at_
          case a3=>intro e;exact HS.out.nil _ _ (by rw [e])
          case a4=>exact Yz l
          case a5=>omega
          case a6=>unfold maxLen;omega
          case a7=>simp
          intro v5 w5 o5 g5;have g5c:=Chg.of_grown g5
          have k5:Chg (fun _=>False) wr w5:=(zi (fun _=>False) wr (.cells #[] 57)).next g5c (fun x hx e=>by
            have e2:wr.heap.size=x:=by simpa [Value.ownBlock] using e
            omega)
          have x5:=g5c.obj (fun e=>by
            have e2:wr.heap.size=w.heap.size:=by simpa [Value.ownBlock] using e
            have:=zr X3L.out;omega) XA.out
          have y1:w5.cell? ⟨w.heap.size,1,none⟩=some (.slice a l.length c):=zf x5 rfl;have yf:w5.frozen? ⟨w.heap.size,1,none⟩=false:=zm x5;obtain ⟨a5,c5,rfl⟩:=zl o5;obtain ⟨w6,hw6⟩:∃ w6,w6=w5.setCell ⟨w.heap.size,1,none⟩ (.slice a5 l.length c5):=⟨_,rfl⟩;have x6:w6.heap[w.heap.size]? = some (.cells #[.int .i64 op,.slice a5 l.length c5] 56 (0,0)):=by rw [hw6];exact zt x5 _
          have k6:Chg (·=w.heap.size) w5 w6:=by rw [hw6];exact zG _ _ _ _
          have hxr:=zr X3L.out;have O6:=ze (zn o5 k6 (fun k hk e=>by have:=(o5.lt k hk).1;omega));have K6:=ze ((KRL.out.trans k5).next k6 (fun x hx e=>by omega));have hb6:wr.heap.size<=w6.heap.size:=by have:=k5.size;have:=k6.size;omega
          have X6:=ze x6;clear o5 g5 g5c k5 x5 c0 d1a x6 k6 XA KA HS;go_wp2_with fail;rw [<- hw6];clear hw6 y1 yf;have z0:w6.cell? ⟨b,0,none⟩=some (.slice la L.length cap):=zf (K6.out.obj (fun e=>e) H1.out) rfl;have z1:w6.cell? ⟨w.heap.size,0,none⟩=some (.int .i64 op):=zf X6.out rfl;have z2:w6.cell? ⟨w.heap.size,1,none⟩=some (.slice a5 l.length c5):=zf X6.out rfl;refine zeW (N:=57) (.rd [0,2,3,4,5,7] (.two 1 8 (.two 6 8 (.ef 8 (.ef 9 (.ef 10 (.ef 11 (.ef 12 .nil))))) (.ef 6 (.ef 9 (.ef 10 (.ef 11 (.ef 12 .nil)))))) (.ef 1 (.ef 6 (.ef 9 (.ef 10 (.ef 11 (.ef 12 .nil)))))))) 12 (fun w'=>w'.cell? ⟨b,0,none⟩=some (.slice la L.length cap)∧w'.cell? ⟨w.heap.size,0,none⟩=some (.int .i64 op)∧w'.cell? ⟨w.heap.size,1,none⟩=some (.slice a5 l.length c5)) (by kernel_rfl) (by kernel_rfl) (by kernel_rfl) (by kernel_rfl) (Nat.le_of_ble_eq_true rfl) ⟨z0,z1,z2⟩ ?_;refine zo2 (A:=?A2) ?h3 ?h4
          case h3=>
            rintro w' ⟨q0,q1,q2⟩ K hK;simp only [zM,zqT,zqU,zqV,zqW,zqX];refine WS.out ?_
            repeat (refine Zu (fun K hK=>?_);go_simp;refine hK _ ?_;clear hK K)
            refine yn ?_;exact hK
          have D:=ze (zw (fun _=>False) w6);have KD:=ze (K6.out.drew);have O7:=ze (zn O6.out D.out (fun _ _ e=>e));have hbd:wr.heap.size<=w6.drew.heap.size:=hb6;have SD:=ze (show ∀ W,Chg (fun _=>False) w6.drew W->W.cell? ⟨b,0,none⟩=some (.slice la L.length cap)∧W.cell? ⟨w.heap.size,0,none⟩=some (.int .i64 op)∧W.cell? ⟨w.heap.size,1,none⟩=some (.slice a5 l.length c5) from fun W k=>⟨zj (D.out.trans k) (fun e=>e) z0,zj (D.out.trans k) (fun e=>e) z1,zj (D.out.trans k) (fun e=>e) z2⟩)
          obtain ⟨EN,hEN⟩:∃ E,E.length=L.length∧zgF w G E L∧(la=none->L.length=0∧cap=0)∧∀ (j:Nat) u,(yk E)[j]? = some u->∃ lb lo,la=some ⟨lb,lo,none⟩∧w.cell? ⟨lb,lo+j,none⟩=some u:=by
            obtain ⟨E,la',cap',e,q1,q2,q3,q4,q5⟩:=H2.out;cases e;exact ⟨E,q4.len,q4,fun e=>by have:=q3 e;exact ⟨by omega,this⟩,fun j u hj=>by obtain ⟨lb,lo,r1,_,r2⟩:=q5 j u hj;exact ⟨lb,lo,r1,r2⟩⟩
          have HEN:=ze hEN;clear z0 z1 z2 D K6 O6 X6 hb6 hEN;generalize w6.drew=wd at *;refine zi3 rfl rfl ?p1 ?p2
          case' p1=>
            go_wp2_with fail;have KC:=ze (zi (fun _=>False) wd (.cells #[] 56));refine ⟨SD.out _ KC.out,?_⟩;refine zi3 rfl rfl ?p11 ?p12
          case' p11=>
            refine zV rfl (.tmp 39) (.tmp 43) 24 rfl 56 2 32 Tryz.underlying24 Tryz.elemEntry wd.heap.size (.slice (some ⟨wd.heap.size,0,none⟩) 0 0) 0 [] rfl (ZH _ _ _ _ (zrj _)) la L.length cap (yk EN) rfl ?b1 ?b2 ?b3 ?b4 ?b5 ?b6 ?b7 ?b8
            case b1=>rw [Yh,HEN.out.1]
            case b2=>exact fun j u hj=>by obtain ⟨lb,lo,r1,r2⟩:=HEN.out.2.2.2 j u hj;exact ⟨lb,lo,r1,zj (KD.out.trans KC.out) (fun e=>e) r2⟩
            case b3=>exact HEN.out.2.2.1
            case b4=>exact zbr HEN.out.2.1.one
            case b5=>omega
            case b6=>unfold maxLen;omega
            case b7=>simp only [zq8];omega
            intro v7 W7 o7 g7;have o7b:W7.ownsRow wd.heap.size 56 2 v7 L.length (yk EN):=by simpa using o7
            have KC2:=ze (show Chg (fun _=>False) wd W7 from KC.out.next (Chg.of_grown g7) (fun x hx e=>by
              have e2:wd.heap.size=x:=by simpa [Value.ownBlock] using e
              omega))
            clear o7 g7 KC;go_wp2_with fail;refine ⟨SD.out _ KC2.out,?_⟩;refine zaQ rfl ?_;go_wp2_with fail;have KC:=ze (KC2.out.alloc (.cells #[.int .i64 op,.slice a5 l.length c5] 56));refine ⟨.inr (SD.out _ KC.out),?_⟩;have O44:=ze (zn o7b (zi (fun _=>False) W7 (.cells #[.int .i64 op,.slice a5 l.length c5] 56)) (fun _ _ e=>e));have BX:=ze (zh W7 (.cells #[.int .i64 op,.slice a5 l.length c5] 56));have hgx:wd.heap.size<=W7.heap.size:=KC2.out.size;clear o7b KC2;generalize W7.heap.size=gx at *;generalize W7.alloc (.cells #[.int .i64 op,.slice a5 l.length c5] 56)=W8 at *
          case' p12=>
            go_wp2_with fail;have KC2:=ze (KC.out.alloc (.cells #[.int .i64 op,.slice a5 l.length c5] 56));refine ⟨SD.out _ KC2.out,?_⟩;have BX0:=ze (zh (wd.alloc (.cells #[] 56)) (.cells #[.int .i64 op,.slice a5 l.length c5] 56));clear KC;have KC:=ze KC2.out;refine zaQ rfl ?_;refine zV rfl (.tmp 39) (.tmp 43) 24 rfl 56 2 32 Tryz.underlying24 Tryz.elemEntry wd.heap.size (.slice (some ⟨wd.heap.size,0,none⟩) 0 0) 0 [] rfl ((ZH _ _ _ _ (zrj _)).alloc _) la L.length cap (yk EN) rfl ?c1 ?c2 ?c3 ?c4 ?c5 ?c6 ?c7 ?c8
            case c1=>rw [Yh,HEN.out.1]
            case c2=>exact fun j u hj=>by obtain ⟨lb,lo,r1,r2⟩:=HEN.out.2.2.2 j u hj;exact ⟨lb,lo,r1,zj (KD.out.trans KC.out) (fun e=>e) r2⟩
            case c3=>exact HEN.out.2.2.1
            case c4=>exact zbr HEN.out.2.1.one
            case c5=>omega
            case c6=>unfold maxLen;omega
            case c7=>simp only [zq8];omega
            intro v7 W7 o7 g7;have o7b:W7.ownsRow wd.heap.size 56 2 v7 L.length (yk EN):=by simpa using o7
            have KC3:=ze (show Chg (fun _=>False) wd W7 from KC.out.next (Chg.of_grown g7) (fun x hx e=>by
              have e2:wd.heap.size=x:=by simpa [Value.ownBlock] using e
              omega))
            have BX:=ze ((Chg.of_grown g7).obj (fun e=>by simp [Value.ownBlock] at e) BX0.out);have O44:=ze o7b;clear o7 g7 KC KC2 BX0 o7b;have KC:=ze KC3.out;clear KC3;go_wp2_with fail;refine ⟨.inr (SD.out _ KC.out),?_⟩;rw [zq8] at BX;have hgx:wd.heap.size<=wd.heap.size+1:=by omega
            generalize wd.heap.size+1=gx at *;generalize W7=W8 at *
          case' p2=>
            go_wp2_with fail;have KC0:=ze (zi (fun _=>False) wd (.cells #[.int .i64 op,.slice a5 l.length c5] 56));refine ⟨SD.out _ KC0.out,?_⟩;have BX0:=ze (Ze (.cells #[] 56) (zh wd (.cells #[.int .i64 op,.slice a5 l.length c5] 56)));refine zaQ rfl ?_;go_wp2_with fail;have KC:=ze (KC0.out.alloc (.cells #[] 56));clear KC0;refine ⟨.inr (SD.out _ KC.out),?_⟩;refine zaQ rfl ?_;have OE:=ze (show World.ownsRow ((wd.alloc (.cells #[.int .i64 op,.slice a5 l.length c5] 56)).alloc (.cells #[] 56)) wd.heap.size 56 2 (.slice (some ⟨wd.heap.size+1,0,none⟩) 0 0) 0 [] from by have:=ZH (wd.alloc (.cells #[.int .i64 op,.slice a5 l.length c5] 56)) wd.heap.size 56 2 (by simp);rw [zq8] at this;exact this);refine zV rfl (.tmp 39) (.tmp 43) 24 rfl 56 2 32 Tryz.underlying24 Tryz.elemEntry wd.heap.size (.slice (some ⟨wd.heap.size+1,0,none⟩) 0 0) 0 [] rfl OE.out la L.length cap (yk EN) rfl ?d1 ?d2 ?d3 ?d4 ?d5 ?d6 ?d7 ?d8
            case d1=>rw [Yh,HEN.out.1]
            case d2=>exact fun j u hj=>by obtain ⟨lb,lo,r1,r2⟩:=HEN.out.2.2.2 j u hj;exact ⟨lb,lo,r1,zj (KD.out.trans KC.out) (fun e=>e) r2⟩
            case d3=>exact HEN.out.2.2.1
            case d4=>exact zbr HEN.out.2.1.one
            case d5=>omega
            case d6=>unfold maxLen;omega
            case d7=>simp only [zq8];omega
            intro v7 W7 o7 g7;have o7b:W7.ownsRow wd.heap.size 56 2 v7 L.length (yk EN):=by simpa using o7
            have KC3:=ze (show Chg (fun _=>False) wd W7 from KC.out.next (Chg.of_grown g7) (fun x hx e=>by
              have e2:wd.heap.size+1=x:=by simpa [Value.ownBlock] using e
              omega))
            have BX:=ze ((Chg.of_grown g7).obj (fun e=>by simp [Value.ownBlock] at e) BX0.out);have O44:=ze o7b;clear o7 g7 KC BX0 o7b;have KC:=ze KC3.out;clear KC3;go_wp2_with fail;refine ⟨.inr (SD.out _ KC.out),?_⟩;have hgx:wd.heap.size<=wd.heap.size:=zrj _;obtain ⟨gx,hgxe⟩:∃ gx,gx=wd.heap.size:=⟨_,rfl⟩;generalize W7=W8 at *
          all_goals
            refine zaQ rfl ?_;refine Zd rfl (.tmp 44) (.tmp 46) 24 rfl 56 2 32 Tryz.underlying24 Tryz.elemEntry wd.heap.size v7 L.length (yk EN) rfl O44.out _ [.int .i64 op,.slice a5 l.length c5] 56 (0,0) rfl BX.out rfl (by intro u hu;simp at hu;rcases hu with rfl | rfl <;> rfl) (by omega) (by unfold maxLen;omega) KC.out.size ?_;intro v9 w9 o9 g9;have K9:=ze (show Chg (fun _=>False) wd w9 from KC.out.next (Chg.of_grown g9) (fun x hx e=>by have:=(O44.out.lt x e).1;omega));obtain ⟨a9,c9,rfl⟩:=zl o9
            have O9:=ze (show w9.ownsRow wd.heap.size 56 2 (.slice a9 (L.length+1) c9) (EN++[(op,Value.slice a5 l.length c5)]).length (yk (EN++[(op,Value.slice a5 l.length c5)])) from by
              rw [zcq,zq3,HEN.out.1];exact o9)
            have KW:=ze (KD.out.trans K9.out);have B9:=ze (KW.out.obj (fun e=>e) H1.out);have hb9:wd.heap.size<=w9.heap.size:=K9.out.size
            have EN9:=ze (show zgF w9 (fun k=>G k∨(w.heap.size<=k∧k < w9.heap.size)) (EN++[(op,Value.slice a5 l.length c5)]) (L++[(op,l)]) from
              ((HEN.out.2.1.chg KW.out (fun _ _ e=>e)).up (fun _ h=>.inl h)).snoc rfl ((zcb (zn O7.out K9.out (fun _ _ e=>e)) (fun s hs=>by have:=HZ.out s hs;unfold maxLen;omega)).up (fun k hk=>.inr (by have:=O7.out.lt k hk;omega))))
            clear o9 g9 O44 BX KC hgx HEN;go_wp2_with fail;refine ⟨.inr (SD.out _ K9.out),?_⟩;refine zaQ rfl ?_;go_wp2_with fail;refine ⟨.inr (SD.out _ K9.out),?_⟩;refine zaQ rfl ?_;go_wp2_with fail;refine ⟨.inr (SD.out _ K9.out),?_⟩;refine zaQ rfl ?_;refine ZR rfl 24 (.tmp 49) (.tmp 47) rfl b 0 rfl (.slice a9 (L.length+1) c9) rfl rfl rfl Tryz.sizeEntries _ (SD.out _ K9.out).1 (zm B9.out) ?_;intro w10 hw10;refine ⟨.inl rfl,znq ?_⟩;have o10:w10.heap[b]? = some (.cells #[.slice a9 (L.length+1) c9,.int .i64 (ver:Int)] ty (0,0)):=by rw [hw10];exact zt B9.out _
            have k10:Chg (·=b) w9 w10:=by rw [hw10];exact zG _ _ _ _
            have m1:w10.cell? ⟨b,1,none⟩=some (.int .i64 (ver:Int)):=zf o10 rfl;have fz1:w10.frozen? ⟨b,1,none⟩=false:=zm o10
            have FIN:=ze (show zaM w b ty G 0 (L++[(op,l)]) ver (.returned (.int .i64 0)) (w10.setCell ⟨b,1,none⟩ (.int .i64 ((ver:Int)+1))) from by
              have k8:=k10.trans (zG w10 b 1 (.int .i64 ((ver:Int)+1)));have hw8:(w10.setCell ⟨b,1,none⟩ (.int .i64 ((ver:Int)+1))).heap.size=w9.heap.size:=by rw [hw10];simp [World.setCell]
              refine ⟨rfl,⟨⟨_,zt (o:=1) o10 _,?_⟩,?_⟩,(KW.out.mono (fun _ _ e=>e.elim)).next k8 (fun k hk e=>e)⟩
              · have hnb:∀ k,(G k∨(w.heap.size<=k∧k < w9.heap.size))->¬ k=b:=fun k h e=>by
                  rcases h with h | h
                  · exact HL.out.out (e ▸ h)
                  · omega
                refine ZI.chg (S:=(·=b)) (w:=w9) ?_ k8 ?_
                · rw [hw8]
                  exact zfF (G:=fun k=>G k∨(w.heap.size<=k∧k < w9.heap.size)) O9.out EN9.out (fun k hk=>.inr (by have:=O9.out.lt k hk;omega))
                · rw [hw8];exact hnb
              · intro h
                rcases h with h | h
                · exact HL.out.out h
                · omega)
            clear o10 k10 hw10 O9 EN9 K9 KW B9 SD;go_wp2;rw [R.out];exact FIN.out
set_option maxHeartbeats 2000000 in
set_option maxRecDepth 100000 in
theorem zji (w:World) (v:Value) (l:List Za) (G:Nat->Prop) (hl:ZI w v G l) (hlen:l.length<=1000) (hz:∀ x∈l,zaa x.2):
    Calls Tryz.prog 35 #[v] w (zjL w 135 l):=by
  obtain ⟨la,cap,rfl,hcap,hcm⟩:=hl.shape;have HL:=ze hl;have HZ:=ze hz;clear hl hz;unfold maxLen at hcm;go_enter Tryz.func35,Tryz.ntmps35;go_wp2;go_loopw [5] (fun iv wr=>∃ (k:Nat),k<=l.length∧iv=.int .i64 k∧Hid (zgv w 135 l k wr)) (fun iv _=>l.length - (intOf iv).toNat)
  case atStart=>exact ⟨0,by omega,rfl,ze (zen _ _ _)⟩
  case round=>
    obtain ⟨k,hk,rfl,HI⟩:=hrel;have hwb:=HI.out.lst.lt;by_cases hlt:k < l.length
    · obtain ⟨x,hx⟩:∃ x,l[k]? = some x:=⟨_,zq0 hlt⟩
      obtain ⟨g,o,sa,sc,rfl,_,d0,d1,hs⟩:=(HL.out.chg HI.out.chg (fun _ _ e=>e)).get hx;have ka:=Chg.refl (fun _=>False) wr;have AD:=ze (znH wr w.heap.size 135 x (l.take k) k sa x.2.length sc _ G HI.out.lst (by omega) (by rw [zq5];omega) hs (HZ.out x (zq2 hx)));have NX:=ze (fun h0 w2 e hr=>HI.out.next (e:=e) hx h0 ka (w2:=w2) hr);have ER:=ze (fun h0=>HI.out.err_of hx h0);have KC:=ze (HI.out.chg.trans ka);have hb1:=HI.out.chg.size;clear HI hs hx ka;generalize hk:zbu x (l.take k)=ek at *;have HEK:=ze hk;obtain ⟨op,ls⟩:=x;simp only at d0 d1 AD NX;by_cases h0:ek=0
      · have NX2:=ze (NX.out h0)
        subst h0;clear NX ER hk;go_wp2_with fail;(with_reducible refine AD.out.mono ?_);rintro e w4 hr;have N4:=ze (NX2.out w4 e hr);obtain ⟨rfl,_,_⟩:=hr;clear AD NX2;go_wp2;go_roundw
        case rel=>exact ⟨k+1,by omega,by go_num,N4⟩
        case measure=>simp [intOf];omega
      · have ER2:=ze (ER.out h0)
        have g1:(ek != 0)=true:=by rw [zre];exact h0
        have g2:(ek == 0)=false:=by rw [zq9];exact h0
        have H0:=ze h0;clear NX ER h0 hk;go_wp2_with fail;(with_reducible refine AD.out.mono ?_);rintro e w4 ⟨rfl,_,k4⟩;have K4:=ze k4;clear k4 AD;go_wp2;go_ret2;exact zfu ER2.out H0.out KC.out (K4.out.mono (fun x _ e=>by omega))
    · obtain rfl:k=l.length:=by omega
      obtain ⟨⟨es,h1,h2⟩,h3⟩:=HI.out.lst;have f1:=zm (o:=1) h1;have c1:wr.cell? ⟨w.heap.size,1,none⟩=some (.int .i64 (l.length:Int)):=zf h1 rfl;have FIN:=ze (zem HI.out);clear HI h1 h2 h3;go_wp2;go_ret2;exact FIN.out
def zaH (C:List zq) (L:List Za) (op:Int) (c:List ByteArray):Int:=if Ye C L c=true then (if opB op=true then 0 else 1) else 2
theorem zit {op:Int}:opB op=true↔0<=op∧op < 8:=by
 unfold opB;rw [zrl,zra,zra]
theorem zjR {C:List zq} {L:List Za} {op:Int} {c:List ByteArray} (h:Ye C L c=false):zaH C L op c=2:=if_neg (by rw [h];decide)
theorem zps {C:List zq} {L:List Za} {c:List ByteArray} (h:¬ (zaJ c=true∧zeo [] L=0∧C.all ZD=true)):Ye C L c=false:=by
 rw [zrm];exact fun q=>h (yj.1 q)
set_option maxHeartbeats 8000000 in
set_option maxRecDepth 100000 in
theorem zj9 (w:World) (v lv cv:Value) (P:List (zq × Value)) (L:List Za) (op:Int) (c:List ByteArray) (G G2 G3:Nat->Prop) (hv:ym w v G P) (hl:ZI w lv G2 L) (hL:L.length<=1000) (hc:zx w cv G3 c) (hz:∀ x∈L,zaa x.2) (hcz:zaa c) (hcs:∀ k∈zk P,k.sp.size<=140737488355328∧zaa k.fr):
  Calls Tryz.prog 33 #[v,lv,.int .i64 op,cv] w fun e w'=>e=.returned (.int .i64 (zaH (zk P) L op c))∧Chg (fun _=>False) w w':=by
 have NW:=ze (zji w lv L G2 hl hL hz);have MY:=ze (fun W (k:Chg (fun _=>False) w W)=>zau W cv G3 c (hc.chg k (fun _ _ e=>e)) hcz);have HV:=ze hv;have HCS:=ze hcs;have F1:=ze (@zjR (zk P) L op c);have LN:=ze (@zps (zk P) L c);have LY:=ze (@yj (zk P) L c);have WE:=ze (show zaH (zk P) L op c=if Ye (zk P) L c=true then (if opB op=true then 0 else 1) else 2 from rfl);have OPI:=ze (@zit op);obtain ⟨la,lcap,rfl,hpl,_⟩:=hv;obtain ⟨_,_,rfl,_,_⟩:=hl.shape;obtain ⟨_,_,rfl,_,_⟩:=hc;unfold maxLen at hpl;generalize zaH (zk P) L op c=res at *;clear hl hz hcz hcs;go_enter Tryz.func33,Tryz.ntmps33;go_wp2_with fail;(with_reducible refine NW.out.mono ?_);rintro e w2 ⟨hgood,hbad,k2⟩;have K2:=ze k2;clear k2 NW;by_cases hn:zeo [] L=0
 rotate_left
 · as_aux_lemma=>
   have RD:=ze (F1.out (LN.out (fun q=>hn q.2.1)));obtain rfl:=hbad hn;have g1:(zeo [] L != 0)=true:=zre.2 hn;clear hgood hbad hn;generalize zeo [] L=ne at *;go_wp2;go_ret;exact ⟨by rw [RD.out];rfl,K2.out⟩
 obtain ⟨bl,rfl,_,_⟩:=hgood hn;have HN:=ze hn;have M2:=ze (MY.out w2 K2.out);clear hgood hbad hn MY;go_wp2_with fail;(with_reducible refine M2.out.mono ?_);rintro e w3 ⟨rfl,k3⟩;have K3:=ze (K2.out.trans k3);clear M2 k3 K2;cases hsb:zaJ c with
 | false=>
  as_aux_lemma=>
  have RD:=ze (F1.out (LN.out (fun q=>by rw [hsb] at q;cases q.1)));clear hsb;go_wp2;go_ret;exact ⟨by rw [RD.out];rfl,K3.out⟩
 | true=>
 have HSB:=ze hsb;clear hsb;go_wp2_with fail;go_loopw [11] (fun iv wr=>∃ k:Nat,k<=P.length∧iv=.int .i64 k∧Hid (((zk P).take k).all ZD=true∧Chg (fun _=>False) w wr)) (fun iv _=>P.length - (intOf iv).toNat)
 case atStart=>exact ⟨0,by omega,rfl,ze ⟨by simp,K3.out⟩⟩
 case round=>
 obtain ⟨k,hk,rfl,HI⟩:=hrel;by_cases hlt:k < P.length
 · as_aux_lemma=>
   obtain ⟨⟨cc,sv⟩,hx⟩:∃ x,P[k]? = some x:=⟨_,zq0 hlt⟩;have GX:=ze (Zy hx);obtain ⟨_,_,e1,_,hcl⟩:=HV.out.chg HI.out.2 (fun _ _ e=>e);cases e1;obtain ⟨g,o,sa,sc,rfl,_,e2,q0,q1,q2,q3,q4,q5,q6,hca⟩:=hcl k (cc,sv) hx;simp only at q0 q1 q2 q3 q4 q5 q6 hca;obtain ⟨z1,z2⟩:=HCS.out cc (zq2 GX.out);have CK:=zcO wr cc sa sc G hca z1 z2;unfold xI at CK;have CK:=ze CK;have AS:=ze (show ((zk P).take (k+1)).all ZD=(((zk P).take k).all ZD && ZD cc) from zjG GX.out);have AB:=ze (fun h=>zm3 (x:=cc) GX.out h);have HA:=ze HI.out.1;have KW:=ze HI.out.2;clear HI hcl hx hca e2 GX z1 z2;go_wp2_with fail;clear q0 q1 q2 q3 q4 q5 q6;(with_reducible refine CK.out.mono ?_);rintro e w5 ⟨⟨kk,rfl,hkk⟩,k5⟩;have K5:=ze (KW.out.trans k5);clear CK k5;by_cases h0:kk=0
   · have N2:=ze (show ((zk P).take (k+1)).all ZD=true from by rw [AS.out,HA.out,hkk.1 h0];rfl)
     subst h0;clear hkk AB AS;go_wp2;go_roundw
     case rel=>exact ⟨k+1,by omega,by go_num,ze ⟨N2.out,K5.out⟩⟩
     case measure=>simp [intOf];omega
   · have g0:(kk != 0)=true:=zre.2 h0
     have RD:=ze (F1.out (LN.out (fun q=>by
      have hc0:ZD cc=false:=by
       rw [zrm];exact fun z=>h0 (hkk.2 z)
      rw [AB.out hc0] at q;cases q.2.2)))
     clear hkk h0 AB AS;go_wp2;go_ret;exact ⟨by rw [RD.out];rfl,K5.out⟩
 obtain rfl:k=P.length:=by omega
 have LT:=ze (show Ye (zk P) L c=true from LY.out.2 ⟨HSB.out,HN.out,by have:=HI.out.1;rwa [<- zQ P,zrk] at this⟩);have KW:=ze HI.out.2;rw [LT.out,if_pos rfl] at WE;clear HI LN LY F1 HN HSB hlt hk;by_cases h0:op < 0
 · have g0:decide (op < 0)=true:=zqY h0
   have RD:=ze (show res=1 from by rw [WE.out,if_neg (fun q=>by have:=OPI.out.1 q;omega)]);clear h0 OPI WE;go_wp2;go_ret;exact ⟨by rw [RD.out];rfl,KW.out⟩
 have g0:decide (op < 0)=false:=zqZ h0;by_cases h7:7 < op
 · have g7:decide (7 < op)=true:=zqY h7
   have RD:=ze (show res=1 from by rw [WE.out,if_neg (fun q=>by have:=OPI.out.1 q;omega)]);clear h0 h7 OPI WE;go_wp2;go_ret;exact ⟨by rw [RD.out];rfl,KW.out⟩
 have g7:decide (7 < op)=false:=zqZ h7;have RD:=ze (show res=0 from by rw [WE.out,if_pos (OPI.out.2 (by omega))]);clear h0 h7 OPI WE;go_wp2;go_ret;exact ⟨by rw [RD.out];rfl,KW.out⟩
structure zpT (R:List zF) (P:List (zq × Value)) (L:List Za) (c:List ByteArray) (y:zdL):Prop where
 fit:xt R
 cert:∀ k∈zk P,k.sp.size<=140737488355328∧zaa k.fr
 who:∀ x∈L,zaa x.2
 set:zaa c
 proof:∀ p∈y.proofs,xz p
structure zgC (w:World) (ra:Option Addr) (R:List zF) (rc:Nat) (v lv cv:Value) (P:List (zq × Value)) (L:List Za) (c:List ByteArray) (G:Nat->Prop):Prop where
 run:Yb w ra R rc v P G
 ents:ZI w lv G L
 few:L.length<=1000
 set:zx w cv G c
theorem zgC.chg {w w':World} {ra:Option Addr} {R:List zF} {rc:Nat} {v lv cv:Value} {P:List (zq × Value)} {L:List Za} {c:List ByteArray} {G:Nat->Prop} (h:zgC w ra R rc v lv cv P L c G) (k:Chg (fun _=>False) w w'):zgC w' ra R rc v lv cv P L c G:=
 ⟨h.run.chg k,h.ents.chg k (fun _ _ e=>e),h.few,h.set.chg k (fun _ _ e=>e)⟩
section
variable (w:World) (ra:Option Addr) (R:List zF) (rc:Nat) (v lv cv:Value) (P:List (zq × Value)) (L:List Za) (op:Int) (c:List ByteArray) (b:Int) (G:Nat->Prop)
theorem zjH (h:zgC w ra R rc v lv cv P L c G):Calls Tryz.prog 11 #[.agg #[.slice ra R.length rc,v,lv,.int .i64 op,cv,.int .i64 b]] w fun e w'=>e=.returned (.tuple #[.int .i64 (yG R (zk P) L op c b).2.ans,.int .i64 (yG R (zk P) L op c b).1])∧Chg (fun _=>False) w w':=by
 have kb:=zi (fun _=>False) w (.cells #[.slice ra R.length rc,v,lv,.int .i64 op,cv,.int .i64 b] 28);have h1:=h.chg kb;have D:=ze (zpC _ ra R rc v lv cv P L op c b G G G h1.run h1.ents h1.few h1.set);have KB:=ze kb;obtain ⟨la,lcap,rfl,_,_⟩:=h.run.certs;obtain ⟨ea,ec,rfl,_,_⟩:=h.ents.shape;obtain ⟨ca,cc,rfl,_,_⟩:=h.set;generalize yG R (zk P) L op c b=q at *;clear h h1 kb;go_enter Tryz.func11,Tryz.ntmps11;go_wp2_with fail;(with_reducible refine D.out.mono ?_);rintro e w2 ⟨rfl,k2⟩;go_wp2;go_ret2;exact ⟨rfl,KB.out.trans k2⟩
theorem zgs (h:zgC w ra R rc v lv cv P L c G):Calls Tryz.prog 13 #[.agg #[.slice ra R.length rc,v,lv,.int .i64 op,cv,.int .i64 b]] w (zjO w (Yt R (zk P) L op c b)):=by
 have kb:=zi (fun _=>False) w (.cells #[.slice ra R.length rc,v,lv,.int .i64 op,cv,.int .i64 b] 28);have kc:=zi (fun _=>False) (w.alloc (.cells #[.slice ra R.length rc,v,lv,.int .i64 op,cv,.int .i64 b] 28)) (.cells #[.int .i64 0,.slice none 0 0,.slice none 0 0] 39);have oc:=zh (w.alloc (.cells #[.slice ra R.length rc,v,lv,.int .i64 op,cv,.int .i64 b] 28)) (.cells #[.int .i64 0,.slice none 0 0,.slice none 0 0] 39);rw [zq8] at oc;have h1:=h.chg (kb.trans kc);have D:=ze (ziG _ ra R rc v lv cv P L op c b G G G h1.run h1.ents h1.few h1.set);have KB:=ze (kb.trans kc);have OC:=ze oc;obtain ⟨la,lcap,rfl,_,_⟩:=h.run.certs;obtain ⟨ea,ec,rfl,_,_⟩:=h.ents.shape;obtain ⟨ca,cc,rfl,_,_⟩:=h.set;generalize Yt R (zk P) L op c b=q at *;clear h h1 kb kc oc;go_enter Tryz.func13,Tryz.ntmps13;go_wp2_with fail;generalize (w.alloc (.cells #[.slice ra R.length rc,.slice la P.length lcap,.slice ea L.length ec,.int .i64 op,.slice ca c.length cc,.int .i64 b] 28)).alloc (.cells #[.int .i64 0,.slice none 0 0,.slice none 0 0] 39)=w1 at *;(with_reducible refine D.out.mono ?_);rintro e w2 ⟨k2,tv,pv,rfl,hy⟩;have O2:=ze (k2.obj (fun e=>e) OC.out);have K2:=ze (KB.out.trans k2);have HY:=ze hy;have HS:=ze (show w.heap.size+1 < w1.heap.size from zr OC.out);have d0:=zf (o:=0) O2.out rfl;have e0:=zm (o:=0) O2.out;have d1:=zf (o:=1) O2.out rfl;have e1:=zm (o:=1) O2.out;have d2:=zf (o:=2) O2.out rfl;have e2:=zm (o:=2) O2.out;obtain ⟨ta,tc,rfl,_,_⟩:=hy.ways;obtain ⟨qa,qc,rfl,_,_⟩:=hy.proofs;obtain ⟨q1,⟨en,ways,proofs⟩,q3⟩:=q;simp only at HY;clear hy k2 D;go_wp2;obtain ⟨W,hW⟩:∃ W,W=((w2.setCell ⟨w.heap.size+1,0,none⟩ (.int .i64 en)).setCell ⟨w.heap.size+1,1,none⟩ (.slice ta ways.length tc)).setCell ⟨w.heap.size+1,2,none⟩ (.slice qa proofs.length qc):=⟨_,rfl⟩;rw [<- hW];obtain ⟨ob,kW⟩:=zqw O2.out _ _ _ W hW;clear hW;have z0:W.cell? ⟨w.heap.size+1,0,none⟩=some (.int .i64 en):=zf ob rfl;have z1:W.cell? ⟨w.heap.size+1,1,none⟩=some (.slice ta ways.length tc):=zf ob rfl;have z2:W.cell? ⟨w.heap.size+1,2,none⟩=some (.slice qa proofs.length qc):=zf ob rfl;refine bodyPost_ret (v:=.tuple #[.int .i64 q1,.agg #[.int .i64 en,.slice ta ways.length tc,.slice qa proofs.length qc],.int .i64 q3]) (by simp [results,Tryz.results13,go_sem,z0,z1,z2]) rfl ?_;have hs:=kW.size;have hs1:=HS.out;exact ⟨K2.out.next kW (fun k hk e=>by omega),_,_,rfl,(HY.out.chg kW (fun k hk e=>by omega)).up (fun k hk=>⟨by omega,by omega⟩)⟩
end
structure zeO (p:zL):Prop where
 items:p.items.length<=12
 steps:p.steps.length<=60
 path:∀ x∈p.items,x.paths.length<=20∧∀ l∈x.paths,l.length<=60
structure zoQ (y:zdL):Prop where
 many:y.proofs.length<=20∧y.ways.length<=20
 proof:∀ p∈y.proofs,zeO p
def znd (w:World) (y:zdL) (e:Ending) (w':World):Prop:=∃ b:Bool,e=.returned (.bool b)∧Chg (fun _=>False) w w'∧(b=false->zoQ y)
end Go.Proofs.YthdfplafihmejaaGreat
