/-
  The reference's acl: may, Same, Add. The reference's acl: New.
-/
import Derived.Test.YthdfplafihmejaaGreatZcMRefsZY
import Derived.Test.YthdfplafihmejaaGreatZcQRWalk
import Derived.Test.YthdfplafihmejaaGreatZcUPlainY
import Derived.Test.YthdfplafihmejaaGreatZcDCheckZ
import Derived.Test.YthdfplafihmejaaGreatZcAEntZ
import Derived.Test.YthdfplafihmejaaGreatZcANew
import Derived.Test.YthdfplafihmejaaGreatZcAEnt
namespace Go.Proofs.YthdfplafihmejaaGreat
open Go.RowKit Go.Maps
set_option maxRecDepth 100000 in
theorem zjS (w : World) (x : zW) (a : Option Addr) (n c : Nat) (G : Nat -> Prop) (hv : zu w (.slice a n c) G x.2) (hz : zco x.2) :
    Calls Tryz.prog 98 #[.agg #[.int .i64 x.1, .slice a n c]] w fun e w' => e = .returned (.bool (zi6 x)) ∧ Chg (fun _ => False) w w' := by
  have k1 := zh (fun _ => False) w (.cells #[.int .i64 x.1, .slice a n c] 56);have MAY := zb (zaV _ _ G x.2 (hv.chg k1 (fun _ _ e => e)) hz);have YES := zb (fun h => zhV (x := x) h);have NO := zb (fun h => zkx (x := x) h);have K1 := zb k1;clear k1 hv hz;generalize zi6 x = b at *;obtain ⟨op, l⟩ := x;simp only at MAY YES NO K1 ⊢;by_cases h0 : 0 <= op
  · have g0 : decide (0 <= op) = true := decide_eq_true h0
    by_cases h1 : op < 8
    · have g1 : decide (op <= 7) = true := decide_eq_true (by omega)
      rw [<- YES.out ⟨h0, h1⟩] at MAY;clear h0 h1 YES NO;go_enter Tryz.func98, Tryz.ntmps98;go_wp2_with fail;(with_reducible refine MAY.out.mono ?_);rintro e w2 ⟨rfl, d2⟩;have K2 := zb (K1.out.trans d2);clear d2 MAY K1;cases b
      all_goals
        go_wp2;go_ret;exact ⟨rfl, K2.out⟩
    · have g1 : decide (op <= 7) = false := decide_eq_false (by omega)
      obtain rfl := NO.out (fun q => h1 q.2);clear h0 h1 YES NO MAY;go_enter Tryz.func98, Tryz.ntmps98;go_wp2;go_ret;exact ⟨rfl, K1.out⟩
  · have g0 : decide (0 <= op) = false := decide_eq_false h0
    obtain rfl := NO.out (fun q => h0 q.1);clear h0 YES NO MAY;go_enter Tryz.func98, Tryz.ntmps98;go_wp2;go_ret;exact ⟨rfl, K1.out⟩
set_option maxRecDepth 100000 in
theorem ziy (w : World) (x y : zW) (a b : Option Addr) (n c m d : Nat) (G G' : Nat -> Prop) (hv : zu w (.slice a n c) G x.2) (hu : zu w (.slice b m d) G' y.2) :
    Calls Tryz.prog 99 #[.agg #[.int .i64 x.1, .slice a n c], .agg #[.int .i64 y.1, .slice b m d]] w fun e w' => e = .returned (.bool (eqB x y)) ∧ Chg (fun _ => False) w w' := by
  have k1 := (zh (fun _ => False) w (.cells #[.int .i64 x.1, .slice a n c] 56)).alloc (.cells #[.int .i64 y.1, .slice b m d] 56);have EQ := zb (zdR _ _ _ G G' x.2 y.2 (hv.chg k1 (fun _ _ e => e)) (hu.chg k1 (fun _ _ e => e)));have YES := zb (fun h => zkw (x := x) (y := y) h);have NO := zb (fun h => zms (x := x) (y := y) h);have K1 := zb k1;clear k1 hv hu;generalize eqB x y = r at *;obtain ⟨op, l⟩ := x;obtain ⟨oq, k⟩ := y;simp only at EQ YES NO K1 ⊢;by_cases h0 : op = oq
  · have g0 : (op == oq) = true := beq_iff_eq.2 h0
    rw [<- YES.out h0] at EQ;clear h0 YES NO;go_enter Tryz.func99, Tryz.ntmps99;go_wp2_with fail;(with_reducible refine EQ.out.mono ?_);rintro e w2 ⟨rfl, d2⟩;have K2 := zb (K1.out.trans d2.chg);clear d2 EQ K1;cases r
    all_goals
      go_wp2;go_ret;exact ⟨rfl, K2.out⟩
  · have g0 : (op == oq) = false := beq_eq_false_iff_ne.2 h0
    obtain rfl := NO.out h0;clear h0 YES NO EQ;go_enter Tryz.func99, Tryz.ntmps99;go_wp2;go_ret;exact ⟨rfl, K1.out⟩
set_option maxHeartbeats 4000000 in
set_option maxRecDepth 100000 in
theorem zlA (w : World) (b : Nat) (ty : TypeId) (x : zW) (L : List zW) (ver : Nat) (a : Option Addr) (n c : Nat) (G G' : Nat -> Prop) (hl : yR w b ty G L ver) (hver : ver <= 1000000) (hL : L.length <= 1000) (hv : Yo w (.slice a n c) G' x.2) (hz : zco x.2) :
    Calls Tryz.prog 65 #[.pointer (some ⟨b, 0, none⟩), .agg #[.int .i64 x.1, .slice a n c]] w (XD w b ty G (zan x L) (zcn x L) ver) := by
  obtain ⟨la, cap, h1, h2, hcap, hcm⟩ := hl.open
  have hbl := hl.lt;unfold maxLen at hcm;have k1 := zh (fun _ => False) w (.cells #[.int .i64 x.1, .slice a n c] 56);have K1 := zb k1;have MAY := zb (zjS _ x a n c G' (hv.at_.chg k1 (fun _ _ e => e)) hz);have X1 := zb (zf w (.cells #[.int .i64 x.1, .slice a n c] 56));have HL := zb hl;have HV := zb hv;have H1 := zb h1;have H2 := zb h2;have HZ := zb hz;clear k1 hl hv h1 h2 hz;cases hm : zi6 x with
  | false =>
    have R : zan x L = 2 := by unfold zan; rw [hm]; rfl
    have RL : zcn x L = L := by unfold zcn; rw [R]; rfl
    rw [R, RL];rw [hm] at MAY;clear R RL hm;obtain ⟨op, l⟩ := x;simp only at MAY K1 ⊢;go_enter Tryz.func65, Tryz.ntmps65;go_wp2_with fail;(with_reducible refine MAY.out.mono ?_);rintro e w2 ⟨rfl, k2⟩;go_wp2;go_ret;exact YF HL.out (by omega) (K1.out.trans k2)
  | true =>
    rw [hm] at MAY;have HM := zb hm;obtain ⟨hs1, hs2⟩ := zar (zbt.1 hm).2;clear hm;have SA := zb (fun w1 (k : Chg (fun _ => False) w w1) y d m e (hu : zu w1 (.slice d m e) G y.2) => ziy w1 y x d a m e n c G G' hu (HV.out.at_.chg k (fun _ _ e => e)));have RT := zb (show ∀ k, k = 0 ∨ k = 3 ∨ k = 11 -> ∀ L2, L2 = zcn x L -> zan x L = k -> XD w b ty G (zan x L) (zcn x L) ver = XD w b ty G k L2 ver from fun k _ L2 h1 h2 => by rw [h1, h2]);have ADE := zb (show zan x L = if x ∈ L then 11 else if 12 <= L.length then 3 else 0 by unfold zan; rw [if_pos HM.out]);generalize hq : XD w b ty G (zan x L) (zcn x L) ver = POST at *;have HQ := zb hq;clear hq;obtain ⟨op, l⟩ := x;obtain ⟨_, _, eqn⟩ := HV.out.shape;cases eqn;simp only at MAY K1 SA hs1 hs2 ⊢;go_enter Tryz.func65, Tryz.ntmps65;go_wp2_with fail;(with_reducible refine MAY.out.mono ?_);rintro e w2 ⟨rfl, k2⟩;have o2 := k2.obj (fun e => e) X1.out;have K2 := zb (K1.out.trans k2);have X2 := zb o2;clear o2 k2 K1 MAY X1;go_wp2;go_loopw [5] (fun iv wr => ∃ k : Nat, k <= L.length ∧ iv = .int .i64 k ∧ Hid ((∀ j, j < k -> L[j]? ≠ some (op, l)) ∧ Chg (fun _ => False) w2 wr)) (fun iv _ => L.length - (intOf iv).toNat)
    case atStart => exact ⟨0, by omega, rfl, zb ⟨fun j hj => by omega, Chg.refl _ _⟩⟩
    case round =>
      obtain ⟨k, hk, rfl, HI⟩ := hrel;have KR := zb (K2.out.trans HI.out.2);have X3 := zb (HI.out.2.obj (fun e => e) X2.out);have c0 : wr.cell? ⟨b, 0, none⟩ = some (.slice la L.length cap) := ze (KR.out.obj (fun e => e) H1.out) rfl;have d0 : wr.cell? ⟨w.heap.size, 0, none⟩ = some (.int .i64 op) := ze X3.out rfl;have d1 : wr.cell? ⟨w.heap.size, 1, none⟩ = some (.slice a l.length c) := ze X3.out rfl;by_cases hlt : k < L.length
      · obtain ⟨y, hy⟩ : ∃ y, L[k]? = some y := ⟨_, List.getElem?_eq_getElem hlt⟩
        obtain ⟨g, o, sa, sc, rfl, _, e0, e1, hs⟩ := (H2.out.chg KR.out (fun _ _ e => e)).get hy;have SA2 := zb (fun w1 (k : Chg (fun _ => False) wr w1) => SA.out w1 (KR.out.trans k) y sa y.2.length sc (hs.at_.chg k (fun _ _ e => e)));have HY := zb hy;have HN := zb HI.out.1;have KI := zb HI.out.2;clear hs hy HI KR X3;generalize hb : eqB y (op, l) = r at *;have HB := zb hb;obtain ⟨oq, ly⟩ := y;simp only at SA2 e0 e1;clear hb;go_wp2_with fail;refine zB (N := 57) [.rd [0, 1, 2, 3, 4, 5, 6, 7], .ef 8] (fun w' => w'.cell? ⟨b, 0, none⟩ = some (.slice (some ⟨g, o, none⟩) L.length cap) ∧ w'.cell? ⟨w.heap.size, 0, none⟩ = some (.int .i64 op) ∧ w'.cell? ⟨w.heap.size, 1, none⟩ = some (.slice a l.length c) ∧ w'.cell? ⟨g, o + k * 2, none⟩ = some (.int .i64 oq) ∧ w'.cell? ⟨g, o + k * 2 + 1, none⟩ = some (.slice sa ly.length sc)) (by kernel_rfl) (by kernel_rfl) (by kernel_rfl) (by kernel_rfl) (Nat.le_of_ble_eq_true rfl) ⟨c0, d0, d1, e0, e1⟩ ?_;refine zH (A := ?A1) ?h1 ?h2
        case h1 =>
          rintro w' ⟨z0, z1, z2, z3, z4⟩ K hK;simp only [zT, List.filterMap_cons, List.filterMap_nil, List.getElem?_toArray, List.getElem?_cons_succ, List.getElem?_cons_zero];refine WS.out ?_
          repeat (refine ZX (fun K hK => ?_); go_simp; refine hK _ ?_; clear hK K)
          refine yN ?_;exact hK
        have D := zb (zK (fun _ => False) wr);have f0 := zi D.out (fun e => e) c0;have f1 := zi D.out (fun e => e) d0;have f2 := zi D.out (fun e => e) d1;have f3 := zi D.out (fun e => e) e0;have f4 := zi D.out (fun e => e) e1;have S3 := zb (SA2.out wr.drew D.out);have KD := zb (KI.out.drew);clear D c0 d0 d1 e0 e1 SA2 KI;generalize wr.drew = wd at *;refine zP rfl ?_;go_wp2_with fail;(with_reducible refine S3.out.mono ?_);rintro e w4 ⟨rfl, k4⟩;have K4 := zb (KD.out.trans k4);have g0 := zi k4 (fun e => e) f0;have g1 := zi k4 (fun e => e) f1;have g2 := zi k4 (fun e => e) f2;have g3 := zi k4 (fun e => e) f3;have g4 := zi k4 (fun e => e) f4;clear k4 f0 f1 f2 f3 f4 S3 KD;go_wp2_with fail;refine ⟨⟨g0, g1, g2, g3, g4⟩, ?_⟩;refine Zg ?_;clear g0 g1 g2 g3 g4;cases r with
        | true =>
          have HIN := zb (show (op, l) ∈ L from by
            have := of_decide_eq_true HB.out;rw [<- this]; exact List.mem_of_getElem? HY.out)
          have R := zb (show POST = XD w b ty G 11 L ver from by
            have e1 : zan (op, l) L = 11 := by rw [ADE.out, if_pos HIN.out]
            have e2 : zcn (op, l) L = L := by unfold zcn; rw [e1]; rfl
            rw [<- HQ.out, e1, e2])
          go_wp2;rw [R.out];exact YF HL.out (by omega) (K2.out.trans K4.out)
        | false =>
          have HN2 := zb (show ∀ j, j < k + 1 -> L[j]? ≠ some (op, l) from fun j hj => by
            rcases Nat.lt_or_ge j k with q | q
            · exact HN.out j q
            · obtain rfl : j = k := by omega
              rw [HY.out]; exact fun e => of_decide_eq_false HB.out (Option.some.inj e))
          go_wp2;go_roundw
          case rel => exact ⟨k + 1, by omega, by go_num, zb ⟨HN2.out, K4.out⟩⟩
          case measure => simp [intOf]; omega
      · obtain rfl : k = L.length := by omega
        have HNI := zb (show (op, l) ∉ L from zcx HI.out.1);by_cases hmany : 12 <= L.length
        · have g : decide (12 <= (L.length : Int)) = true := by rw [decide_eq_true_eq]; omega
          have R := zb (show POST = XD w b ty G 3 L ver from by
            have e1 : zan (op, l) L = 3 := by rw [ADE.out, if_neg HNI.out, if_pos hmany]
            have e2 : zcn (op, l) L = L := by unfold zcn; rw [e1]; rfl
            rw [<- HQ.out, e1, e2])
          clear HI hlt;go_wp2;rw [R.out];exact YF HL.out (by omega) KR.out
        · have g : decide (12 <= (L.length : Int)) = false := by rw [decide_eq_false_iff_not]; omega
          have R := zb (show POST = XD w b ty G 0 (L ++ [(op, l)]) ver from by
            have e1 : zan (op, l) L = 0 := by rw [ADE.out, if_neg HNI.out, if_neg hmany]
            have e2 : zcn (op, l) L = L ++ [(op, l)] := by unfold zcn; rw [e1]; rfl
            rw [<- HQ.out, e1, e2])
          have B3 := zb (KR.out.obj (fun e => e) H1.out);have hb3 := KR.out.size;have ka := zh (fun _ => False) wr (.cells #[] 57);have d1a := zi ka (fun e => e) d1;have HS := zb (HV.out.chg (KR.out.trans ka) (fun _ _ e => e));have KA := zb (KR.out.trans ka);have X3L := zb X3.out;have KRL := zb KR.out;have XA := zb (ka.obj (fun e => e) X3.out);clear HI hlt hmany ka d0 d1 SA ADE RT KR X3 B3;go_wp2_with (at_builtin; refine zN rfl (.tmp 33) (.tmp 35) 26 rfl 57 1 16 Tryz.underlying26 Tryz.elemWord wr.heap.size _ 0 [] rfl (ZK _ _ _ _ (Nat.le_refl _)) a l.length c (zC l) rfl ?a1 ?a2 ?a3 ?a4 ?a5 ?a6 ?a7 ?nx1)
          case a1 => unfold zC; rw [List.length_map]; omega
          case a2 => exact xX HS.out.at_
          case a3 => intro e; exact HS.out.nil _ _ (by rw [e])
          case a4 => exact yZ l
          case a5 => omega
          case a6 => unfold maxLen; omega
          case a7 => simp
          intro v5 w5 o5 g5;have g5c := Chg.of_grown g5
          have k5 : Chg (fun _ => False) wr w5 := (zh (fun _ => False) wr (.cells #[] 57)).next g5c (fun x hx e => by
            have e2 : wr.heap.size = x := by simpa [Value.ownBlock] using e
            omega)
          have x5 := g5c.obj (fun e => by
            have e2 : wr.heap.size = w.heap.size := by simpa [Value.ownBlock] using e
            have := zq X3L.out;omega) XA.out
          have y1 : w5.cell? ⟨w.heap.size, 1, none⟩ = some (.slice a l.length c) := ze x5 rfl;have yf : w5.frozen? ⟨w.heap.size, 1, none⟩ = false := zk x5;obtain ⟨a5, c5, rfl⟩ := zl o5;obtain ⟨w6, hw6⟩ : ∃ w6, w6 = w5.setCell ⟨w.heap.size, 1, none⟩ (.slice a5 l.length c5) := ⟨_, rfl⟩;have x6 : w6.heap[w.heap.size]? = some (.cells #[.int .i64 op, .slice a5 l.length c5] 56 (0, 0)) := by rw [hw6]; exact zr x5 _
          have k6 : Chg (· = w.heap.size) w5 w6 := by rw [hw6]; exact zE _ _ _ _
          have hxr := zq X3L.out;have O6 := zb (zm o5 k6 (fun k hk e => by have := (o5.lt k hk).1; omega));have K6 := zb ((KRL.out.trans k5).next k6 (fun x hx e => by omega));have hb6 : wr.heap.size <= w6.heap.size := by have := k5.size; have := k6.size; omega
          have X6 := zb x6;clear o5 g5 g5c k5 x5 c0 d1a x6 k6 XA KA HS;go_wp2_with fail;rw [<- hw6];clear hw6 y1 yf;have z0 : w6.cell? ⟨b, 0, none⟩ = some (.slice la L.length cap) := ze (K6.out.obj (fun e => e) H1.out) rfl;have z1 : w6.cell? ⟨w.heap.size, 0, none⟩ = some (.int .i64 op) := ze X6.out rfl;have z2 : w6.cell? ⟨w.heap.size, 1, none⟩ = some (.slice a5 l.length c5) := ze X6.out rfl;refine zdr (N := 57) (.rd [0, 2, 3, 4, 5, 7] (.two 1 8 (.two 6 8 (.ef 8 (.ef 9 (.ef 10 (.ef 11 (.ef 12 .nil))))) (.ef 6 (.ef 9 (.ef 10 (.ef 11 (.ef 12 .nil)))))) (.ef 1 (.ef 6 (.ef 9 (.ef 10 (.ef 11 (.ef 12 .nil)))))))) 12 (fun w' => w'.cell? ⟨b, 0, none⟩ = some (.slice la L.length cap) ∧ w'.cell? ⟨w.heap.size, 0, none⟩ = some (.int .i64 op) ∧ w'.cell? ⟨w.heap.size, 1, none⟩ = some (.slice a5 l.length c5)) (by kernel_rfl) (by kernel_rfl) (by kernel_rfl) (by kernel_rfl) (Nat.le_of_ble_eq_true rfl) ⟨z0, z1, z2⟩ ?_;refine zmL (A := ?A2) ?h3 ?h4
          case h3 =>
            rintro w' ⟨q0, q1, q2⟩ K hK;simp only [zT, List.filterMap_cons, List.filterMap_nil, List.getElem?_toArray, List.getElem?_cons_succ, List.getElem?_cons_zero];refine WS.out ?_
            repeat (refine ZX (fun K hK => ?_); go_simp; refine hK _ ?_; clear hK K)
            refine yN ?_;exact hK
          have D := zb (zK (fun _ => False) w6);have KD := zb (K6.out.drew);have O7 := zb (zm O6.out D.out (fun _ _ e => e));have hbd : wr.heap.size <= w6.drew.heap.size := hb6;have SD := zb (show ∀ W, Chg (fun _ => False) w6.drew W -> W.cell? ⟨b, 0, none⟩ = some (.slice la L.length cap) ∧ W.cell? ⟨w.heap.size, 0, none⟩ = some (.int .i64 op) ∧ W.cell? ⟨w.heap.size, 1, none⟩ = some (.slice a5 l.length c5) from fun W k => ⟨zi (D.out.trans k) (fun e => e) z0, zi (D.out.trans k) (fun e => e) z1, zi (D.out.trans k) (fun e => e) z2⟩)
          obtain ⟨EN, hEN⟩ : ∃ E, E.length = L.length ∧ zeV w G E L ∧ (la = none -> L.length = 0 ∧ cap = 0) ∧ ∀ (j : Nat) u, (ZO E)[j]? = some u -> ∃ lb lo, la = some ⟨lb, lo, none⟩ ∧ w.cell? ⟨lb, lo + j, none⟩ = some u := by
            obtain ⟨E, la', cap', e, q1, q2, q3, q4, q5⟩ := H2.out;cases e;exact ⟨E, q4.len, q4, fun e => by have := q3 e; exact ⟨by omega, this⟩, fun j u hj => by obtain ⟨lb, lo, r1, _, r2⟩ := q5 j u hj; exact ⟨lb, lo, r1, r2⟩⟩
          have HEN := zb hEN;clear z0 z1 z2 D K6 O6 X6 hb6 hEN;generalize w6.drew = wd at *;refine zhr rfl rfl ?p1 ?p2
          case' p1 =>
            go_wp2_with fail;have KC := zb (zh (fun _ => False) wd (.cells #[] 56));refine ⟨SD.out _ KC.out, ?_⟩;refine zhr rfl rfl ?p11 ?p12
          case' p11 =>
            refine zN rfl (.tmp 39) (.tmp 43) 24 rfl 56 2 32 Tryz.underlying24 Tryz.elemEntry wd.heap.size (.slice (some ⟨wd.heap.size, 0, none⟩) 0 0) 0 [] rfl (ZK _ _ _ _ (Nat.le_refl _)) la L.length cap (ZO EN) rfl ?b1 ?b2 ?b3 ?b4 ?b5 ?b6 ?b7 ?b8
            case b1 => rw [yH, HEN.out.1]
            case b2 => exact fun j u hj => by obtain ⟨lb, lo, r1, r2⟩ := HEN.out.2.2.2 j u hj; exact ⟨lb, lo, r1, zi (KD.out.trans KC.out) (fun e => e) r2⟩
            case b3 => exact HEN.out.2.2.1
            case b4 => exact zaz HEN.out.2.1.one
            case b5 => omega
            case b6 => unfold maxLen; omega
            case b7 => simp only [World.size_alloc]; omega
            intro v7 W7 o7 g7;have o7b : W7.ownsRow wd.heap.size 56 2 v7 L.length (ZO EN) := by simpa using o7
            have KC2 := zb (show Chg (fun _ => False) wd W7 from KC.out.next (Chg.of_grown g7) (fun x hx e => by
              have e2 : wd.heap.size = x := by simpa [Value.ownBlock] using e
              omega))
            clear o7 g7 KC;go_wp2_with fail;refine ⟨SD.out _ KC2.out, ?_⟩;refine XK rfl ?_;go_wp2_with fail;have KC := zb (KC2.out.alloc (.cells #[.int .i64 op, .slice a5 l.length c5] 56));refine ⟨.inr (SD.out _ KC.out), ?_⟩;have O44 := zb (zm o7b (zh (fun _ => False) W7 (.cells #[.int .i64 op, .slice a5 l.length c5] 56)) (fun _ _ e => e));have BX := zb (zf W7 (.cells #[.int .i64 op, .slice a5 l.length c5] 56));have hgx : wd.heap.size <= W7.heap.size := KC2.out.size;clear o7b KC2;generalize W7.heap.size = gx at *;generalize W7.alloc (.cells #[.int .i64 op, .slice a5 l.length c5] 56) = W8 at *
          case' p12 =>
            go_wp2_with fail;have KC2 := zb (KC.out.alloc (.cells #[.int .i64 op, .slice a5 l.length c5] 56));refine ⟨SD.out _ KC2.out, ?_⟩;have BX0 := zb (zf (wd.alloc (.cells #[] 56)) (.cells #[.int .i64 op, .slice a5 l.length c5] 56));clear KC;have KC := zb KC2.out;refine XK rfl ?_;refine zN rfl (.tmp 39) (.tmp 43) 24 rfl 56 2 32 Tryz.underlying24 Tryz.elemEntry wd.heap.size (.slice (some ⟨wd.heap.size, 0, none⟩) 0 0) 0 [] rfl ((ZK _ _ _ _ (Nat.le_refl _)).alloc _) la L.length cap (ZO EN) rfl ?c1 ?c2 ?c3 ?c4 ?c5 ?c6 ?c7 ?c8
            case c1 => rw [yH, HEN.out.1]
            case c2 => exact fun j u hj => by obtain ⟨lb, lo, r1, r2⟩ := HEN.out.2.2.2 j u hj; exact ⟨lb, lo, r1, zi (KD.out.trans KC.out) (fun e => e) r2⟩
            case c3 => exact HEN.out.2.2.1
            case c4 => exact zaz HEN.out.2.1.one
            case c5 => omega
            case c6 => unfold maxLen; omega
            case c7 => simp only [World.size_alloc]; omega
            intro v7 W7 o7 g7;have o7b : W7.ownsRow wd.heap.size 56 2 v7 L.length (ZO EN) := by simpa using o7
            have KC3 := zb (show Chg (fun _ => False) wd W7 from KC.out.next (Chg.of_grown g7) (fun x hx e => by
              have e2 : wd.heap.size = x := by simpa [Value.ownBlock] using e
              omega))
            have BX := zb ((Chg.of_grown g7).obj (fun e => by simp [Value.ownBlock] at e) BX0.out);have O44 := zb o7b;clear o7 g7 KC KC2 BX0 o7b;have KC := zb KC3.out;clear KC3;go_wp2_with fail;refine ⟨.inr (SD.out _ KC.out), ?_⟩;rw [World.size_alloc] at BX;have hgx : wd.heap.size <= wd.heap.size + 1 := by omega
            generalize wd.heap.size + 1 = gx at *;generalize W7 = W8 at *
          case' p2 =>
            go_wp2_with fail;have KC0 := zb (zh (fun _ => False) wd (.cells #[.int .i64 op, .slice a5 l.length c5] 56));refine ⟨SD.out _ KC0.out, ?_⟩;have BX0 := zb (zZ (.cells #[] 56) (zf wd (.cells #[.int .i64 op, .slice a5 l.length c5] 56)));refine XK rfl ?_;go_wp2_with fail;have KC := zb (KC0.out.alloc (.cells #[] 56));clear KC0;refine ⟨.inr (SD.out _ KC.out), ?_⟩;refine XK rfl ?_;have OE := zb (show World.ownsRow ((wd.alloc (.cells #[.int .i64 op, .slice a5 l.length c5] 56)).alloc (.cells #[] 56)) wd.heap.size 56 2 (.slice (some ⟨wd.heap.size + 1, 0, none⟩) 0 0) 0 [] from by have := ZK (wd.alloc (.cells #[.int .i64 op, .slice a5 l.length c5] 56)) wd.heap.size 56 2 (by simp); rw [World.size_alloc] at this; exact this);refine zN rfl (.tmp 39) (.tmp 43) 24 rfl 56 2 32 Tryz.underlying24 Tryz.elemEntry wd.heap.size (.slice (some ⟨wd.heap.size + 1, 0, none⟩) 0 0) 0 [] rfl OE.out la L.length cap (ZO EN) rfl ?d1 ?d2 ?d3 ?d4 ?d5 ?d6 ?d7 ?d8
            case d1 => rw [yH, HEN.out.1]
            case d2 => exact fun j u hj => by obtain ⟨lb, lo, r1, r2⟩ := HEN.out.2.2.2 j u hj; exact ⟨lb, lo, r1, zi (KD.out.trans KC.out) (fun e => e) r2⟩
            case d3 => exact HEN.out.2.2.1
            case d4 => exact zaz HEN.out.2.1.one
            case d5 => omega
            case d6 => unfold maxLen; omega
            case d7 => simp only [World.size_alloc]; omega
            intro v7 W7 o7 g7;have o7b : W7.ownsRow wd.heap.size 56 2 v7 L.length (ZO EN) := by simpa using o7
            have KC3 := zb (show Chg (fun _ => False) wd W7 from KC.out.next (Chg.of_grown g7) (fun x hx e => by
              have e2 : wd.heap.size + 1 = x := by simpa [Value.ownBlock] using e
              omega))
            have BX := zb ((Chg.of_grown g7).obj (fun e => by simp [Value.ownBlock] at e) BX0.out);have O44 := zb o7b;clear o7 g7 KC BX0 o7b;have KC := zb KC3.out;clear KC3;go_wp2_with fail;refine ⟨.inr (SD.out _ KC.out), ?_⟩;have hgx : wd.heap.size <= wd.heap.size := Nat.le_refl _;obtain ⟨gx, hgxe⟩ : ∃ gx, gx = wd.heap.size := ⟨_, rfl⟩;generalize W7 = W8 at *
          all_goals
            refine XK rfl ?_;refine ZI rfl (.tmp 44) (.tmp 46) 24 rfl 56 2 32 Tryz.underlying24 Tryz.elemEntry wd.heap.size v7 L.length (ZO EN) rfl O44.out _ [.int .i64 op, .slice a5 l.length c5] 56 (0, 0) rfl BX.out rfl (by intro u hu; simp at hu; rcases hu with rfl | rfl <;> rfl) (by omega) (by unfold maxLen; omega) KC.out.size ?_;intro v9 w9 o9 g9;have K9 := zb (show Chg (fun _ => False) wd w9 from KC.out.next (Chg.of_grown g9) (fun x hx e => by have := (O44.out.lt x e).1; omega));obtain ⟨a9, c9, rfl⟩ := zl o9
            have O9 := zb (show w9.ownsRow wd.heap.size 56 2 (.slice a9 (L.length + 1) c9) (EN ++ [(op, Value.slice a5 l.length c5)]).length (ZO (EN ++ [(op, Value.slice a5 l.length c5)])) from by
              rw [zbu, List.length_append, HEN.out.1]; exact o9)
            have KW := zb (KD.out.trans K9.out);have B9 := zb (KW.out.obj (fun e => e) H1.out);have hb9 : wd.heap.size <= w9.heap.size := K9.out.size
            have EN9 := zb (show zeV w9 (fun k => G k ∨ (w.heap.size <= k ∧ k < w9.heap.size)) (EN ++ [(op, Value.slice a5 l.length c5)]) (L ++ [(op, l)]) from
              ((HEN.out.2.1.chg KW.out (fun _ _ e => e)).up (fun _ h => .inl h)).snoc rfl ((zbg (zm O7.out K9.out (fun _ _ e => e)) (fun s hs => by have := HZ.out s hs; unfold maxLen; omega)).up (fun k hk => .inr (by have := O7.out.lt k hk; omega))))
            clear o9 g9 O44 BX KC hgx HEN;go_wp2_with fail;refine ⟨.inr (SD.out _ K9.out), ?_⟩;refine XK rfl ?_;go_wp2_with fail;refine ⟨.inr (SD.out _ K9.out), ?_⟩;refine XK rfl ?_;go_wp2_with fail;refine ⟨.inr (SD.out _ K9.out), ?_⟩;refine XK rfl ?_;refine yp rfl 24 (.tmp 49) (.tmp 47) rfl b 0 rfl (.slice a9 (L.length + 1) c9) rfl rfl rfl Tryz.sizeEntries _ (SD.out _ K9.out).1 (zk B9.out) ?_;intro w10 hw10;refine ⟨.inl rfl, zll ?_⟩;have o10 : w10.heap[b]? = some (.cells #[.slice a9 (L.length + 1) c9, .int .i64 (ver : Int)] ty (0, 0)) := by rw [hw10]; exact zr B9.out _
            have k10 : Chg (· = b) w9 w10 := by rw [hw10]; exact zE _ _ _ _
            have m1 : w10.cell? ⟨b, 1, none⟩ = some (.int .i64 (ver : Int)) := ze o10 rfl;have fz1 : w10.frozen? ⟨b, 1, none⟩ = false := zk o10
            have FIN := zb (show XD w b ty G 0 (L ++ [(op, l)]) ver (.returned (.int .i64 0)) (w10.setCell ⟨b, 1, none⟩ (.int .i64 ((ver : Int) + 1))) from by
              have k8 := k10.trans (zE w10 b 1 (.int .i64 ((ver : Int) + 1)));have hw8 : (w10.setCell ⟨b, 1, none⟩ (.int .i64 ((ver : Int) + 1))).heap.size = w9.heap.size := by rw [hw10]; simp [World.setCell]
              refine ⟨rfl, ⟨⟨_, zr (o := 1) o10 _, ?_⟩, ?_⟩, (KW.out.mono (fun _ _ e => e.elim)).next k8 (fun k hk e => e)⟩
              · have hnb : ∀ k, (G k ∨ (w.heap.size <= k ∧ k < w9.heap.size)) -> ¬ k = b := fun k h e => by
                  rcases h with h | h
                  · exact HL.out.out (e ▸ h)
                  · omega
                refine Zu.chg (S := (· = b)) (w := w9) ?_ k8 ?_
                · rw [hw8]
                  exact zd8 (G := fun k => G k ∨ (w.heap.size <= k ∧ k < w9.heap.size)) O9.out EN9.out (fun k hk => .inr (by have := O9.out.lt k hk; omega))
                · rw [hw8]; exact hnb
              · intro h
                rcases h with h | h
                · exact HL.out.out h
                · omega)
            clear o10 k10 hw10 O9 EN9 K9 KW B9 SD;go_wp2;rw [R.out];exact FIN.out
set_option maxHeartbeats 2000000 in
set_option maxRecDepth 100000 in
theorem zlx (w : World) (v : Value) (l : List zW) (G : Nat -> Prop) (hl : Zu w v G l) (hlen : l.length <= 1000) (hz : ∀ x ∈ l, zco x.2) :
    Calls Tryz.prog 35 #[v] w (zh7 w 135 l) := by
  obtain ⟨la, cap, rfl, hcap, hcm⟩ := hl.shape;have HL := zb hl;have HZ := zb hz;clear hl hz;unfold maxLen at hcm;go_enter Tryz.func35, Tryz.ntmps35;go_wp2;go_loopw [5] (fun iv wr => ∃ (k : Nat), k <= l.length ∧ iv = .int .i64 k ∧ Hid (zeP w 135 l k wr)) (fun iv _ => l.length - (intOf iv).toNat)
  case atStart => exact ⟨0, by omega, rfl, zb (zc0 _ _ _)⟩
  case round =>
    obtain ⟨k, hk, rfl, HI⟩ := hrel;have hwb := HI.out.lst.lt;by_cases hlt : k < l.length
    · obtain ⟨x, hx⟩ : ∃ x, l[k]? = some x := ⟨_, List.getElem?_eq_getElem hlt⟩
      obtain ⟨g, o, sa, sc, rfl, _, d0, d1, hs⟩ := (HL.out.chg HI.out.chg (fun _ _ e => e)).get hx;have ka := Chg.refl (fun _ => False) wr;have AD := zb (zlA wr w.heap.size 135 x (l.take k) k sa x.2.length sc _ G HI.out.lst (by omega) (by rw [List.length_take]; omega) hs (HZ.out x (List.mem_of_getElem? hx)));have NX := zb (fun h0 w2 e hr => HI.out.next (e := e) hx h0 ka (w2 := w2) hr);have ER := zb (fun h0 => HI.out.err_of hx h0);have KC := zb (HI.out.chg.trans ka);have hb1 := HI.out.chg.size;clear HI hs hx ka;generalize hk : zan x (l.take k) = ek at *;have HEK := zb hk;obtain ⟨op, ls⟩ := x;simp only at d0 d1 AD NX;by_cases h0 : ek = 0
      · have NX2 := zb (NX.out h0)
        subst h0;clear NX ER hk;go_wp2_with fail;(with_reducible refine AD.out.mono ?_);rintro e w4 hr;have N4 := zb (NX2.out w4 e hr);obtain ⟨rfl, _, _⟩ := hr;clear AD NX2;go_wp2;go_roundw
        case rel => exact ⟨k + 1, by omega, by go_num, N4⟩
        case measure => simp [intOf]; omega
      · have ER2 := zb (ER.out h0)
        have g1 : (ek != 0) = true := by rw [bne_iff_ne]; exact h0
        have g2 : (ek == 0) = false := by rw [beq_eq_false_iff_ne]; exact h0
        have H0 := zb h0;clear NX ER h0 hk;go_wp2_with fail;(with_reducible refine AD.out.mono ?_);rintro e w4 ⟨rfl, _, k4⟩;have K4 := zb k4;clear k4 AD;go_wp2;go_ret2;exact zd0 ER2.out H0.out KC.out (K4.out.mono (fun x _ e => by omega))
    · obtain rfl : k = l.length := by omega
      obtain ⟨⟨es, h1, h2⟩, h3⟩ := HI.out.lst;have f1 := zk (o := 1) h1;have c1 : wr.cell? ⟨w.heap.size, 1, none⟩ = some (.int .i64 (l.length : Int)) := ze h1 rfl;have FIN := zb (zcZ HI.out);clear HI h1 h2 h3;go_wp2;go_ret2;exact FIN.out
end Go.Proofs.YthdfplafihmejaaGreat
