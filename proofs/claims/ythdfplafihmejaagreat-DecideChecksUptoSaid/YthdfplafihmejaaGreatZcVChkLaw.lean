/-
  VWrap: what else. VWhyProof: what else. DecideChecks, walked.
-/
import Derived.Test.YthdfplafihmejaaGreatZcVArgsY
import Derived.Test.YthdfplafihmejaaGreatZcQRWalk
import Derived.Test.YthdfplafihmejaaGreatZcUPlainY
import Derived.Test.YthdfplafihmejaaGreatZcPushT
namespace Go.Proofs.YthdfplafihmejaaGreat
open Go.RowKit Go.Maps
set_option maxHeartbeats 4000000 in
set_option maxRecDepth 100000 in
theorem ziP (w : World) (tv pv : Value) (G : Nat -> Prop) (y : zdq) (hy : zbC w tv pv G y) :
  Calls Tryz.prog 17 #[.agg #[.int .i64 y.entry, tv, pv]] w (zk9 w y) := by
 have HY := zb hy;obtain ⟨ta, tc, rfl, htl, _⟩ := hy.ways;obtain ⟨qa, qc, rfl, hql, _⟩ := hy.proofs;unfold maxLen at htl hql
 have FIN := zb (show (y.proofs.length <= 20 ∧ y.ways.length <= 20) -> (∀ (j : Nat) p, j < y.proofs.length -> y.proofs[j]? = some p -> zdm p) -> zmy y from fun h1 h2 => ⟨h1, fun x hx => by
  obtain ⟨j, hj⟩ := List.mem_iff_getElem?.1 hx;exact h2 j x (List.getElem?_eq_some_iff.1 hj).1 hj⟩)
 clear hy;have OB := zb (zf w (.cells #[.int .i64 y.entry, .slice ta y.ways.length tc, .slice qa y.proofs.length qc] 39));have KB := zb (zh (fun _ => False) w (.cells #[.int .i64 y.entry, .slice ta y.ways.length tc, .slice qa y.proofs.length qc] 39));go_enter Tryz.func17, Tryz.ntmps17;go_upto_region 1 with fail;obtain ⟨b0, hb0⟩ : ∃ b0, b0 = w.heap.size := ⟨_, rfl⟩;rw [<- hb0] at OB;rw [<- hb0];generalize w.alloc (.cells #[.int .i64 y.entry, .slice ta y.ways.length tc, .slice qa y.proofs.length qc] 39) = w1 at *;have q1 := ze (o := 1) OB.out rfl;have q2 := ze (o := 2) OB.out rfl;clear hb0;go_cut [16] (fun cv wc => ∃ x : Bool, cv = .bool x ∧ Hid (w1 = wc) ∧ Hid (x = false -> y.proofs.length <= 20 ∧ y.ways.length <= 20))
 case first =>
  by_cases h8 : 20 < y.proofs.length
  · have g8 : decide (20 < (y.proofs.length : Int)) = true := decide_eq_true (by omega)
    have g8' : decide (20 < y.proofs.length) = true := decide_eq_true h8;go_wp2;go_meet
    case rel => exact ⟨true, rfl, zb rfl, zb (fun e => by cases e)⟩
  have g8 : decide (20 < (y.proofs.length : Int)) = false := decide_eq_false (by omega);have g8' : decide (20 < y.proofs.length) = false := decide_eq_false h8;by_cases h12 : 20 < y.ways.length
  · have g12 : decide (20 < (y.ways.length : Int)) = true := decide_eq_true (by omega)
    have g12' : decide (20 < y.ways.length) = true := decide_eq_true h12;go_wp2;go_meet
    case rel => exact ⟨true, rfl, zb rfl, zb (fun e => by cases e)⟩
  have g12 : decide (20 < (y.ways.length : Int)) = false := decide_eq_false (by omega);have g12' : decide (20 < y.ways.length) = false := decide_eq_false h12;have RR := zb (show y.proofs.length <= 20 ∧ y.ways.length <= 20 from ⟨by omega, by omega⟩);go_wp2;go_meet
  case rel => exact ⟨false, rfl, zb rfl, zb (fun _ => RR.out)⟩
 case rest =>
  obtain ⟨x, rfl, hw, hx⟩ := hcut;have hw := hw.out;subst hw;cases x with
  | true =>
   go_wp2;go_ret;exact ⟨true, rfl, KB.out, fun e => by cases e⟩
  | false =>
  have HX := zb (hx.out rfl);have hi20 := HX.out.1;clear hx q1;go_wp2;clear q2;go_loopw [20] (fun iv wr => ∃ k : Nat, k <= y.proofs.length ∧ iv = .int .i64 k ∧ Hid (Chg (fun _ => False) w1 wr) ∧ Hid (∀ (j : Nat) p, j < k -> y.proofs[j]? = some p -> zdm p)) (fun iv _ => y.proofs.length - (intOf iv).toNat)
  case atStart => exact ⟨0, by omega, rfl, zb (Chg.refl _ _), zb (fun j r hj => by omega)⟩
  case round =>
   obtain ⟨k, hk, rfl, KC, HI⟩ := hrel;have q2 := ze (o := 2) (KC.out.obj (fun e => e) OB.out) rfl;by_cases hlt : k < y.proofs.length
   rotate_left
   · obtain rfl : k = y.proofs.length := by omega
     go_wp2;go_ret;exact ⟨false, rfl, KB.out.trans KC.out, fun _ => FIN.out HX.out HI.out⟩
   have g1 : decide ((k : Int) < (y.proofs.length : Int)) = true := decide_eq_true (by omega);have g1' : decide (k < y.proofs.length) = true := decide_eq_true hlt;obtain ⟨p, hp⟩ : ∃ p, y.proofs[k]? = some p := ⟨_, List.getElem?_eq_getElem hlt⟩
   have NX := zb (show zdm p -> ∀ (j : Nat) z, j < k + 1 -> y.proofs[j]? = some z -> zdm z from fun z j u hj hju => by
    rcases Nat.lt_or_ge j k with q | q
    · exact HI.out j u q hju
    · obtain rfl : j = k := by omega
      rw [hp] at hju; cases hju;exact z)
   obtain ⟨_, _, e1, _, hps⟩ := HY.out.proofs.chg (KB.out.trans KC.out) (fun _ _ e => e);cases e1;obtain ⟨pg, po, iv, sv, rfl, _, p0, p1, hpp⟩ := hps k p hp;have hsl := hpp.steps.len;obtain ⟨ia, ic, rfl, il, _⟩ := id hpp.items;obtain ⟨sa, sc, rfl⟩ := hpp.steps.shape;unfold maxLen at il;have ka := zh (fun _ => False) wr (.cells #[.slice ia p.items.length ic, .slice sa p.steps.length sc] 83);have OP := zb (zf wr (.cells #[.slice ia p.items.length ic, .slice sa p.steps.length sc] 83));have HP := zb (hpp.chg ka (fun _ _ e => e));have KA := zb (KC.out.trans ka);clear hps hp hpp ka HI;obtain ⟨items, steps⟩ := p;simp only at p0 p1 hsl il OP HP KA;by_cases h1 : 12 < items.length
   · have m3 : decide (12 < (items.length : Int)) = true := decide_eq_true (by omega)
     have m3' : decide (12 < items.length) = true := decide_eq_true h1;go_wp2;go_ret;exact ⟨true, rfl, KB.out.trans KA.out, fun e => by cases e⟩
   have m3 : decide (12 < (items.length : Int)) = false := decide_eq_false (by omega);have m3' : decide (12 < items.length) = false := decide_eq_false h1;by_cases h2 : 60 < steps.length
   · have m4 : decide (60 < (steps.length : Int)) = true := decide_eq_true (by omega)
     have m4' : decide (60 < steps.length) = true := decide_eq_true h2;go_wp2;go_ret;exact ⟨true, rfl, KB.out.trans KA.out, fun e => by cases e⟩
   have m4 : decide (60 < (steps.length : Int)) = false := decide_eq_false (by omega);have m4' : decide (60 < steps.length) = false := decide_eq_false h2;have HS := zb (show items.length <= 12 ∧ steps.length <= 60 from ⟨by omega, by omega⟩);go_wp2;generalize wr.alloc (.cells #[.slice ia items.length ic, .slice sa steps.length sc] 83) = wq at *;generalize wr.heap.size = bp at *;clear p0 p1 q2 m4 m4' KC;have o0 := ze (o := 0) OP.out rfl;go_loopw [41] (fun iv wz => ∃ q : Nat, q <= items.length ∧ iv = .int .i64 q ∧ Hid (wq = wz) ∧ Hid (∀ (j : Nat) x, j < q -> items[j]? = some x -> x.paths.length <= 20 ∧ ∀ l ∈ x.paths, l.length <= 60)) (fun iv _ => items.length - (intOf iv).toNat)
   case atStart => exact ⟨0, by omega, rfl, zb rfl, zb (fun j r hj => by omega)⟩
   case round =>
    obtain ⟨m, hm, rfl, hw, HI⟩ := hrel;have hw := hw.out;subst hw;by_cases hml : m < items.length
    rotate_left
    · obtain rfl : m = items.length := by omega
      have NX2 := zb (NX.out ⟨HS.out.1, HS.out.2, fun x hx => by
       obtain ⟨j, hj⟩ := List.mem_iff_getElem?.1 hx;exact HI.out j x (List.getElem?_eq_some_iff.1 hj).1 hj⟩)
      go_wp2;go_roundw
      case rel => exact ⟨k + 1, by omega, by go_num, KA, NX2⟩
      case measure => simp [intOf]; omega
    have n1 : decide ((m : Int) < (items.length : Int)) = true := decide_eq_true (by omega);have n1' : decide (m < items.length) = true := decide_eq_true hml;obtain ⟨x, hx⟩ : ∃ x, items[m]? = some x := ⟨_, List.getElem?_eq_getElem hml⟩;obtain ⟨_, _, e1, _, hcl⟩ := HP.out.items;cases e1;obtain ⟨lb, lo, pv, rfl, _, _, j1, hpa⟩ := hcl m _ hx;have hpl := hpa.len;obtain ⟨pa, pc, rfl⟩ := hpa.shape;have HPA := zb hpa
    have NM := zb (show (x.paths.length <= 20 ∧ ∀ l ∈ x.paths, l.length <= 60) -> ∀ (j : Nat) z, j < m + 1 -> items[j]? = some z -> z.paths.length <= 20 ∧ ∀ l ∈ z.paths, l.length <= 60 from fun z j u hj hju => by
     rcases Nat.lt_or_ge j m with q | q
     · exact HI.out j u q hju
     · obtain rfl : j = m := by omega
       rw [hx] at hju; cases hju;exact z)
    clear hcl hx hpa HI;by_cases h1 : 20 < x.paths.length
    · have m5 : decide (20 < (x.paths.length : Int)) = true := decide_eq_true (by omega)
      have m5' : decide (20 < x.paths.length) = true := decide_eq_true h1;go_wp2;go_ret;exact ⟨true, rfl, KB.out.trans KA.out, fun e => by cases e⟩
    have m5 : decide (20 < (x.paths.length : Int)) = false := decide_eq_false (by omega);have m5' : decide (20 < x.paths.length) = false := decide_eq_false h1;go_wp2;go_loopw [59] (fun iv wz => ∃ q : Nat, q <= x.paths.length ∧ iv = .int .i64 q ∧ Hid (wq = wz) ∧ Hid (∀ (j : Nat) l, j < q -> x.paths[j]? = some l -> l.length <= 60)) (fun iv _ => x.paths.length - (intOf iv).toNat)
    case atStart => exact ⟨0, by omega, rfl, zb rfl, zb (fun j r hj => by omega)⟩
    case round =>
     obtain ⟨q, hq, rfl, hw, HQ⟩ := hrel;have hw := hw.out;subst hw;by_cases hql : q < x.paths.length
     rotate_left
     · obtain rfl : q = x.paths.length := by omega
       have NX2 := zb (NM.out ⟨by omega, fun l hl => by
        obtain ⟨j, hj⟩ := List.mem_iff_getElem?.1 hl;exact HQ.out j l (List.getElem?_eq_some_iff.1 hj).1 hj⟩)
       go_wp2;go_roundw
       case rel => exact ⟨m + 1, by omega, by go_num, zb (by first | trivial | rfl), NX2⟩
       case measure => simp [intOf]; omega
     have m7 : decide ((q : Int) < (x.paths.length : Int)) = true := decide_eq_true (by omega);have m7' : decide (q < x.paths.length) = true := decide_eq_true hql;obtain ⟨l, hl⟩ : ∃ l, x.paths[q]? = some l := ⟨_, List.getElem?_eq_getElem hql⟩;obtain ⟨_, _, e1, _, hcl⟩ := HPA.out;cases e1;obtain ⟨lb2, lo2, pv2, rfl, _, q0', hst⟩ := hcl q l hl;have hll := hst.len;obtain ⟨qa2, qc2, rfl⟩ := hst.shape;have HLL := zb hl;clear hcl hl hst;by_cases h3 : 60 < l.length
     · have m8 : decide (60 < (l.length : Int)) = true := decide_eq_true (by omega)
       have m8' : decide (60 < l.length) = true := decide_eq_true h3;go_wp2;go_ret;exact ⟨true, rfl, KB.out.trans KA.out, fun e => by cases e⟩
     have m8 : decide (60 < (l.length : Int)) = false := decide_eq_false (by omega);have m8' : decide (60 < l.length) = false := decide_eq_false h3;go_wp2;go_roundw
     case rel => exact ⟨q + 1, by omega, by go_num, zb (by first | trivial | rfl), zb (fun j u hj hju => by
      rcases Nat.lt_or_ge j q with z | z
      · exact HQ.out j u z hju
      · obtain rfl : j = q := by omega
        rw [HLL.out] at hju; cases hju;omega)⟩
     case measure => simp [intOf]; omega
theorem zeS.chk {w : World} {ra : Option Addr} {R : List zA} {rc : Nat} {v lv cv : Value} {P : List (zn × Value)} {L : List zW} {c : List ByteArray} (h : zeS w ra R rc v lv cv P L c (· < w.heap.size)) (hm : R.length <= 1048576) : zb5 w ra R rc v P :=
 ⟨h.run.rules, h.run.nil, by omega, h.run.certs, h.run.few⟩
theorem zhX {w : World} {b : Nat} {a0 a1 a2 : Value} {t : TypeId} {f : Nat × Nat} (h : w.heap[b]? = some (.cells #[a0, a1, a2] t f)) : w.cell? ⟨b, 0, none⟩ = some a0 ∧ w.cell? ⟨b, 1, none⟩ = some a1 ∧ w.cell? ⟨b, 2, none⟩ = some a2 :=
 ⟨ze (o := 0) h rfl, ze (o := 1) h rfl, ze (o := 2) h rfl⟩
set_option maxRecDepth 100000 in
theorem zj4 (w : World) (e : Int) (ta qa : Option Addr) (n tc m qc : Nat) : Calls Tryz.prog 16 #[.agg #[.int .i64 e, .slice ta n tc, .slice qa m qc]] w fun en w' => en = .returned (.agg #[.int .i64 e, .slice ta n tc, .slice qa m qc]) ∧ Chg (fun _ => False) w w' := by
 have B1 := zf (w.alloc (.cells #[.int .i64 e, .slice ta n tc, .slice qa m qc] 39)) (.cells #[.int .i64 0, .slice none 0 0, .slice none 0 0] 42);have B2 := zf (w.alloc (.cells #[.int .i64 e, .slice ta n tc, .slice qa m qc] 39)) (.cells #[.int .i64 e, .slice ta n tc, .slice qa m qc] 42);rw [World.size_alloc] at B1 B2;have KB := zb ((zh (fun _ => False) w (.cells #[.int .i64 e, .slice ta n tc, .slice qa m qc] 39)).trans (zh _ _ (.cells #[.int .i64 e, .slice ta n tc, .slice qa m qc] 42)));have OB := zb B2;obtain ⟨c0, c1, c2⟩ := zhX (zZ (.cells #[.int .i64 0, .slice none 0 0, .slice none 0 0] 42) (zf w (.cells #[.int .i64 e, .slice ta n tc, .slice qa m qc] 39)));obtain ⟨d0, d1, d2⟩ := zhX B1;have fz : ∀ i, ((w.alloc (.cells #[.int .i64 e, .slice ta n tc, .slice qa m qc] 39)).alloc (.cells #[.int .i64 0, .slice none 0 0, .slice none 0 0] 42)).frozen? ⟨w.heap.size + 1, i, none⟩ = false := fun i => zk B1;clear B1 B2;go_enter Tryz.func16, Tryz.ntmps16;go_wp2;obtain ⟨f0, f1, f2⟩ := zhX OB.out;generalize (w.alloc (.cells #[.int .i64 e, .slice ta n tc, .slice qa m qc] 39)).alloc (.cells #[.int .i64 e, .slice ta n tc, .slice qa m qc] 42) = wf at *;refine bodyPost_ret (v := .agg #[.int .i64 e, .slice ta n tc, .slice qa m qc]) ?_ rfl ?_
 · simp [results, Tryz.results16, go_sem, f0, f1, f2]
 · exact ⟨rfl, KB.out⟩
set_option maxHeartbeats 8000000 in
set_option maxRecDepth 100000 in
theorem znD (w : World) (xv yv : Value) (ra : Option Addr) (R : List zA) (rc : Nat) (pv lv cv : Value) (P : List (zn × Value)) (L : List zW) (op : Int) (c : List ByteArray) (b : Int) (y : zdq) (hx : zh9 w xv ra R rc pv lv cv P L op c b) (hy : zmw w yv y) :
  Calls Tryz.prog 4 #[xv, yv] w fun e w' => e = .returned (.bool true) ∧ Chg (fun _ => False) w w' := by
 have HX := zb hx;obtain rfl := hx.val;obtain ⟨tv, qv, rfl, hya, hyf⟩ := hy;have HY := zb hya;obtain ⟨la, lcap, rfl, _, _⟩ := hx.certs.at_;obtain ⟨ea, ec, rfl, _, _⟩ := hx.ents.shape;obtain ⟨ca, cc, rfl, _, _⟩ := hx.set.at_;obtain ⟨ta, tc, rfl, htl, _⟩ := hya.ways;obtain ⟨qa, qc, rfl, hql, _⟩ := hya.proofs;unfold maxLen at htl hql;have k1 := zh (fun _ => False) w (.cells #[.slice ra R.length rc, .slice la P.length lcap, .slice ea L.length ec, .int .i64 op, .slice ca c.length cc, .int .i64 b] 28);have k2 := zh (fun _ => False) (w.alloc (.cells #[.slice ra R.length rc, .slice la P.length lcap, .slice ea L.length ec, .int .i64 op, .slice ca c.length cc, .int .i64 b] 28)) (.cells #[.int .i64 y.entry, .slice ta y.ways.length tc, .slice qa y.proofs.length qc] 39);have o2 := zf (w.alloc (.cells #[.slice ra R.length rc, .slice la P.length lcap, .slice ea L.length ec, .int .i64 op, .slice ca c.length cc, .int .i64 b] 28)) (.cells #[.int .i64 y.entry, .slice ta y.ways.length tc, .slice qa y.proofs.length qc] 39);rw [World.size_alloc] at o2;have OX := zb (k2.obj (fun e => e) (zf w (.cells #[.slice ra R.length rc, .slice la P.length lcap, .slice ea L.length ec, .int .i64 op, .slice ca c.length cc, .int .i64 b] 28)));have OY := zb o2;have K2 := zb (k1.trans k2);clear hx hya k1 k2 o2;go_enter Tryz.func4, Tryz.ntmps4;go_wp2_with fail;generalize (w.alloc (.cells #[.slice ra R.length rc, .slice la P.length lcap, .slice ea L.length ec, .int .i64 op, .slice ca c.length cc, .int .i64 b] 28)).alloc (.cells #[.int .i64 y.entry, .slice ta y.ways.length tc, .slice qa y.proofs.length qc] 39) = w2 at *;generalize w.heap.size + 1 = by_ at *;obtain ⟨bx, hbx⟩ : ∃ bx, bx = w.heap.size := ⟨_, rfl⟩;rw [<- hbx] at OX;rw [<- hbx];clear hbx;have BX := zb (fun (W : World) (k : Chg (fun _ => False) w2 W) => zcg (k.obj (fun e => e) OX.out));have BY := zb (fun (W : World) (k : Chg (fun _ => False) w2 W) => zhX (k.obj (fun e => e) OY.out));have AW := zb (zhh w2);(with_reducible refine AW.out.mono ?_);rintro e w3 ⟨rfl, k3⟩;have E3 := zb k3;obtain ⟨c0, c1, c2, c3, c4, c5⟩ := BX.out w3 k3;have LG := zb (ziQ HX.out (K2.out.trans k3));clear k3 AW;go_wp2_with fail;(with_reducible refine LG.out.mono ?_);rintro e w4 ⟨lg, rfl, k4, hlg⟩;have E4 := zb (E3.out.trans k4);clear LG k4 E3 c0 c1 c2 c3 c4 c5;obtain ⟨d0, d1, d2⟩ := BY.out w4 E4.out;cases lg with
 | true =>
  go_wp2;go_ret;exact ⟨rfl, K2.out.trans E4.out⟩
 | false =>
 have FIT := zb (hlg rfl);clear hlg;have LO := zb (ziP w4 _ _ _ y (HY.out.chg (K2.out.trans E4.out) (fun _ _ e => e)));go_wp2_with fail;(with_reducible refine LO.out.mono ?_);rintro e w5 ⟨lo, rfl, k5, hlo⟩;have E5 := zb (E4.out.trans k5);clear LO k5 E4 d0 d1 d2;cases lo with
 | true =>
  go_wp2;go_ret;exact ⟨rfl, K2.out.trans E5.out⟩
 | false =>
 have SH := zb (hlo rfl);clear hlo;have ASK := zb (fun (W : World) (k : Chg (fun _ => False) w2 W) => FIT.out.ask HX.out (K2.out.trans k));have WF : zkZ y := ⟨fun p hp => by have := (SH.out.proof p hp).items; omega⟩
 have RI : zn3 R P L c y := ⟨HX.out.fit.1, fun k hk => by
  obtain ⟨q1, _, q2⟩ := FIT.out.cert k hk;exact ⟨by omega, fun x hx => by have := q2 x hx; omega⟩, fun x hx z hz => by have := (FIT.out.who x hx).2 z hz; omega, fun x hx => by have := FIT.out.set.2 x hx; omega, hyf⟩
 have YU := zb (fun (W : World) (k : Chg (fun _ => False) w2 W) => (HY.out.chg (K2.out.trans k) (fun _ _ e => e)).up (fun _ hj => Nat.lt_of_lt_of_le hj (K2.out.trans k).size));have CK1 := zb (fun (W : World) (k : Chg (fun _ => False) w2 W) => zdL W ra R rc _ _ _ _ _ P L op c y _ _ ((ASK.out W k).chk HX.out.up.rules) (ASK.out W k).ents (ASK.out W k).few (ASK.out W k).set (YU.out W k) WF);have CK2 := zb (fun (W : World) (k : Chg (fun _ => False) w2 W) => zfj W ra R rc _ _ _ _ _ P L op c y _ _ ((ASK.out W k).chk HX.out.up.rules) (ASK.out W k).ents (ASK.out W k).few (ASK.out W k).set (YU.out W k) WF RI);have SS := zb (fun (W : World) (k : Chg (fun _ => False) w5 W) => (⟨BX.out W (E5.out.trans k), BY.out W (E5.out.trans k)⟩ : (W.cell? ⟨bx, 0, none⟩ = some (.slice ra R.length rc) ∧ W.cell? ⟨bx, 1, none⟩ = some (.slice la P.length lcap) ∧ W.cell? ⟨bx, 2, none⟩ = some (.slice ea L.length ec) ∧ W.cell? ⟨bx, 3, none⟩ = some (.int .i64 op) ∧ W.cell? ⟨bx, 4, none⟩ = some (.slice ca c.length cc) ∧ W.cell? ⟨bx, 5, none⟩ = some (.int .i64 b)) ∧ (W.cell? ⟨by_, 0, none⟩ = some (.int .i64 y.entry) ∧ W.cell? ⟨by_, 1, none⟩ = some (.slice ta y.ways.length tc) ∧ W.cell? ⟨by_, 2, none⟩ = some (.slice qa y.proofs.length qc))));clear HX ASK FIT SH HY WF RI BX BY YU;generalize zeU R (zj P) L op c y = ck at *;go_wp2_with fail;refine zB (N := 39) [.rd [0, 1, 2, 3, 4, 5, 6, 7, 8, 9, 10, 12, 13, 14, 15, 16, 17, 18, 19, 20, 21, 22], .ef 11, .ef 23, .ef 24, .rd [25, 26]] (fun W => (W.cell? ⟨bx, 0, none⟩ = some (.slice ra R.length rc) ∧ W.cell? ⟨bx, 1, none⟩ = some (.slice la P.length lcap) ∧ W.cell? ⟨bx, 2, none⟩ = some (.slice ea L.length ec) ∧ W.cell? ⟨bx, 3, none⟩ = some (.int .i64 op) ∧ W.cell? ⟨bx, 4, none⟩ = some (.slice ca c.length cc) ∧ W.cell? ⟨bx, 5, none⟩ = some (.int .i64 b)) ∧ (W.cell? ⟨by_, 0, none⟩ = some (.int .i64 y.entry) ∧ W.cell? ⟨by_, 1, none⟩ = some (.slice ta y.ways.length tc) ∧ W.cell? ⟨by_, 2, none⟩ = some (.slice qa y.proofs.length qc))) (by kernel_rfl) (by kernel_rfl) (by kernel_rfl) (by kernel_rfl) (Nat.le_of_ble_eq_true rfl) (SS.out w5 (Chg.refl _ _)) ?_;refine zH (A := ?A1) ?h1 ?h2
 case h1 =>
  rintro w' ⟨⟨z0, z1, z2, z3, z4, z5⟩, z6, z7, z8⟩ K hK;simp only [zT, List.filterMap_cons, List.filterMap_nil, List.getElem?_toArray, List.getElem?_cons_succ, List.getElem?_cons_zero]
  repeat still_step
  refine wpStill_nil ?_;exact hK
 have V1 := zb (CK1.out w5.drew E5.out.drew);refine zP rfl ?_;go_wp2_with fail;(with_reducible refine V1.out.mono ?_);rintro e w6 ⟨rfl, k6⟩;have K6 := zb ((zK (fun _ => False) w5).trans k6);have V2 := zb (zj4 w6 y.entry ta qa y.ways.length tc y.proofs.length qc);clear V1 k6 CK1;go_wp2_with fail;refine ⟨SS.out w6 K6.out, ?_⟩;refine zP rfl ?_;go_wp2_with fail;(with_reducible refine V2.out.mono ?_);rintro e w7 ⟨rfl, k7⟩;have K7 := zb (K6.out.trans k7);have V3 := zb (CK2.out w7 (E5.out.trans K7.out));clear V2 k7 CK2;go_wp2_with fail;refine ⟨SS.out w7 K7.out, ?_⟩;refine zP rfl ?_;go_wp2_with fail;(with_reducible refine V3.out.mono ?_);rintro e w8 ⟨rfl, k8⟩;have K8 := zb (K7.out.trans k8);clear V3 k8;go_wp2_with fail;refine ⟨SS.out w8 K8.out, ?_⟩;refine zH (A := ?A2) ?h3 ?h4
 case h3 =>
  rintro w' z0 K hK;clear z0;simp only [zT, List.filterMap_cons, List.filterMap_nil, List.getElem?_toArray, List.getElem?_cons_succ, List.getElem?_cons_zero]
  repeat still_step
  refine wpStill_nil ?_;exact hK
 refine Zg ?_;go_wp2;go_ret;exact ⟨by simp, K2.out.trans (E5.out.trans K8.out)⟩
end Go.Proofs.YthdfplafihmejaaGreat
