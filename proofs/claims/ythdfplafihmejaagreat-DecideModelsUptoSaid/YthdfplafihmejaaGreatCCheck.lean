/-
  Package cert: like, Check.
-/
import Derived.Test.YthdfplafihmejaaGreatCLike
namespace Go.Proofs.YthdfplafihmejaaGreat
open Go.RowKit Go.Maps

theorem intsA (w : World) (a : Nat) (z : Int) (hz : z = (a : Nat)) : IntsAt (w.alloc (.cells #[.int .i64 z] 3)) (.slice (some ⟨w.heap.size, 0, none⟩) 1 1) (fun k => k = w.heap.size) (natI [a]) := by
 subst hz; exact ints1 w a
theorem intsB (w : World) (a b : Nat) (y z : Int) (hy : y = (a : Nat)) (hz : z = (b : Nat)) : IntsAt (w.alloc (.cells #[.int .i64 y, .int .i64 z] 3)) (.slice (some ⟨w.heap.size, 0, none⟩) 2 2) (fun k => k = w.heap.size) (natI [a, b]) := by
 subst hy hz; exact ints2 w a b
/-- word.At, isOf at a place of a word. -/
theorem at_int (w : World) (s : ByteArray) (k : Nat) (z : Int) (hz : z = (k : Nat)) (hs : s.size ≤ maxLen) (hk : k < alen s.data.toList) : Calls Tryz.prog 81 #[.string s, .int .i64 z] w fun e w' => e = .returned (.int .u16 (atomAt s.data.toList k : Nat)) ∧ Chg (fun _ => False) w w' := by
 subst hz; exact wat_in w s k hs hk
theorem isOf1 (w : World) (a k : Nat) (z : Int) (hz : z = (k : Nat)) (ha : a < 65536) : Calls Tryz.prog 83 #[.int .u16 (a : Nat), .slice (some ⟨w.heap.size, 0, none⟩) 1 1] (w.alloc (.cells #[.int .i64 z] 3)) fun e w' => e = .returned (.bool (decide (a / 8192 = k))) ∧ (w.alloc (.cells #[.int .i64 z] 3)) = w' := by
 have := isOf_any _ a _ _ [k] ha (intsA w k z hz)
 rwa [show decide (a / 8192 ∈ [k]) = decide (a / 8192 = k) from by simp] at this
theorem alone1 (w : World) (s : ByteArray) (k : Nat) (z : Int) (hz : z = (k : Nat)) (hs : s.size ≤ maxLen) : Calls Tryz.prog 113 #[.string s, .slice (some ⟨w.heap.size, 0, none⟩) 1 1] (w.alloc (.cells #[.int .i64 z] 3)) fun e w' => e = .returned (.bool (aloneB s [k])) ∧ Chg (fun _ => False) w w' :=
 (alone_any _ s _ _ [k] hs (intsA w k z hz)).mono fun _ _ ⟨he, hc⟩ => ⟨he, (chg_alloc _ _ _).trans hc⟩
theorem alone2 (w : World) (s : ByteArray) (hs : s.size ≤ maxLen) : Calls Tryz.prog 113 #[.string s, .slice (some ⟨w.heap.size, 0, none⟩) 2 2] (w.alloc (.cells #[.int .i64 1, .int .i64 2] 3)) fun e w' => e = .returned (.bool (aloneB s [1, 2])) ∧ Chg (fun _ => False) w w' :=
 (alone_any _ s _ _ [1, 2] hs (intsB w 1 2 1 2 rfl rfl)).mono fun _ _ ⟨he, hc⟩ => ⟨he, (chg_alloc _ _ _).trans hc⟩
def like1 (sp u : ByteArray) (sg : Nat) (kind : Int) : Bool :=
 if kind = 1 then aloneB sp [1] && (decide (alen u.data.toList = 2) && (decide (atomAt u.data.toList 0 / 8192 = 3) && decide (atomAt u.data.toList 1 / 8192 = 5)))
 else if kind = 2 then aloneB sp [1] && decide (u = atomW sg)
 else if kind = 3 then aloneB sp [2]
 else if kind = 4 then aloneB sp [3] && aloneB u [4]
 else if kind = 5 then aloneB sp [1, 2] && (decide (2 ≤ alen u.data.toList) && decide (atomAt u.data.toList (alen u.data.toList - 1) / 8192 = 5))
 else false
set_option maxHeartbeats 8000000 in
set_option maxRecDepth 100000 in
theorem like_any (w : World) (c : BCert) (sa : Option Addr) (sc : Nat) (G : Nat → Prop) (h : CertAt w (.slice sa c.fr.length sc) G c) (hm : mayB c.sp.data.toList = true) (hfr : setB c.fr = true) :
  Calls Tryz.prog 85 #[certV c (.slice sa c.fr.length sc)] w fun e w' => e = .returned (.bool (likeB c)) ∧ Chg (fun _ => False) w w' := by
 have hfl : 1 ≤ c.fr.length ∧ c.fr.length ≤ 16 := by
  obtain ⟨q1, q2, _⟩ := of_decide_eq_true hfr
  rw [lists_len] at q1 q2
  exact ⟨q1, q2⟩
 have k0 := chg_alloc (fun _ => False) w (.cells #[.int .i64 c.kind, .int .u16 (c.sg : Int), .string c.sp, .slice sa c.fr.length sc, .int .i64 c.f, .int .i64 c.t, .int .i64 c.n] 64)
 have OB := Lib.hid (obj_alloc_new w (.cells #[.int .i64 c.kind, .int .u16 (c.sg : Int), .string c.sp, .slice sa c.fr.length sc, .int .i64 c.f, .int .i64 c.t, .int .i64 c.n] 64))
 have K0 := Lib.hid k0
 have DG := Lib.hid (delegate_any _ c sa sc G (h.chg k0 (fun _ _ e => e)) hm hfl.2)
 have HS := Lib.hid (h.set.chg k0 (fun _ _ e => e)).at_
 have hsp := (may_size hm).1
 have hsg := h.sg
 have R := Lib.hid (show likeB c = if c.kind = 6 then true else if c.kind = 7 then delB c else match c.fr with | [u] => like1 c.sp u c.sg c.kind | _ => false from rfl)
 generalize likeB c = res at *
 generalize hdb : delB c = db at *
 obtain ⟨kind, sg, sp, fr, f, t, n⟩ := c
 unfold certV at DG ⊢
 simp only at OB K0 HS hsp hsg R DG hfl ⊢
 clear h hm k0 hfr hdb
 have p0 := cell_of (o := 0) OB.out rfl
 have p1 := cell_of (o := 1) OB.out rfl
 have p2 := cell_of (o := 2) OB.out rfl
 have p3 := cell_of (o := 3) OB.out rfl
 have p4 := cell_of (o := 4) OB.out rfl
 have p5 := cell_of (o := 5) OB.out rfl
 have p6 := cell_of (o := 6) OB.out rfl
 go_enter Tryz.func85, Tryz.ntmps85
 by_cases h6 : kind = 6
 ·subst h6
  rw [if_pos rfl] at R
  go_wp2
  go_ret
  exact ⟨by rw [R.out]; rfl, K0.out⟩
 rw [if_neg h6] at R
 have e6 : (kind == 6) = false := beq_eq_false_iff_ne.2 h6
 by_cases h7 : kind = 7
 ·subst h7
  rw [if_pos rfl] at R
  clear h6
  go_wp2_with fail
  (with_reducible refine (DG.out).mono ?_)
  rintro e w2 ⟨rfl, k2⟩
  go_wp2
  go_ret
  exact ⟨by rw [R.out]; rfl, K0.out.trans k2⟩
 rw [if_neg h7] at R
 have e7 : (kind == 7) = false := beq_eq_false_iff_ne.2 h7
 clear DG h6 h7
 by_cases h1 : fr.length = 1
 ·obtain ⟨u, rfl⟩ := List.length_eq_one_iff.1 h1
  have R := Lib.hid (show res = like1 sp u sg kind from R.out)
  obtain ⟨_, _, eqn, _, hcl⟩ := HS.out
  cases eqn
  obtain ⟨lb, lo, rfl, _, c0, hus⟩ := hcl 0 u rfl
  simp only [Nat.add_zero] at c0
  simp only [List.length_cons, List.length_nil, Nat.zero_add] at OB K0 p0 p1 p2 p3 p4 p5 p6 c0 ⊢
  have HC := Lib.hid c0
  clear hcl h1 hfl HS
  have WL := Lib.hid (fun w => wlen_any w u hus)
  have HUS := Lib.hid hus
  clear hus
  go_wp2_with fail
  generalize hw0 : w.alloc (.cells #[.int .i64 kind, .int .u16 (sg : Int), .string sp, .slice (some ⟨lb, lo, none⟩) 1 sc, .int .i64 f, .int .i64 t, .int .i64 n] 64) = w0 at *
  clear hw0
  (with_reducible refine (WL.out w0).mono ?_)
  rintro e w1 ⟨rfl, rfl⟩
  have OC := Lib.hid (fun w1 (k : Chg (fun _ => False) w0 w1) => k.obj (fun e => e) OB.out)
  have hu2 : u.size ≤ maxLen := HUS.out
  by_cases k1 : kind = 1
  ·subst k1
   have R1 := Lib.hid (show res = (aloneB sp [1] && (decide (alen u.data.toList = 2) && (decide (atomAt u.data.toList 0 / 8192 = 3) && decide (atomAt u.data.toList 1 / 8192 = 5)))) from R.out)
   have A1 := Lib.hid (alone1 w0 sp 1 1 rfl (by unfold maxLen; omega))
   clear R e6 e7
   generalize aloneB sp [1] = b1 at *
   go_wp2_with fail
   (with_reducible refine (A1.out).mono ?_)
   rintro e w2 ⟨rfl, k2⟩
   have K2 := Lib.hid (K0.out.trans k2)
   clear k2 A1
   cases b1 with
   | false =>
    have RF := Lib.hid (show res = false from by rw [R1.out]; rfl)
    go_wp2
    go_ret
    exact ⟨by rw [RF.out]; rfl, K2.out⟩
   | true =>
    by_cases n2 : alen u.data.toList = 2
    ·have e2 : ((alen u.data.toList : Int) == 2) = true := beq_iff_eq.2 (by omega)
     rw [Bool.true_and, decide_eq_true n2, Bool.true_and] at R1
     have T0 := Lib.hid (at_int w2 u 0 0 rfl hu2 (by omega))
     have T1 := Lib.hid (fun w => at_int w u 1 1 rfl hu2 (by omega))
     have h0 := atomAt_lt u.data.toList 0
     have h1' := atomAt_lt u.data.toList 1
     clear n2
     generalize atomAt u.data.toList 0 = a0 at *
     generalize atomAt u.data.toList 1 = a1 at *
     go_wp2_with fail
     (with_reducible refine (T0.out).mono ?_)
     rintro e w3 ⟨rfl, k3⟩
     have K3 := Lib.hid (K2.out.trans k3)
     have I3 := Lib.hid (isOf1 w3 a0 3 3 rfl h0)
     clear k3 T0 K2
     generalize decide (a0 / 8192 = 3) = b2 at *
     go_wp2_with fail
     (with_reducible refine (I3.out).mono ?_)
     rintro e w4 ⟨rfl, rfl⟩
     have K4 := Lib.hid (K3.out.alloc (.cells #[.int .i64 3] 3))
     clear I3
     cases b2 with
     | false =>
      have RF := Lib.hid (show res = false from by rw [R1.out]; rfl)
      go_wp2
      go_ret
      exact ⟨by rw [RF.out]; rfl, K4.out⟩
     | true =>
      rw [Bool.true_and] at R1
      have T2 := Lib.hid (T1.out (w3.alloc (.cells #[.int .i64 3] 3)))
      clear T1 K3
      go_wp2_with fail
      (with_reducible refine (T2.out).mono ?_)
      rintro e w5 ⟨rfl, k5⟩
      have K5 := Lib.hid (K4.out.trans k5)
      have I5 := Lib.hid (isOf1 w5 a1 5 5 rfl h1')
      clear k5 T2 K4
      generalize decide (a1 / 8192 = 5) = b3 at *
      go_wp2_with fail
      (with_reducible refine (I5.out).mono ?_)
      rintro e w6 ⟨rfl, rfl⟩
      go_wp2
      go_ret
      exact ⟨by rw [R1.out]; rfl, K5.out.alloc (.cells #[.int .i64 5] 3)⟩
    ·have e2 : ((alen u.data.toList : Int) == 2) = false := beq_eq_false_iff_ne.2 (by omega)
     have RF := Lib.hid (show res = false from by rw [R1.out, decide_eq_false n2]; rfl)
     clear n2
     go_wp2
     go_ret
     exact ⟨by rw [RF.out]; rfl, K2.out⟩
  have f1 : (kind == 1) = false := beq_eq_false_iff_ne.2 k1
  by_cases k2 : kind = 2
  ·subst k2
   have R1 := Lib.hid (show res = (aloneB sp [1] && decide (u = atomW sg)) from R.out)
   have A1 := Lib.hid (alone1 w0 sp 1 1 rfl (by unfold maxLen; omega))
   clear R e6 e7 f1 k1
   generalize aloneB sp [1] = b1 at *
   go_wp2_with fail
   (with_reducible refine (A1.out).mono ?_)
   rintro e w2 ⟨rfl, k2⟩
   have K2 := Lib.hid (K0.out.trans k2)
   have o2 := OC.out w2 k2
   have q1 := cell_of (o := 1) o2 rfl
   clear k2 A1 o2
   cases b1 with
   | false =>
    have RF := Lib.hid (show res = false from by rw [R1.out]; rfl)
    go_wp2
    go_ret
    exact ⟨by rw [RF.out]; rfl, K2.out⟩
   | true =>
    rw [Bool.true_and] at R1
    have OF := Lib.hid (wof1_any (w2.alloc (.cells #[.int .u16 (sg : Int)] 62)) w2.heap.size 0 1 sg hsg (cell_of (obj_alloc_new _ _) rfl))
    have K3 := Lib.hid (K2.out.alloc (.cells #[.int .u16 (sg : Int)] 62))
    have SE := str_eq u (atomW sg)
    generalize atomW sg = v at *
    rw [← SE] at R1
    clear SE
    go_wp2_with fail
    (with_reducible refine (OF.out).mono ?_)
    rintro e w4 ⟨rfl, k4⟩
    have K4 := Lib.hid (K3.out.trans k4)
    clear k4 OF K3 q1
    cases hr : (u.toList == v.toList)
    all_goals
     rw [hr] at R1
     go_wp2
     go_ret
     exact ⟨by rw [R1.out]; rfl, K4.out⟩
  have f2 : (kind == 2) = false := beq_eq_false_iff_ne.2 k2
  by_cases k3 : kind = 3
  ·subst k3
   have R1 := Lib.hid (show res = aloneB sp [2] from R.out)
   have A1 := Lib.hid (alone1 w0 sp 2 2 rfl (by unfold maxLen; omega))
   clear R e6 e7 f1 f2 k1 k2
   generalize aloneB sp [2] = b1 at *
   go_wp2_with fail
   (with_reducible refine (A1.out).mono ?_)
   rintro e w2 ⟨rfl, k2⟩
   go_wp2
   go_ret
   exact ⟨by rw [R1.out]; rfl, K0.out.trans k2⟩
  have f3 : (kind == 3) = false := beq_eq_false_iff_ne.2 k3
  by_cases k4 : kind = 4
  ·subst k4
   have R1 := Lib.hid (show res = (aloneB sp [3] && aloneB u [4]) from R.out)
   have A1 := Lib.hid (alone1 w0 sp 3 3 rfl (by unfold maxLen; omega))
   have A2 := Lib.hid (fun w => alone1 w u 4 4 rfl hu2)
   clear R e6 e7 f1 f2 f3 k1 k2 k3
   generalize aloneB sp [3] = b1 at *
   generalize aloneB u [4] = b2 at *
   go_wp2_with fail
   (with_reducible refine (A1.out).mono ?_)
   rintro e w2 ⟨rfl, k2⟩
   have K2 := Lib.hid (K0.out.trans k2)
   clear k2 A1
   cases b1 with
   | false =>
    have RF := Lib.hid (show res = false from by rw [R1.out]; rfl)
    go_wp2
    go_ret
    exact ⟨by rw [RF.out]; rfl, K2.out⟩
   | true =>
    rw [Bool.true_and] at R1
    have A3 := Lib.hid (A2.out w2)
    clear A2
    go_wp2_with fail
    (with_reducible refine (A3.out).mono ?_)
    rintro e w3 ⟨rfl, k3⟩
    go_wp2
    go_ret
    exact ⟨by rw [R1.out]; rfl, K2.out.trans k3⟩
  have f4 : (kind == 4) = false := beq_eq_false_iff_ne.2 k4
  by_cases k5 : kind = 5
  ·subst k5
   have R1 := Lib.hid (show res = (aloneB sp [1, 2] && (decide (2 ≤ alen u.data.toList) && decide (atomAt u.data.toList (alen u.data.toList - 1) / 8192 = 5))) from R.out)
   have A1 := Lib.hid (alone2 w0 sp (by unfold maxLen; omega))
   clear R e6 e7 f1 f2 f3 f4 k1 k2 k3 k4
   generalize aloneB sp [1, 2] = b1 at *
   go_wp2_with fail
   (with_reducible refine (A1.out).mono ?_)
   rintro e w2 ⟨rfl, k2⟩
   have K2 := Lib.hid (K0.out.trans k2)
   clear k2 A1
   cases b1 with
   | false =>
    have RF := Lib.hid (show res = false from by rw [R1.out]; rfl)
    go_wp2
    go_ret
    exact ⟨by rw [RF.out]; rfl, K2.out⟩
   | true =>
    rw [Bool.true_and] at R1
    by_cases n2 : 2 ≤ alen u.data.toList
    ·have e2 : decide (2 ≤ (alen u.data.toList : Int)) = true := decide_eq_true (by omega)
     have e3 : decide ((alen u.data.toList : Int) < 2) = false := decide_eq_false (by omega)
     rw [decide_eq_true n2, Bool.true_and] at R1
     have hal : alen u.data.toList ≤ 9223372036854775807 := by unfold maxLen at hu2; unfold alen; rw [size_list]; omega
     have w1 : IntKind.i64.wrap ((alen u.data.toList : Int) - 1) = (alen u.data.toList : Int) - 1 := by rw [IntKind.wrap_i64]; omega
     have T0 := Lib.hid (at_int w2 u (alen u.data.toList - 1) ((alen u.data.toList : Int) - 1) (by omega) hu2 (by omega))
     have h0 := atomAt_lt u.data.toList (alen u.data.toList - 1)
     clear n2
     generalize atomAt u.data.toList (alen u.data.toList - 1) = a0 at *
     go_wp2_with fail
     (with_reducible refine (T0.out).mono ?_)
     rintro e w3 ⟨rfl, k3⟩
     have K3 := Lib.hid (K2.out.trans k3)
     have I3 := Lib.hid (isOf1 w3 a0 5 5 rfl h0)
     clear k3 T0 K2
     generalize decide (a0 / 8192 = 5) = b2 at *
     go_wp2_with fail
     (with_reducible refine (I3.out).mono ?_)
     rintro e w4 ⟨rfl, rfl⟩
     go_wp2
     go_ret
     exact ⟨by rw [R1.out]; rfl, K3.out.alloc (.cells #[.int .i64 5] 3)⟩
    ·have e2 : decide (2 ≤ (alen u.data.toList : Int)) = false := decide_eq_false (by omega)
     have e3 : decide ((alen u.data.toList : Int) < 2) = true := decide_eq_true (by omega)
     have RF := Lib.hid (show res = false from by rw [R1.out, decide_eq_false n2]; rfl)
     clear n2
     go_wp2
     go_ret
     exact ⟨by rw [RF.out]; rfl, K2.out⟩
  have f5 : (kind == 5) = false := beq_eq_false_iff_ne.2 k5
  have RF := Lib.hid (show res = false from by rw [R.out]; unfold like1; rw [if_neg k1, if_neg k2, if_neg k3, if_neg k4, if_neg k5])
  clear k1 k2 k3 k4 k5 R
  go_wp2
  go_ret
  exact ⟨by rw [RF.out]; rfl, K0.out⟩
 ·have R2 := Lib.hid (show res = false from by
   rw [R.out]
   rcases fr with _ | ⟨a, _ | ⟨b, r⟩⟩
   ·rfl
   ·exact (h1 rfl).elim
   ·rfl)
  have e1 : ((fr.length : Int) != 1) = true := by rw [bne_iff_ne]; omega
  clear h1 R
  go_wp2
  go_ret
  exact ⟨by rw [R2.out]; rfl, K0.out⟩
theorem any_take {l : List ByteArray} {k : Nat} {x : ByteArray} (hx : l[k]? = some x) (p : ByteArray → Bool) : (l.take (k + 1)).all p = ((l.take k).all p && p x) := by
 rw [List.take_add_one, hx, List.all_append]; simp
def CheckRes (w : World) (b : Bool) (e : Ending) (w' : World) : Prop := (∃ k : Int, e = .returned (.int .i64 k) ∧ (k = 0 ↔ b = true)) ∧ Chg (fun _ => False) w w'
theorem checkRes_bad {w w' : World} {b : Bool} {k : Int} (hk : k ≠ 0) (hb : b = false) (hc : Chg (fun _ => False) w w') : CheckRes w b (.returned (.int .i64 k)) w' := ⟨⟨k, rfl, fun e => (hk e).elim, fun e => by rw [hb] at e; cases e⟩, hc⟩
theorem checkRes_ok {w w' : World} {b : Bool} (hb : b = true) (hc : Chg (fun _ => False) w w') : CheckRes w b (.returned (.int .i64 0)) w' := ⟨⟨0, rfl, fun _ => hb, fun _ => rfl⟩, hc⟩
set_option maxHeartbeats 8000000 in
set_option maxRecDepth 100000 in
/-- Check: 0 just where a certificate may be. -/
theorem check_any (w : World) (c : BCert) (sa : Option Addr) (sc : Nat) (G : Nat → Prop) (h : CertAt w (.slice sa c.fr.length sc) G c) :
  Calls Tryz.prog 53 #[certV c (.slice sa c.fr.length sc)] w (CheckRes w (certB c)) := by
 have k0 := chg_alloc (fun _ => False) w (.cells #[.int .i64 c.kind, .int .u16 (c.sg : Int), .string c.sp, .slice sa c.fr.length sc, .int .i64 c.f, .int .i64 c.t, .int .i64 c.n] 64)
 have OB := Lib.hid (obj_alloc_new w (.cells #[.int .i64 c.kind, .int .u16 (c.sg : Int), .string c.sp, .slice sa c.fr.length sc, .int .i64 c.f, .int .i64 c.t, .int .i64 c.n] 64))
 have K0 := Lib.hid k0
 have H0 := Lib.hid (h.chg k0 (fun _ _ e => e))
 have LK := Lib.hid (fun w1 (k : Chg (fun _ => False) w w1) (hm : mayB c.sp.data.toList = true) (hf : setB c.fr = true) => like_any w1 c sa sc G (h.chg k (fun _ _ e => e)) hm hf)
 have hsp := h.sp
 have hsg := h.sg
 have R := Lib.hid (show certB c = (decide (1 ≤ c.kind ∧ c.kind ≤ 7) && (formB c && (decide (c.f ≤ c.t) && (decide (∀ w ∈ c.fr, alen c.sp.data.toList ≤ alen w.data.toList) && likeB c)))) from rfl)
 have FB := Lib.hid (show formB c = (decide (c.sg / 8192 = 1) && (mayB c.sp.data.toList && (setB c.fr && (numB c.f && (numB c.t && numB c.n))))) from rfl)
 generalize certB c = res at *
 generalize formB c = fb at *
 generalize hlb : likeB c = lb at *
 obtain ⟨_, scap', eqn, hl0, _⟩ := h.set.at_
 cases eqn
 obtain ⟨kind, sg, sp, fr, f, t, n⟩ := c
 unfold certV at LK ⊢
 simp only at OB K0 H0 hsp hsg R FB LK hl0 ⊢
 unfold maxLen at hl0
 clear h k0 hlb
 have p0 := cell_of (o := 0) OB.out rfl
 go_enter Tryz.func53, Tryz.ntmps53
 by_cases k1 : kind < 1
 ·have e1 : decide (kind < 1) = true := decide_eq_true k1
  have RF := Lib.hid (show res = false from by rw [R.out, decide_eq_false (fun q => by omega)]; rfl)
  clear k1
  go_wp2
  go_ret
  exact checkRes_bad (by decide) RF.out K0.out
 have e1 : decide (kind < 1) = false := decide_eq_false k1
 by_cases k7 : 7 < kind
 ·have e2 : decide (7 < kind) = true := decide_eq_true k7
  have RF := Lib.hid (show res = false from by rw [R.out, decide_eq_false (fun q => by omega)]; rfl)
  clear k1 k7
  go_wp2
  go_ret
  exact checkRes_bad (by decide) RF.out K0.out
 have e2 : decide (7 < kind) = false := decide_eq_false k7
 have R := Lib.hid (show res = (fb && (decide (f ≤ t) && (decide (∀ w ∈ fr, alen sp.data.toList ≤ alen w.data.toList) && lb))) from by rw [R.out, decide_eq_true ⟨by omega, by omega⟩]; rfl)
 clear k1 k7
 have P := Lib.hid (fun w1 (k : Chg (fun _ => False) (w.alloc (.cells #[.int .i64 kind, .int .u16 (sg : Int), .string sp, .slice sa fr.length sc, .int .i64 f, .int .i64 t, .int .i64 n] 64)) w1) => k.obj (fun e => e) OB.out)
 have p1 := cell_of (o := 1) OB.out rfl
 have I1 := Lib.hid (isOf1 (w.alloc (.cells #[.int .i64 kind, .int .u16 (sg : Int), .string sp, .slice sa fr.length sc, .int .i64 f, .int .i64 t, .int .i64 n] 64)) sg 1 1 rfl hsg)
 have I1 := I1.out
 simp only [World.size_alloc] at I1
 have I1 := Lib.hid I1
 generalize decide (sg / 8192 = 1) = b1 at *
 go_wp2_with fail
 generalize hw0 : w.alloc (.cells #[.int .i64 kind, .int .u16 (sg : Int), .string sp, .slice sa fr.length sc, .int .i64 f, .int .i64 t, .int .i64 n] 64) = w0 at *
 clear hw0 p0 p1
 (with_reducible refine (I1.out).mono ?_)
 rintro e w1 ⟨rfl, rfl⟩
 have k1 := chg_alloc (fun _ => False) w0 (.cells #[.int .i64 1] 3)
 have K1 := Lib.hid (K0.out.trans k1)
 have Q1 := Lib.hid k1
 have o1 := P.out _ k1
 have q2 := cell_of (o := 2) o1 rfl
 clear o1 k1 I1
 cases b1 with
 | false =>
  have RF := Lib.hid (show res = false from by rw [R.out, FB.out]; rfl)
  go_wp2
  go_ret
  exact checkRes_bad (by decide) RF.out K1.out
 | true =>
 rw [Bool.true_and] at FB
 have MY := Lib.hid (wmay_any (w0.alloc (.cells #[.int .i64 1] 3)) sp hsp)
 generalize hmy : mayB sp.data.toList = b2 at *
 go_wp2_with fail
 (with_reducible refine (MY.out).mono ?_)
 rintro e w2 ⟨rfl, k2⟩
 have K2 := Lib.hid (K1.out.trans k2)
 have Q2 := Lib.hid (Q1.out.trans k2)
 have o2 := P.out _ Q2.out
 have q3 := cell_of (o := 3) o2 rfl
 clear o2 k2 K1 Q1 MY q2
 cases b2 with
 | false =>
  have RF := Lib.hid (show res = false from by rw [R.out, FB.out]; rfl)
  go_wp2
  go_ret
  exact checkRes_bad (by decide) RF.out K2.out
 | true =>
 rw [Bool.true_and] at FB
 have SM := Lib.hid (setMay_any w2 _ G fr (H0.out.set.chg Q2.out (fun _ _ e => e)).at_)
 generalize hst : setB fr = b3 at *
 go_wp2_with fail
 (with_reducible refine (SM.out).mono ?_)
 rintro e w3 ⟨rfl, d3⟩
 have k3 : Chg (fun _ => False) w2 w3 := d3.chg
 have K3 := Lib.hid (K2.out.trans k3)
 have Q3 := Lib.hid (Q2.out.trans k3)
 have o3 := P.out _ Q3.out
 have q4 := cell_of (o := 4) o3 rfl
 have q5 := cell_of (o := 5) o3 rfl
 have q6 := cell_of (o := 6) o3 rfl
 clear o3 k3 d3 K2 Q2 SM q3
 cases b3 with
 | false =>
  have RF := Lib.hid (show res = false from by rw [R.out, FB.out]; rfl)
  go_wp2
  go_ret
  exact checkRes_bad (by decide) RF.out K3.out
 | true =>
 rw [Bool.true_and] at FB
 have NU := num_any (w3.alloc (.cells #[.int .i64 f, .int .i64 t, .int .i64 n] 2)) _ _ [f, t, n] (intsAt_lit w3 [f, t, n] 2 (by simp))
 rw [show [f, t, n].all numB = fb from by rw [FB.out]; simp] at NU
 change Calls Tryz.prog 84 #[.slice (some ⟨w3.heap.size, 0, none⟩) 3 3] (w3.alloc (.cells #[.int .i64 f, .int .i64 t, .int .i64 n] 2)) _ at NU
 have NU := Lib.hid NU
 have k4 := chg_alloc (fun _ => False) w3 (.cells #[.int .i64 f, .int .i64 t, .int .i64 n] 2)
 have K4 := Lib.hid (K3.out.trans k4)
 have Q4 := Lib.hid (Q3.out.trans k4)
 have o4 := P.out _ Q4.out
 have z4 := cell_of (o := 4) o4 rfl
 have z5 := cell_of (o := 5) o4 rfl
 clear o4 k4 FB
 go_wp2_with fail
 (with_reducible refine (NU.out).mono ?_)
 rintro e w4 ⟨rfl, rfl⟩
 clear NU q4 q5 q6 K3 Q3
 cases fb with
 | false =>
  have RF := Lib.hid (show res = false from by rw [R.out]; rfl)
  go_wp2
  go_ret
  exact checkRes_bad (by decide) RF.out K4.out
 | true =>
 rw [Bool.true_and] at R
 by_cases hft : f ≤ t
 ·rw [decide_eq_true hft, Bool.true_and] at R
  have e3 : decide (t < f) = false := decide_eq_false (by omega)
  clear hft
  generalize w3.alloc (.cells #[.int .i64 f, .int .i64 t, .int .i64 n] 2) = w4 at *
  have o4 := P.out _ Q4.out
  have y3 := cell_of (o := 3) o4 rfl
  clear o4
  go_wp2
  go_loopw [49] (fun iv wr => ∃ k : Nat, k ≤ fr.length ∧ iv = .int .i64 k ∧ Hid ((∀ (j : Nat) x, j < k → fr[j]? = some x → alen sp.data.toList ≤ alen x.data.toList) ∧ Chg (fun _ => False) w4 wr)) (fun iv _ => fr.length - (intOf iv).toNat)
  case atStart => exact ⟨0, by omega, rfl, Lib.hid ⟨fun j x hj => by omega, Chg.refl _ _⟩⟩
  case round =>
   obtain ⟨k, hk, rfl, HI⟩ := hrel
   have QI := Lib.hid (Q4.out.trans HI.out.2)
   have oi := P.out _ QI.out
   have x2 := cell_of (o := 2) oi rfl
   by_cases hlt : k < fr.length
   ·obtain ⟨x, hx⟩ : ∃ x, fr[k]? = some x := ⟨_, List.getElem?_eq_getElem hlt⟩
    obtain ⟨_, _, eqn, _, hcl⟩ := (H0.out.set.chg QI.out (fun _ _ e => e)).at_
    cases eqn
    obtain ⟨lb', lo, rfl, _, c0, hxs⟩ := hcl k x hx
    have L1 := Lib.hid (wlen_any wr sp hsp)
    have L2 := Lib.hid (wlen_any wr x hxs)
    clear hcl oi
    by_cases hle : alen sp.data.toList ≤ alen x.data.toList
    ·have HI2 := Lib.hid (show ∀ (j : Nat) y, j < k + 1 → fr[j]? = some y → alen sp.data.toList ≤ alen y.data.toList from fun j y hj hy => by
      rcases Nat.lt_or_ge j k with q | q
      ·exact HI.out.1 j y q hy
      ·obtain rfl : j = k := by omega
       rw [hx] at hy; cases hy; exact hle)
     have KI := Lib.hid HI.out.2
     have g1 : decide ((alen x.data.toList : Int) < (alen sp.data.toList : Int)) = false := decide_eq_false (by omega)
     have g2 : decide (alen x.data.toList < alen sp.data.toList) = false := decide_eq_false (by omega)
     clear hx HI hle hxs
     generalize alen sp.data.toList = m1 at *
     generalize alen x.data.toList = m2 at *
     go_wp2_with fail
     (with_reducible refine (L1.out).mono ?_)
     rintro e w5 ⟨rfl, rfl⟩
     go_wp2_with fail
     (with_reducible refine (L2.out).mono ?_)
     rintro e w5 ⟨rfl, rfl⟩
     go_wp2
     go_roundw
     case rel => exact ⟨k + 1, by omega, by go_num, Lib.hid ⟨HI2.out, KI.out⟩⟩
     case measure => simp [intOf]; omega
    ·have RF := Lib.hid (show res = false from by rw [R.out, decide_eq_false (fun q => hle (q x (List.mem_of_getElem? hx)))]; rfl)
     have KF := Lib.hid (K4.out.trans HI.out.2)
     have g1 : decide ((alen x.data.toList : Int) < (alen sp.data.toList : Int)) = true := decide_eq_true (by omega)
     have g2 : decide (alen x.data.toList < alen sp.data.toList) = true := decide_eq_true (by omega)
     clear hx HI hle hxs
     generalize alen sp.data.toList = m1 at *
     generalize alen x.data.toList = m2 at *
     go_wp2_with fail
     (with_reducible refine (L1.out).mono ?_)
     rintro e w5 ⟨rfl, rfl⟩
     go_wp2_with fail
     (with_reducible refine (L2.out).mono ?_)
     rintro e w5 ⟨rfl, rfl⟩
     go_wp2
     go_ret
     exact checkRes_bad (by decide) RF.out KF.out
   ·obtain rfl : k = fr.length := by omega
    have RL := Lib.hid (show res = lb from by
     rw [R.out, decide_eq_true (fun x hx => by
      obtain ⟨j, hj⟩ := List.mem_iff_getElem?.1 hx
      exact HI.out.1 j x (List.getElem?_eq_some_iff.1 hj).1 hj)]
     rfl)
    have KF := Lib.hid (K4.out.trans HI.out.2)
    have LI := Lib.hid (LK.out wr KF.out (by first | trivial | rfl) (by first | trivial | rfl))
    have x0 := cell_of (o := 0) oi rfl
    have x1 := cell_of (o := 1) oi rfl
    have x3 := cell_of (o := 3) oi rfl
    have x4 := cell_of (o := 4) oi rfl
    have x5 := cell_of (o := 5) oi rfl
    have x6 := cell_of (o := 6) oi rfl
    clear oi HI LK R
    go_wp2_with fail
    (with_reducible refine (LI.out).mono ?_)
    rintro e w6 ⟨rfl, k6⟩
    have K6 := Lib.hid (KF.out.trans k6)
    clear k6 LI KF
    cases lb with
    | false =>
     go_wp2
     go_ret
     exact checkRes_bad (by decide) RL.out K6.out
    | true =>
     go_wp2
     go_ret
     exact checkRes_ok RL.out K6.out
 ·have e3 : decide (t < f) = true := decide_eq_true (by omega)
  have RF := Lib.hid (show res = false from by rw [R.out, decide_eq_false hft]; rfl)
  clear hft
  go_wp2
  go_ret
  exact checkRes_bad (by decide) RF.out K4.out
end Go.Proofs.YthdfplafihmejaaGreat
