/-
  The reference's Kind, single, num and like.
-/
import Derived.Test.YtdgmjablkdemmaaGreatDPlain
import Derived.Test.YtdgmjablkdemmaaGreatSSetQ
import Derived.Test.YtdgmjablkdemmaaGreatAMRight
namespace Go.Proofs.YtdgmjablkdemmaaGreat
open Go.RowKit Go.Maps

theorem rkind_any (w : World) (a : Nat) (ha : a < 65536) : Calls Tryz.prog 66 #[.int .u16 (a : Int)] w fun e w' => e = .returned (.int .i64 ((a / 8192 : Nat) : Int)) ∧ w = w' := by
  have e1 : IntKind.i64.wrap (a : Int) = (a : Int) := by rw [IntKind.wrap_i64]; omega
  have e2 : IntKind.i64.wrap ((a : Int) % 8192) = (a : Int) % 8192 := by rw [IntKind.wrap_i64]; omega
  have e3 : IntKind.i64.wrap ((a : Int) - (a : Int) % 8192) = (a : Int) - (a : Int) % 8192 := by rw [IntKind.wrap_i64]; omega
  have e4 : ((a : Int) - (a : Int) % 8192) / 8192 = ((a / 8192 : Nat) : Int) := by omega
  go_enter Tryz.func66, Tryz.ntmps66
  go_wp2
  go_ret
  exact ⟨by rw [← e4]; rfl, rfl⟩
set_option maxRecDepth 100000 in
theorem rsingle_any (w : World) (s : ByteArray) (hs : s.size ≤ 140737488355328) : Calls Tryz.prog 90 #[.string s] w fun e w' => e = .returned (.int .i64 (singleI s)) ∧ Chg (fun _ => False) w w' := by
  have ATS := Lib.hid (ratoms_any w s hs)
  have AL := atoms_length s.data.toList
  have AG := Lib.hid (fun (h : 0 < alen s.data.toList) => atoms_get s.data.toList h)
  have hlt := atomAt_lt s.data.toList 0
  have RK := Lib.hid (fun w => rkind_any w (atomAt s.data.toList 0) hlt)
  have R := Lib.hid (show singleI s = if alen s.data.toList = 1 then ((atomAt s.data.toList 0 / 8192 : Nat) : Int) else -1 from rfl)
  rw [AL] at ATS
  clear AL
  generalize singleI s = res at *
  generalize atomAt s.data.toList 0 = a0 at *
  generalize alen s.data.toList = n at *
  generalize atoms s.data.toList = A at *
  go_enter Tryz.func90, Tryz.ntmps90
  go_wp2_with fail
  (with_reducible refine (ATS.out).mono ?_)
  rintro e w1 ⟨v1, rfl, o1, k1⟩
  obtain ⟨ua, uc, rfl⟩ := own_shape o1
  have K1 := Lib.hid k1
  by_cases h1 : n = 1
  · subst h1
    obtain ⟨g, rfl⟩ := own_some o1 (by omega)
    have y0 : w1.cell? ⟨g, 0, none⟩ = some (.int .u16 (a0 : Int)) := by
      rw [o1.cellAt 0 (by omega), acells_get, AG.out (by omega)]; rfl
    have R1 := Lib.hid (show res = ((a0 / 8192 : Nat) : Int) from R.out)
    clear o1 k1 ATS AG R
    go_wp2_with fail
    (with_reducible refine (RK.out _).mono ?_)
    rintro e w2 ⟨rfl, rfl⟩
    go_wp2
    go_ret
    exact ⟨by rw [R1.out]; rfl, K1.out⟩
  · have g1 : ((n : Int) != 1) = true := by rw [bne_iff_ne]; omega
    have g2 : ((n : Int) == 1) = false := by rw [beq_eq_false_iff_ne]; omega
    have R1 := Lib.hid (show res = -1 by rw [R.out, if_neg h1])
    clear o1 k1 ATS AG R h1
    go_wp2
    go_ret
    exact ⟨by rw [R1.out]; rfl, K1.out⟩
theorem rnum_any (w : World) (n : Int) : Calls Tryz.prog 69 #[.int .i64 n] w fun e w' => e = .returned (.bool (numB n)) ∧ w = w' := by
  have R := Lib.hid (show numB n = (decide (0 ≤ n) && decide (n ≤ 4611686018427387904)) by unfold numB; rw [Bool.eq_iff_iff]; simp)
  generalize numB n = res at *
  by_cases h0 : 0 ≤ n
  · have g0 : decide (0 ≤ n) = true := decide_eq_true h0
    have g1 : decide (n < 0) = false := decide_eq_false (by omega)
    by_cases h1 : n ≤ 4611686018427387904
    · have g2 : decide (n ≤ 4611686018427387904) = true := decide_eq_true h1
      have g3 : decide (4611686018427387904 < n) = false := decide_eq_false (by omega)
      have R1 := Lib.hid (show res = true by rw [R.out, g0, g2]; rfl)
      clear h0 h1 R
      go_enter Tryz.func69, Tryz.ntmps69
      go_wp2
      go_ret
      exact ⟨by rw [R1.out]; rfl, rfl⟩
    · have g2 : decide (n ≤ 4611686018427387904) = false := decide_eq_false h1
      have g3 : decide (4611686018427387904 < n) = true := decide_eq_true (by omega)
      have R1 := Lib.hid (show res = false by rw [R.out, g0, g2]; rfl)
      clear h0 h1 R
      go_enter Tryz.func69, Tryz.ntmps69
      go_wp2
      go_ret
      exact ⟨by rw [R1.out]; rfl, rfl⟩
  · have g0 : decide (0 ≤ n) = false := decide_eq_false h0
    have g1 : decide (n < 0) = true := decide_eq_true (by omega)
    have R1 := Lib.hid (show res = false by rw [R.out, g0]; rfl)
    clear h0 R
    go_enter Tryz.func69, Tryz.ntmps69
    go_wp2
    go_ret
    exact ⟨by rw [R1.out]; rfl, rfl⟩
theorem own_litD {w : World} {e : TypeId} {size n : Nat} {xs : List Value} (hl : xs.length = n * size) (hn : n ≤ maxLen) : (w.alloc (.cells xs.toArray e)).ownsRow w.heap.size e size (.slice (some ⟨w.heap.size, 0, none⟩) n n) n xs :=
  ⟨hl, .inr ⟨w.heap.size, n, xs.toArray, rfl, Nat.le_refl _, obj_alloc_new _ _, Nat.le_refl _, hn, by simpa using hl, by simp [← hl]⟩⟩
set_option maxHeartbeats 8000000 in
set_option maxRecDepth 100000 in
theorem rlike_any (w : World) (c : BCert) (sa : Option Addr) (sc : Nat) (G : Nat → Prop) (h : CertAt w (.slice sa c.fr.length sc) G c) (hk1 : 1 ≤ c.kind) (hk7 : c.kind ≤ 7) (hm : mayB c.sp.data.toList = true) (hfr : setB c.fr = true) :
    Calls Tryz.prog 70 #[certV c (.slice sa c.fr.length sc)] w fun e w' => e = .returned (.bool (likeB c)) ∧ Chg (fun _ => False) w w' := by
  have hfl : 1 ≤ c.fr.length ∧ c.fr.length ≤ 16 := by
    obtain ⟨q1, q2, _⟩ := of_decide_eq_true hfr
    rw [lists_len] at q1 q2
    exact ⟨q1, q2⟩
  obtain ⟨u, hu⟩ : ∃ u, c.fr[0]? = some u := ⟨_, List.getElem?_eq_getElem (by omega)⟩
  have hum := setB_mayC hfr (List.mem_of_getElem? hu)
  obtain ⟨_, hn1, hn8, _⟩ := (mayB_iff _).1 hum
  obtain ⟨hev, _, hs8, _⟩ := (mayB_iff _).1 hm
  have hsp := (may_size hm).1
  have hus := (may_size hum).1
  have hsg := h.sg
  have R := Lib.hid (likeB_ref hk1 hk7 hu hum h.sg)
  have DR := Lib.hid (fun (out : List ByteArray) (h2 : 2 ≤ alen c.sp.data.toList) (q : RightI [c.sp, toldW c.sp] out) (q2 : ∀ x ∈ [c.sp, toldW c.sp], x ∈ out) => delB_right (c := c) h2 hfr q q2)
  have DF := Lib.hid (show ¬ 2 ≤ alen c.sp.data.toList → delB c = false from fun q => by unfold delB; rw [decide_eq_false q]; rfl)
  have TM := Lib.hid (may_size (told_may hm)).1
  have TD := told_of (sp := c.sp) hev
  have ATU := Lib.hid (fun w => ratoms_any w u (by omega))
  have ATS := Lib.hid (fun w => ratoms_any w c.sp (by omega))
  have AG0 := Lib.hid (fun (h : 0 < alen u.data.toList) => atoms_get u.data.toList h)
  have AGL := Lib.hid (fun (h : alen u.data.toList - 1 < alen u.data.toList) => atoms_get u.data.toList h)
  rw [atoms_length] at ATU ATS
  have LTS := Lib.hid (fun a (h : a ∈ atoms c.sp.data.toList) => atoms_lt h)
  have ALS := Lib.hid (atoms_length c.sp.data.toList)
  have RK0 := Lib.hid (fun w => rkind_any w (atomAt u.data.toList 0) (atomAt_lt _ _))
  have RKL := Lib.hid (fun w => rkind_any w (atomAt u.data.toList (alen u.data.toList - 1)) (atomAt_lt _ _))
  have RS := Lib.hid (fun w => rsingle_any w c.sp (by omega))
  obtain ⟨kind, sg, sp, fr, f, t, num⟩ := c
  simp only at hu hsp hsg R DR DF TM TD ATS LTS ALS RS hfl hs8
  have HS := Lib.hid h.set.at_
  simp only at HS
  obtain ⟨_, _, eqn, _, hcl⟩ := HS.out
  cases eqn
  obtain ⟨lb, lo, rfl, _, c0', _⟩ := hcl 0 u hu
  have k0 := chg_alloc (fun _ => False) w (.cells #[.int .i64 kind, .int .u16 (sg : Int), .string sp, .slice (some ⟨lb, lo, none⟩) fr.length sc, .int .i64 f, .int .i64 t, .int .i64 num] 34)
  have OB := Lib.hid (obj_alloc_new w (.cells #[.int .i64 kind, .int .u16 (sg : Int), .string sp, .slice (some ⟨lb, lo, none⟩) fr.length sc, .int .i64 f, .int .i64 t, .int .i64 num] 34))
  have K0 := Lib.hid k0
  have c0 := cell_chg k0 (fun e => e) c0'
  have HSB := Lib.hid (HS.out.chg k0 (fun _ _ e => e))
  simp only [Nat.add_zero] at c0
  unfold certV
  simp only
  clear hcl k0 h hm hfr hum hk1 hk7 HS c0' hev
  generalize likeB _ = res at *
  generalize delB _ = db at *
  generalize toldW sp = told at *
  generalize singleI sp = who at *
  generalize atomAt u.data.toList 0 = a0 at *
  generalize atomAt u.data.toList (alen u.data.toList - 1) = al at *
  obtain ⟨m, hnm⟩ : ∃ m, alen u.data.toList = m + 1 := ⟨alen u.data.toList - 1, by omega⟩
  have p0 := cell_of (o := 0) OB.out rfl
  have p2 := cell_of (o := 2) OB.out rfl
  have p3 := cell_of (o := 3) OB.out rfl
  go_enter Tryz.func70, Tryz.ntmps70
  go_wp2_with fail
  generalize hw0 : w.alloc (.cells #[.int .i64 kind, .int .u16 (sg : Int), .string sp, .slice (some ⟨lb, lo, none⟩) fr.length sc, .int .i64 f, .int .i64 t, .int .i64 num] 34) = w0 at *
  clear hw0
  (with_reducible refine (ATU.out w0).mono ?_)
  rintro e w1 ⟨v1, rfl, o1, k1⟩
  obtain ⟨ua, uc, rfl⟩ := own_shape o1
  obtain ⟨g, rfl⟩ := own_some o1 (by omega)
  have y0 : w1.cell? ⟨g, 0, none⟩ = some (.int .u16 (a0 : Int)) := by
    rw [o1.cellAt 0 (by omega), acells_get, AG0.out (by omega)]; rfl
  have yl : w1.cell? ⟨g, m, none⟩ = some (.int .u16 (al : Int)) := by
    have AGM := AGL.out (by omega)
    rw [show alen u.data.toList - 1 = m by omega] at AGM
    rw [o1.cellAt m (by omega), acells_get, AGM]; rfl
  generalize alen u.data.toList = n at *
  have g1 : IntKind.i64.wrap ((n : Int) - 1) = (m : Int) := by rw [IntKind.wrap_i64]; omega
  have hmn : m < n := by omega
  have h0n : 0 < n := by omega
  clear hnm
  generalize hkl : al / 8192 = kl at *
  generalize hk0 : a0 / 8192 = k0 at *
  clear hkl hk0
  have p2' := cell_chg k1 (fun e => e) p2
  clear ATU AG0 AGL o1
  go_wp2_with fail
  (with_reducible refine (RKL.out _).mono ?_)
  rintro e w2 ⟨rfl, rfl⟩
  go_wp2_with fail
  (with_reducible refine (RS.out _).mono ?_)
  rintro e w3 ⟨rfl, k3⟩
  have k13 := k1.trans k3
  have K3 := Lib.hid (K0.out.trans k13)
  have O3 := Lib.hid (k13.obj (fun e => e) OB.out)
  have q0 := cell_of (o := 0) O3.out rfl
  have q1 := cell_of (o := 1) O3.out rfl
  have q2 := cell_of (o := 2) O3.out rfl
  have q3 := cell_of (o := 3) O3.out rfl
  have c3 := cell_chg k13 (fun e => e) c0
  have x0 := cell_chg k3 (fun e => e) y0
  have H3 := Lib.hid (HSB.out.chg k13 (fun _ _ e => e))
  clear OB K0 HSB k1 k3 k13 p0 p2 p3 p2' c0 y0 yl RKL RS hmn g1
  by_cases k1 : kind = 1
  · subst k1
    have R1 := Lib.hid (show res = (decide (fr.length = 1) && (decide (who = 1) && (decide (n = 2) && (decide (k0 = 3) && decide (kl = 5))))) from R.out)
    clear R ATS DR DF
    have E1 : ((fr.length : Int) == 1) = decide (fr.length = 1) := by rw [Bool.eq_iff_iff, beq_iff_eq, decide_eq_true_iff]; omega
    have W1 : (who == 1) = decide (who = 1) := by rw [Bool.eq_iff_iff, beq_iff_eq, decide_eq_true_iff]
    have N2 : ((n : Int) == 2) = decide (n = 2) := by rw [Bool.eq_iff_iff, beq_iff_eq, decide_eq_true_iff]; omega
    have KL5 : ((kl : Int) == 5) = decide (kl = 5) := by rw [Bool.eq_iff_iff, beq_iff_eq, decide_eq_true_iff]; omega
    have K03 : ((k0 : Int) == 3) = decide (k0 = 3) := by rw [Bool.eq_iff_iff, beq_iff_eq, decide_eq_true_iff]; omega
    generalize decide (fr.length = 1) = b1 at *
    generalize decide (who = 1) = b2 at *
    generalize decide (n = 2) = b3 at *
    generalize decide (k0 = 3) = b4 at *
    generalize decide (kl = 5) = b5 at *
    cases b1 with
    | false =>
      go_wp2
      go_ret
      exact ⟨by rw [R1.out]; rfl, K3.out⟩
    | true =>
      cases b2 with
      | false =>
        go_wp2
        go_ret
        exact ⟨by rw [R1.out]; rfl, K3.out⟩
      | true =>
        cases b3 with
        | false =>
          go_wp2
          go_ret
          exact ⟨by rw [R1.out]; rfl, K3.out⟩
        | true =>
          go_wp2_with fail
          (with_reducible refine (RK0.out _).mono ?_)
          rintro e w4 ⟨rfl, rfl⟩
          cases b4 with
          | false =>
            go_wp2
            go_ret
            exact ⟨by rw [R1.out]; rfl, K3.out⟩
          | true =>
            cases b5 with
            | false =>
              go_wp2
              go_ret
              exact ⟨by rw [R1.out]; rfl, K3.out⟩
            | true =>
              go_wp2
              go_ret
              exact ⟨by rw [R1.out]; rfl, K3.out⟩
  have f1 : (kind == 1) = false := beq_eq_false_iff_ne.2 k1
  by_cases k2 : kind = 2
  · subst k2
    have R1 := Lib.hid (show res = (decide (fr.length = 1) && (decide (who = 1) && (decide (n = 1) && decide (a0 = sg)))) from R.out)
    clear R ATS DR DF
    have E1 : ((fr.length : Int) == 1) = decide (fr.length = 1) := by rw [Bool.eq_iff_iff, beq_iff_eq, decide_eq_true_iff]; omega
    have W1 : (who == 1) = decide (who = 1) := by rw [Bool.eq_iff_iff, beq_iff_eq, decide_eq_true_iff]
    have N1 : ((n : Int) == 1) = decide (n = 1) := by rw [Bool.eq_iff_iff, beq_iff_eq, decide_eq_true_iff]; omega
    have A0 : ((a0 : Int) == (sg : Int)) = decide (a0 = sg) := by rw [Bool.eq_iff_iff, beq_iff_eq, decide_eq_true_iff]; omega
    generalize decide (fr.length = 1) = b1 at *
    generalize decide (who = 1) = b2 at *
    generalize decide (n = 1) = b3 at *
    generalize decide (a0 = sg) = b4 at *
    cases b1 with
    | false =>
      go_wp2_with fail
      go_quiet (fail)
      rename_i nq
      have KQ := Lib.hid (K3.out.trans (show Drawn w3 (w3.drewN nq) from ⟨nq, rfl⟩).chg)
      go_wp2
      go_ret
      exact ⟨by rw [R1.out]; rfl, KQ.out⟩
    | true =>
      cases b2 with
      | false =>
        go_wp2_with fail
        go_quiet (fail)
        rename_i nq
        have KQ := Lib.hid (K3.out.trans (show Drawn w3 (w3.drewN nq) from ⟨nq, rfl⟩).chg)
        go_wp2
        go_ret
        exact ⟨by rw [R1.out]; rfl, KQ.out⟩
      | true =>
        cases b3 with
        | false =>
          go_wp2_with fail
          go_quiet (fail)
          rename_i nq
          have KQ := Lib.hid (K3.out.trans (show Drawn w3 (w3.drewN nq) from ⟨nq, rfl⟩).chg)
          go_wp2
          go_ret
          exact ⟨by rw [R1.out]; rfl, KQ.out⟩
        | true =>
          cases b4 with
          | false =>
            go_wp2_with fail
            go_quiet (fail)
            rename_i nq
            have KQ := Lib.hid (K3.out.trans (show Drawn w3 (w3.drewN nq) from ⟨nq, rfl⟩).chg)
            go_wp2
            go_ret
            exact ⟨by rw [R1.out]; rfl, KQ.out⟩
          | true =>
            go_wp2_with fail
            go_quiet (fail)
            rename_i nq
            have KQ := Lib.hid (K3.out.trans (show Drawn w3 (w3.drewN nq) from ⟨nq, rfl⟩).chg)
            go_wp2
            go_ret
            exact ⟨by rw [R1.out]; rfl, KQ.out⟩
  have f2 : (kind == 2) = false := beq_eq_false_iff_ne.2 k2
  by_cases k3 : kind = 3
  · subst k3
    have R1 := Lib.hid (show res = (decide (fr.length = 1) && decide (who = 2)) from R.out)
    clear R ATS DR DF
    have E1 : ((fr.length : Int) == 1) = decide (fr.length = 1) := by rw [Bool.eq_iff_iff, beq_iff_eq, decide_eq_true_iff]; omega
    have W2 : (who == 2) = decide (who = 2) := by rw [Bool.eq_iff_iff, beq_iff_eq, decide_eq_true_iff]
    generalize decide (fr.length = 1) = b1 at *
    generalize decide (who = 2) = b2 at *
    cases b1 with
    | false =>
      go_wp2
      go_ret
      exact ⟨by rw [R1.out]; rfl, K3.out⟩
    | true =>
      cases b2 with
      | false =>
        go_wp2
        go_ret
        exact ⟨by rw [R1.out]; rfl, K3.out⟩
      | true =>
        go_wp2
        go_ret
        exact ⟨by rw [R1.out]; rfl, K3.out⟩
  have f3 : (kind == 3) = false := beq_eq_false_iff_ne.2 k3
  by_cases k4 : kind = 4
  · subst k4
    have R1 := Lib.hid (show res = (decide (fr.length = 1) && (decide (who = 3) && (decide (n = 1) && decide (kl = 4)))) from R.out)
    clear R ATS DR DF
    have E1 : ((fr.length : Int) == 1) = decide (fr.length = 1) := by rw [Bool.eq_iff_iff, beq_iff_eq, decide_eq_true_iff]; omega
    have W3 : (who == 3) = decide (who = 3) := by rw [Bool.eq_iff_iff, beq_iff_eq, decide_eq_true_iff]
    have N1 : ((n : Int) == 1) = decide (n = 1) := by rw [Bool.eq_iff_iff, beq_iff_eq, decide_eq_true_iff]; omega
    have KL4 : ((kl : Int) == 4) = decide (kl = 4) := by rw [Bool.eq_iff_iff, beq_iff_eq, decide_eq_true_iff]; omega
    generalize decide (fr.length = 1) = b1 at *
    generalize decide (who = 3) = b2 at *
    generalize decide (n = 1) = b3 at *
    generalize decide (kl = 4) = b4 at *
    cases b1 with
    | false =>
      go_wp2
      go_ret
      exact ⟨by rw [R1.out]; rfl, K3.out⟩
    | true =>
      cases b2 with
      | false =>
        go_wp2
        go_ret
        exact ⟨by rw [R1.out]; rfl, K3.out⟩
      | true =>
        cases b3 with
        | false =>
          go_wp2
          go_ret
          exact ⟨by rw [R1.out]; rfl, K3.out⟩
        | true =>
          cases b4 with
          | false =>
            go_wp2
            go_ret
            exact ⟨by rw [R1.out]; rfl, K3.out⟩
          | true =>
            go_wp2
            go_ret
            exact ⟨by rw [R1.out]; rfl, K3.out⟩
  have f4 : (kind == 4) = false := beq_eq_false_iff_ne.2 k4
  by_cases k5 : kind = 5
  · subst k5
    have R1 := Lib.hid (show res = (decide (fr.length = 1) && ((decide (who = 1) || decide (who = 2)) && (decide (1 < n) && decide (kl = 5)))) from R.out)
    clear R ATS DR DF
    have E1 : ((fr.length : Int) == 1) = decide (fr.length = 1) := by rw [Bool.eq_iff_iff, beq_iff_eq, decide_eq_true_iff]; omega
    have W1 : (who == 1) = decide (who = 1) := by rw [Bool.eq_iff_iff, beq_iff_eq, decide_eq_true_iff]
    have W2 : (who == 2) = decide (who = 2) := by rw [Bool.eq_iff_iff, beq_iff_eq, decide_eq_true_iff]
    have KL5 : ((kl : Int) == 5) = decide (kl = 5) := by rw [Bool.eq_iff_iff, beq_iff_eq, decide_eq_true_iff]; omega
    have NG : decide ((1 : Int) < (n : Int)) = decide (1 < n) := by rw [decide_eq_decide]; omega
    generalize decide (fr.length = 1) = b1 at *
    generalize decide (who = 1) = b2 at *
    generalize decide (who = 2) = b3 at *
    generalize decide (1 < n) = b4 at *
    generalize decide (kl = 5) = b5 at *
    cases b1 with
    | false =>
      go_wp2
      go_ret
      exact ⟨by rw [R1.out]; rfl, K3.out⟩
    | true =>
      cases b2 with
      | true =>
        cases b4 with
        | false =>
          go_wp2
          go_ret
          exact ⟨by rw [R1.out]; rfl, K3.out⟩
        | true =>
          cases b5 with
          | false =>
            go_wp2
            go_ret
            exact ⟨by rw [R1.out]; rfl, K3.out⟩
          | true =>
            go_wp2
            go_ret
            exact ⟨by rw [R1.out]; rfl, K3.out⟩
      | false =>
        cases b3 with
        | false =>
          go_wp2
          go_ret
          exact ⟨by rw [R1.out]; rfl, K3.out⟩
        | true =>
          cases b4 with
          | false =>
            go_wp2
            go_ret
            exact ⟨by rw [R1.out]; rfl, K3.out⟩
          | true =>
            cases b5 with
            | false =>
              go_wp2
              go_ret
              exact ⟨by rw [R1.out]; rfl, K3.out⟩
            | true =>
              go_wp2
              go_ret
              exact ⟨by rw [R1.out]; rfl, K3.out⟩
  have f5 : (kind == 5) = false := beq_eq_false_iff_ne.2 k5
  by_cases k7 : kind = 7
  · subst k7
    have R1 := Lib.hid (show res = db from R.out)
    clear R
    have A7 := Lib.hid (ATS.out w3)
    go_wp2_with fail
    (with_reducible refine (A7.out).mono ?_)
    rintro e w4 ⟨v4, rfl, o4, k4⟩
    obtain ⟨xa, xc, rfl⟩ := own_shape o4
    by_cases h2 : 2 ≤ alen sp.data.toList
    rotate_left
    · have g7 : decide ((alen sp.data.toList : Int) < 2) = true := decide_eq_true (by omega)
      have R2 := Lib.hid (show res = false by rw [R1.out, DF.out h2])
      have K4 := Lib.hid (K3.out.trans k4)
      clear o4 k4 DF DR R1 A7 ATS h2
      go_wp2
      go_ret
      exact ⟨by rw [R2.out]; rfl, K4.out⟩
    obtain ⟨g4, rfl⟩ := own_some o4 (by omega)
    have g7 : decide ((alen sp.data.toList : Int) < 2) = false := decide_eq_false (by omega)
    have hxc : alen sp.data.toList ≤ xc := by
      obtain ⟨_, ⟨q, _⟩ | ⟨g', c', cur, q, _, _, q1, q2, _⟩⟩ := o4
      · cases q
      · cases q; exact q1
    have hxm : xc ≤ maxLen := by
      obtain ⟨_, ⟨q, _⟩ | ⟨g', c', cur, q, _, _, q1, q2, _⟩⟩ := o4
      · cases q
      · cases q; exact q2
    unfold maxLen at hxm
    have O4 := Lib.hid o4
    have K4 := Lib.hid (K3.out.trans k4)
    have OB4 := Lib.hid (k4.obj (fun e => e) O3.out)
    have H4 := Lib.hid (H3.out.chg k4 (fun _ _ e => e))
    generalize atoms sp.data.toList = A at *
    generalize alen sp.data.toList = N at *
    have z0 : 1 ≠ xc := by omega
    have z1 : ¬ xc = 1 := by omega
    have z2 : 1 ≤ xc := by omega
    have z3 : 1 ≤ N := by omega
    have a1 : A.length = N := ALS.out
    have hg4 : g4 < w4.heap.size := (o4.lt g4 rfl).2
    have hl8 : N ≤ 8 := hs8
    clear o4 k4 DF A7 ATS
    go_wp2_with (at_builtin; refine wpList_pushS rfl (.tmp 134) (.tmp 136) 106 rfl 30 1 2 Tryz.underlying106 Tryz.elemAtom w4.heap.size _ 1 [.int .u16 1] rfl (own_litD rfl (by unfold maxLen; omega)) (some ⟨g4, 1, none⟩) (N - 1) (xc - 1) (acells (A.drop 1)) rfl ?a1 ?a2 ?a3 ?a4 ?a5 ?a6 ?a7 ?next)
    case a1 => unfold acells; rw [List.length_map, List.length_drop, a1]; omega
    case a2 =>
      intro j u hj
      rw [acells_get, List.getElem?_drop, ← acells_get] at hj
      refine ⟨g4, 1, rfl, ?_⟩
      have hjl := (List.getElem?_eq_some_iff.1 hj).1
      unfold acells at hjl
      rw [List.length_map, a1] at hjl
      refine cell_chg (chg_alloc (fun _ => False) w4 _) (fun e => e) ?_
      rw [O4.out.cellAt (1 + j) (by omega)]; exact hj
    case a3 => intro q; cases q
    case a4 => intro u hu; unfold acells at hu; rw [List.mem_map] at hu; obtain ⟨x, _, rfl⟩ := hu; rfl
    case a5 => omega
    case a6 => unfold maxLen; omega
    case a7 => rw [World.size_alloc]; omega
    intro v5 w5 o5 gr5
    have k5 : Chg (fun _ => False) w4 w5 := (chg_alloc (fun _ => False) w4 (.cells #[.int .u16 1] 30)).next (Chg.of_grown gr5) (fun x hx e => by
      have e2 : w4.heap.size = x := by simpa [Value.ownBlock] using e
      omega)
    obtain ⟨a5, c5, rfl⟩ := own_shape o5
    have e5 : Value.int .u16 1 :: acells A.tail = acells (1 :: A.tail) := by unfold acells; rfl
    rw [e5] at o5
    obtain ⟨g5, rfl⟩ := own_some o5 (by omega)
    have el : (1 :: A.tail).length = N := by rw [List.length_cons, List.length_tail, a1]; omega
    rw [List.drop_one] at TD
    have OF := Lib.hid (show ∀ w6, Chg (fun _ => False) w5 w6 → Calls Tryz.prog 38 #[.slice (some ⟨g5, 0, none⟩) N c5] w6 fun e w' => e = .returned (.string told) ∧ Chg (fun _ => False) w6 w' from fun w6 k6 => by
      have o6 := own_chg o5 k6 (fun _ _ e => e)
      have OF := rof_any w6 (some ⟨g5, 0, none⟩) c5 (1 :: A.tail) (by rw [el]; omega) (by rw [el]; omega) (fun j x hj => by
        refine ⟨?_, g5, 0, rfl, ?_⟩
        · rcases List.mem_cons.1 (List.mem_of_getElem? hj) with rfl | q
          · omega
          · exact LTS.out x (List.mem_of_mem_tail q)
        · have hjl := (List.getElem?_eq_some_iff.1 hj).1
          rw [Nat.zero_add, o6.cellAt j (by omega), acells_get, hj]; rfl)
      rwa [el, TD] at OF)
    have K5 := Lib.hid (K4.out.trans k5)
    have OB5 := Lib.hid (k5.obj (fun e => e) OB4.out)
    have H5 := Lib.hid (H4.out.chg k5 (fun _ _ e => e))
    have r2 : w5.cell? ⟨w.heap.size, 2, none⟩ = some (.string sp) := cell_of OB5.out rfl
    have r3 : w5.cell? ⟨w.heap.size, 3, none⟩ = some (.slice (some ⟨lb, lo, none⟩) fr.length sc) := cell_of OB5.out rfl
    clear o5 gr5 k5 K4 OB4 H4 O4 TD e5 LTS ALS q0 q1 q2 q3 x0 c3 RK0
    go_wp2_with fail
    refine wp_region_plan (N := 147) [.rd [0, 1, 2, 3, 4], .ef 5, .ef 6, .ef 7, .ef 8, .rd [9]] (fun W => W.cell? ⟨w.heap.size, 2, none⟩ = some (.string sp) ∧ W.cell? ⟨w.heap.size, 3, none⟩ = some (.slice (some ⟨lb, lo, none⟩) fr.length sc)) (by kernel_rfl) (by kernel_rfl) (by kernel_rfl) (by kernel_rfl) (Nat.le_of_ble_eq_true rfl) ⟨r2, r3⟩ ?_
    refine plan_rd (A := ?A1) ?h1 ?h2
    case h1 =>
      rintro w' ⟨z2, z3⟩ K hK
      simp only [opsAt, List.filterMap_cons, List.filterMap_nil, List.getElem?_toArray, List.getElem?_cons_succ, List.getElem?_cons_zero]
      refine WS.out ?_
      repeat (refine ws_step (fun K hK => ?_); go_simp; refine hK _ ?_; clear hK K)
      refine ws_nil ?_
      exact hK
    have D := chg_drew (fun _ => False) w5
    have OD := Lib.hid (D.obj (fun e => e) OB5.out)
    have HD := Lib.hid (H5.out.chg D (fun _ _ e => e))
    have KD := Lib.hid (K5.out.trans D)
    have OFD := Lib.hid (OF.out _ D)
    clear D r2 r3 OB5 H5 K5 OF
    generalize w5.drew = wd at *
    refine plan_ef rfl ?_
    go_wp2_with fail
    (with_reducible refine (OFD.out).mono ?_)
    rintro e w7 ⟨rfl, k7⟩
    have O7 := Lib.hid (k7.obj (fun e => e) OD.out)
    have H7 := Lib.hid (HD.out.chg k7 (fun _ _ e => e))
    have K7 := Lib.hid (KD.out.trans k7)
    clear k7 OD HD KD OFD
    go_wp2_with fail
    refine ⟨⟨cell_of O7.out rfl, cell_of O7.out rfl⟩, ?_⟩
    refine plan_ef rfl ?_
    go_wp2_with fail
    have kb := chg_alloc (fun _ => False) w7 (.cells #[.string sp, .string told] 23)
    have O8 := Lib.hid (kb.obj (fun e => e) O7.out)
    have H8 := Lib.hid (H7.out.chg kb (fun _ _ e => e))
    have K8 := Lib.hid (K7.out.trans kb)
    have RG := Lib.hid (right_any (w7.alloc (.cells #[.string sp, .string told] 23)) (.slice (some ⟨w7.heap.size, 0, none⟩) 2 2) (fun k => k = w7.heap.size) [sp, told] ⟨_, 2, rfl, by unfold maxLen; simp, fun j x hj => ⟨w7.heap.size, 0, rfl, rfl, by
      rw [Nat.zero_add]
      refine cell_of (obj_alloc_new _ _) ?_
      rcases j with _ | _ | j
      · simp at hj; subst hj; rfl
      · simp at hj; subst hj; rfl
      · simp at hj, by
      have hx := List.mem_of_getElem? hj
      have htm := TM.out
      unfold maxLen
      simp at hx
      rcases hx with rfl | rfl <;> omega⟩⟩ (by simp))
    clear kb O7 H7 K7
    refine ⟨⟨cell_of O8.out rfl, cell_of O8.out rfl⟩, ?_⟩
    refine plan_ef rfl ?_
    go_wp2_with fail
    (with_reducible refine (RG.out).mono ?_)
    rintro e w9 ⟨va, out, rfl, o9, ri, hall, k9⟩
    obtain ⟨oa, oc, rfl⟩ := own_shape o9
    have hw9 := setAt_own o9 (fun x hx => by
      have hx2 := ri.sub x hx
      have htm := TM.out
      unfold maxLen
      simp at hx2
      rcases hx2 with rfl | rfl <;> omega)
    have O9 := Lib.hid (k9.obj (fun e => e) O8.out)
    have K9 := Lib.hid (K8.out.trans k9)
    have EQ := requal_any w9 _ _ _ _ fr out (H8.out.chg k9 (fun _ _ e => e)) hw9.at_
    have R2 := Lib.hid (show res = sameB fr out by rw [R1.out, DR.out out h2 ri hall])
    have EQ := Lib.hid EQ
    clear k9 o9 hw9 ri hall RG O8 K8 H8 DR R1
    go_wp2_with fail
    refine ⟨⟨cell_of O9.out rfl, cell_of O9.out rfl⟩, ?_⟩
    refine plan_ef rfl ?_
    generalize sameB fr out = rs at *
    go_wp2_with fail
    (with_reducible refine (EQ.out).mono ?_)
    rintro e w10 ⟨rfl, d10⟩
    have kk10 : Chg (fun _ => False) w9 w10 := d10.chg
    have O10 := Lib.hid (kk10.obj (fun e => e) O9.out)
    have K10 := Lib.hid (K9.out.trans kk10)
    clear d10 kk10 O9 K9 EQ
    go_wp2_with fail
    refine ⟨⟨cell_of O10.out rfl, cell_of O10.out rfl⟩, ?_⟩
    refine plan_rd (A := ?A2) ?h3 ?h4
    case h3 =>
      rintro w' ⟨z2, z3⟩ K hK
      simp only [opsAt, List.filterMap_cons, List.filterMap_nil, List.getElem?_toArray, List.getElem?_cons_succ, List.getElem?_cons_zero]
      refine WS.out ?_
      repeat (refine ws_step (fun K hK => ?_); go_simp; refine hK _ ?_; clear hK K)
      refine ws_nil ?_
      exact hK
    refine plan_nil ?_
    go_wp2
    go_ret
    exact ⟨by rw [R2.out]; rfl, K10.out⟩
  have f7 : (kind == 7) = false := beq_eq_false_iff_ne.2 k7
  have R1 := Lib.hid (show res = true from by
    rw [R.out]; unfold rlikeB
    rw [if_neg k1, if_neg k2, if_neg k3, if_neg k4, if_neg k5, if_neg k7])
  clear R
  go_wp2
  go_ret
  exact ⟨by rw [R1.out]; rfl, K3.out⟩
end Go.Proofs.YtdgmjablkdemmaaGreat
