/-
  The reference's Check.
-/
import Derived.Test.YtdgmjablkdemmaaGreatDLike
import Derived.Test.YtdgmjablkdemmaaGreatCCheck
import Derived.Test.YtdgmjablkdemmaaGreatSSetR
namespace Go.Proofs.YtdgmjablkdemmaaGreat
open Go.RowKit Go.Maps

set_option maxHeartbeats 8000000 in
set_option maxRecDepth 100000 in
theorem rcheck_any (w : World) (c : BCert) (sa : Option Addr) (sc : Nat) (G : Nat → Prop) (h : CertAt w (.slice sa c.fr.length sc) G c) (hsz : c.sp.size ≤ 140737488355328) (hfs : Sizes c.fr) :
    Calls Tryz.prog 41 #[certV c (.slice sa c.fr.length sc)] w (CheckRes w (certB c)) := by
  have hsg := h.sg
  have LK := Lib.hid (fun w1 (q : Chg (fun _ => False) w w1) (k1 : 1 ≤ c.kind) (k7 : c.kind ≤ 7) (hm : mayB c.sp.data.toList = true) (hf : setB c.fr = true) => rlike_any w1 c sa sc G (h.chg q (fun _ _ e => e)) k1 k7 hm hf)
  have LB := Lib.hid (fun (k : Nat) x (hx : c.fr[k]? = some x) (hlt : x.size < c.sp.size) (hm : mayB c.sp.data.toList = true) (hf : setB c.fr = true) => show decide (∀ w ∈ c.fr, alen c.sp.data.toList ≤ alen w.data.toList) = false from decide_eq_false (fun q => by
    have h1 := q x (List.mem_of_getElem? hx)
    have h2 := ((mayB_iff _).1 hm).1
    have h3 := ((mayB_iff _).1 (setB_mayC hf (List.mem_of_getElem? hx))).1
    unfold alen at h1
    rw [size_list] at h1 h2 h3
    rw [size_list] at h1
    omega))
  have LG := Lib.hid (fun (hall : ∀ (k : Nat) x, c.fr[k]? = some x → c.sp.size ≤ x.size) => show decide (∀ w ∈ c.fr, alen c.sp.data.toList ≤ alen w.data.toList) = true from decide_eq_true (fun x hx => by
    obtain ⟨j, hj⟩ := List.mem_iff_getElem?.1 hx
    have h1 := hall j x hj
    unfold alen
    rw [size_list, size_list]
    omega))
  have RM := Lib.hid (fun w => rmay_any w c.sp hsz)
  have SM := Lib.hid (fun w1 (q : Chg (fun _ => False) w w1) => rsetMay_any w1 _ G c.fr (h.set.at_.chg q (fun _ _ e => e)) hfs)
  have N1 := Lib.hid (fun w => rnum_any w c.f)
  have N2 := Lib.hid (fun w => rnum_any w c.t)
  have N3 := Lib.hid (fun w => rnum_any w c.n)
  have RK := Lib.hid (fun w => rkind_any w c.sg hsg)
  have HS := Lib.hid h.set.at_
  obtain ⟨_, scap', eqn, hl0, _⟩ := h.set.at_
  cases eqn
  have CB := Lib.hid (show certB c = (decide (1 ≤ c.kind ∧ c.kind ≤ 7) && ((decide (c.sg / 8192 = 1) && (mayB c.sp.data.toList && (setB c.fr && (numB c.f && (numB c.t && numB c.n))))) && (decide (c.f ≤ c.t) && (decide (∀ w ∈ c.fr, alen c.sp.data.toList ≤ alen w.data.toList) && likeB c)))) from rfl)
  generalize certB c = res at *
  generalize likeB c = lb at *
  generalize decide (∀ w ∈ c.fr, alen c.sp.data.toList ≤ alen w.data.toList) = b8 at *
  obtain ⟨kind, sg, sp, fr, f, t, num⟩ := c
  unfold certV at LK ⊢
  simp only at hsg LK LB LG RM SM N1 N2 N3 RK HS CB hl0 hsz hfs ⊢
  unfold maxLen at hl0
  generalize mayB sp.data.toList = b2 at *
  generalize setB fr = b3 at *
  generalize numB f = b4 at *
  generalize numB t = b5 at *
  generalize numB num = b6 at *
  generalize sg / 8192 = ks at *
  clear h
  have k0 := chg_alloc (fun _ => False) w (.cells #[.int .i64 kind, .int .u16 (sg : Int), .string sp, .slice sa fr.length sc, .int .i64 f, .int .i64 t, .int .i64 num] 34)
  have OB := Lib.hid (obj_alloc_new w (.cells #[.int .i64 kind, .int .u16 (sg : Int), .string sp, .slice sa fr.length sc, .int .i64 f, .int .i64 t, .int .i64 num] 34))
  have K0 := Lib.hid k0
  clear k0
  have p0 := cell_of (o := 0) OB.out rfl
  have p1 := cell_of (o := 1) OB.out rfl
  go_enter Tryz.func41, Tryz.ntmps41
  by_cases hk1 : 1 ≤ kind
  rotate_left
  · have g1 : decide (kind < 1) = true := decide_eq_true (by omega)
    have RF := Lib.hid (show res = false by rw [CB.out, decide_eq_false (by omega)]; rfl)
    clear hk1
    go_wp2
    go_ret
    exact checkRes_bad (by decide) RF.out K0.out
  have g1 : decide (kind < 1) = false := decide_eq_false (by omega)
  by_cases hk7 : kind ≤ 7
  rotate_left
  · have g2 : decide (7 < kind) = true := decide_eq_true (by omega)
    have RF := Lib.hid (show res = false by rw [CB.out, decide_eq_false (by omega)]; rfl)
    clear hk7 hk1
    go_wp2
    go_ret
    exact checkRes_bad (by decide) RF.out K0.out
  have g2 : decide (7 < kind) = false := decide_eq_false (by omega)
  rw [decide_eq_true ⟨hk1, hk7⟩, Bool.true_and] at CB
  have HK1 := Lib.hid hk1
  have HK7 := Lib.hid hk7
  clear hk1 hk7
  go_wp2_with fail
  (with_reducible refine (RK.out _).mono ?_)
  rintro e w1 ⟨rfl, rfl⟩
  clear RK
  by_cases hks : ks = 1
  rotate_left
  · have g3 : ((ks : Int) != 1) = true := by rw [bne_iff_ne]; omega
    have g4 : ((ks : Int) == 1) = false := by rw [beq_eq_false_iff_ne]; omega
    have RF := Lib.hid (show res = false by rw [CB.out, decide_eq_false hks]; rfl)
    clear hks
    go_wp2
    go_ret
    exact checkRes_bad (by decide) RF.out K0.out
  rw [decide_eq_true hks, Bool.true_and] at CB
  have g3 : ((ks : Int) != 1) = false := by rw [bne_eq_false_iff_eq]; omega
  have g4 : ((ks : Int) == 1) = true := by rw [beq_iff_eq]; omega
  have p2 := cell_of (o := 2) OB.out rfl
  have M1 := Lib.hid (RM.out (w.alloc (.cells #[.int .i64 kind, .int .u16 (sg : Int), .string sp, .slice sa fr.length sc, .int .i64 f, .int .i64 t, .int .i64 num] 34)))
  clear hks RM
  go_wp2_with fail
  generalize hw0 : w.alloc (.cells #[.int .i64 kind, .int .u16 (sg : Int), .string sp, .slice sa fr.length sc, .int .i64 f, .int .i64 t, .int .i64 num] 34) = w0 at *
  clear hw0
  (with_reducible refine (M1.out).mono ?_)
  rintro e w2 ⟨rfl, k2⟩
  have K2 := Lib.hid (K0.out.trans k2)
  have O2 := Lib.hid (k2.obj (fun e => e) OB.out)
  clear k2 OB K0 M1 p0 p1 p2
  have p3 := cell_of (o := 3) O2.out rfl
  cases b2 with
  | false =>
    have RF := Lib.hid (show res = false by rw [CB.out]; rfl)
    go_wp2
    go_ret
    exact checkRes_bad (by decide) RF.out K2.out
  | true =>
  rw [Bool.true_and] at CB
  have M2 := Lib.hid (SM.out w2 K2.out)
  clear SM
  go_wp2_with fail
  (with_reducible refine (M2.out).mono ?_)
  rintro e w3 ⟨rfl, k3⟩
  have K3 := Lib.hid (K2.out.trans k3)
  have O3 := Lib.hid (k3.obj (fun e => e) O2.out)
  clear k3 K2 O2 M2 p3
  have p4 := cell_of (o := 4) O3.out rfl
  have p5 := cell_of (o := 5) O3.out rfl
  have p6 := cell_of (o := 6) O3.out rfl
  cases b3 with
  | false =>
    have RF := Lib.hid (show res = false by rw [CB.out]; rfl)
    go_wp2
    go_ret
    exact checkRes_bad (by decide) RF.out K3.out
  | true =>
  rw [Bool.true_and] at CB
  go_wp2_with fail
  (with_reducible refine (N1.out _).mono ?_)
  rintro e w4 ⟨rfl, rfl⟩
  cases b4 with
  | false =>
    have RF := Lib.hid (show res = false by rw [CB.out]; rfl)
    go_wp2
    go_ret
    exact checkRes_bad (by decide) RF.out K3.out
  | true =>
  rw [Bool.true_and] at CB
  go_wp2_with fail
  (with_reducible refine (N2.out _).mono ?_)
  rintro e w4 ⟨rfl, rfl⟩
  cases b5 with
  | false =>
    have RF := Lib.hid (show res = false by rw [CB.out]; rfl)
    go_wp2
    go_ret
    exact checkRes_bad (by decide) RF.out K3.out
  | true =>
  rw [Bool.true_and] at CB
  go_wp2_with fail
  (with_reducible refine (N3.out _).mono ?_)
  rintro e w4 ⟨rfl, rfl⟩
  cases b6 with
  | false =>
    have RF := Lib.hid (show res = false by rw [CB.out]; rfl)
    go_wp2
    go_ret
    exact checkRes_bad (by decide) RF.out K3.out
  | true =>
  rw [Bool.true_and] at CB
  clear N1 N2 N3
  by_cases hft : f ≤ t
  rotate_left
  · have g5 : decide (t < f) = true := decide_eq_true (by omega)
    have RF := Lib.hid (show res = false by rw [CB.out, decide_eq_false hft]; rfl)
    clear hft
    go_wp2
    go_ret
    exact checkRes_bad (by decide) RF.out K3.out
  have g5 : decide (t < f) = false := decide_eq_false (by omega)
  rw [decide_eq_true hft, Bool.true_and] at CB
  clear hft
  go_wp2
  clear g1 g2 g3 g4 g5 p4 p5 p6
  go_loopw [3] (fun iv wr => ∃ k : Nat, k ≤ fr.length ∧ iv = .int .i64 k ∧ Hid ((∀ (j : Nat) y, j < k → fr[j]? = some y → sp.size ≤ y.size) ∧ Chg (fun _ => False) w3 wr)) (fun iv _ => fr.length - (intOf iv).toNat)
  case atStart => exact ⟨0, by omega, rfl, Lib.hid ⟨fun j y hj => by omega, Chg.refl _ _⟩⟩
  case round =>
    obtain ⟨k, hk, rfl, HI⟩ := hrel
    have OR := Lib.hid (HI.out.2.obj (fun e => e) O3.out)
    have KR := Lib.hid (K3.out.trans HI.out.2)
    have q2 := cell_of (o := 2) OR.out rfl
    have q3 := cell_of (o := 3) OR.out rfl
    by_cases hlt : k < fr.length
    · obtain ⟨x, hx⟩ : ∃ x, fr[k]? = some x := ⟨_, List.getElem?_eq_getElem hlt⟩
      obtain ⟨_, _, eqn, _, hcl⟩ := HS.out.chg KR.out (fun _ _ e => e)
      cases eqn
      obtain ⟨lb', lo, rfl, _, c0, hxs⟩ := hcl k x hx
      unfold maxLen at hxs
      clear hcl
      by_cases hle : sp.size ≤ x.size
      · have HI2 := Lib.hid (show ∀ (j : Nat) y, j < k + 1 → fr[j]? = some y → sp.size ≤ y.size from fun j y hj hy => by
          rcases Nat.lt_or_ge j k with q | q
          · exact HI.out.1 j y q hy
          · obtain rfl : j = k := by omega
            rw [hx] at hy; cases hy; exact hle)
        have KI := Lib.hid HI.out.2
        have g1 : decide ((x.size : Int) < (sp.size : Int)) = false := decide_eq_false (by omega)
        have g2 : decide (x.size < sp.size) = false := decide_eq_false (by omega)
        clear hx HI hle hxs LB
        go_wp2_with fail
        go_quiet (fail)
        rename_i nq
        have KQ := Lib.hid (KI.out.trans (show Chg (fun _ => False) wr (wr.drewN nq) from (show Drawn wr (wr.drewN nq) from ⟨nq, rfl⟩).chg))
        go_wp2
        go_roundw
        case rel => exact ⟨k + 1, by omega, by go_num, Lib.hid ⟨HI2.out, KQ.out⟩⟩
        case measure => simp [intOf]; omega
      · have RF := Lib.hid (show res = false from by rw [CB.out, LB.out k x hx (by omega) (by first | trivial | rfl) (by first | trivial | rfl)]; rfl)
        have g1 : decide ((x.size : Int) < (sp.size : Int)) = true := decide_eq_true (by omega)
        have g2 : decide (x.size < sp.size) = true := decide_eq_true (by omega)
        clear hx HI hle hxs LB
        go_wp2_with fail
        go_quiet (fail)
        rename_i nq
        have KQ := Lib.hid (KR.out.trans (show Chg (fun _ => False) wr (wr.drewN nq) from (show Drawn wr (wr.drewN nq) from ⟨nq, rfl⟩).chg))
        go_wp2
        go_ret
        exact checkRes_bad (by decide) RF.out KQ.out
    · obtain rfl : k = fr.length := by omega
      have RL := Lib.hid (show res = lb from by
        rw [CB.out, LG.out (fun j x hj => HI.out.1 j x (List.getElem?_eq_some_iff.1 hj).1 hj)]; rfl)
      have LI := Lib.hid (LK.out wr KR.out HK1.out HK7.out (by first | trivial | rfl) (by first | trivial | rfl))
      have x0 := cell_of (o := 0) OR.out rfl
      have x1 := cell_of (o := 1) OR.out rfl
      have x4 := cell_of (o := 4) OR.out rfl
      have x5 := cell_of (o := 5) OR.out rfl
      have x6 := cell_of (o := 6) OR.out rfl
      clear OR HI LK CB LB LG
      go_wp2_with fail
      (with_reducible refine (LI.out).mono ?_)
      rintro e w6 ⟨rfl, k6⟩
      have K6 := Lib.hid (KR.out.trans k6)
      clear k6 LI KR
      cases lb with
      | false =>
        go_wp2
        go_ret
        exact checkRes_bad (by decide) RL.out K6.out
      | true =>
        go_wp2
        go_ret
        exact checkRes_ok RL.out K6.out
end Go.Proofs.YtdgmjablkdemmaaGreat
