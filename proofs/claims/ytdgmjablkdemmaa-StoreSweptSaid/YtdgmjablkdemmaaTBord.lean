/-
  StoreBorders: the walk.
-/
import Derived.Test.YtdgmjablkdemmaaTFill
namespace Go.Proofs.Ytdgmjablkdemmaa
open Go.RowKit Go.Maps

theorem border_num {s : PStore} (h : PInv s) {t n : Int} {is : Bool} (hb : Best (Borders s) t n is) (hi : is = true) : 0 ≤ n ∧ n ≤ 4611686018427387905 := by
  obtain ⟨_, q, hq, he⟩ := hb.yes hi
  have hm := certB_may (h.ok q hq)
  have := hm.f0; have := hm.f1; have := hm.t0; have := hm.t1
  rcases he with e | e <;> omega
theorem get_next {s : PStore} (h : PInv s) {x : Int} {c : BCert} (hg : s.get x = some c) : x < (s.next : Int) ∧ 0 ≤ c.t ∧ c.t ≤ 4611686018427387904 ∧ c.fr.length ≤ maxLen := by
  obtain ⟨i, rfl, hm⟩ := get_some hg
  have hc := certB_may (h.ok _ hm)
  refine ⟨by have := h.lt _ hm; omega, hc.t0, hc.t1, ?_⟩
  obtain ⟨_, q, _⟩ := of_decide_eq_true hc.fr
  rw [lists_len] at q
  exact Nat.le_trans q (by decide)
def BordersRes (w : World) (e : Ending) (w' : World) : Prop := e = .returned (.bool true) ∧ Chg (fun _ => False) w w'
set_option maxHeartbeats 8000000 in
set_option maxRecDepth 100000 in
theorem borders_law (w : World) (room : Int) (v : Value) (t : Int) (on : Int) (A : List BAct) (wt : (Lit.int .i64 t).wf = true) (wo : (Lit.int .u16 on).wf = true) (hv : ActsAt w v (· < w.heap.size) A) :
    Calls Try.prog 3 #[.int .i64 room, v, .int .i64 t, .int .u16 on] w (BordersRes w) := by
  simp only [Lit.wf, Bool.and_eq_true, decide_eq_true_eq] at wt wo
  have ht0 : -9223372036854775808 ≤ t ∧ t ≤ 9223372036854775807 := wt
  have ho1 : 0 ≤ on := wo.1
  have ho2 : on ≤ 65535 := wo.2
  clear wt wo
  have HV := Lib.hid hv
  obtain ⟨la, cap, rfl, hl0, _⟩ := hv
  unfold maxLen at hl0
  have AW := Lib.hid (awake15_any w)
  go_enter Try.func3, Try.ntmps3
  go_wp2_with fail
  (with_reducible refine (AW.out).mono ?_)
  rintro e w1 ⟨rfl, k1⟩
  have K1 := Lib.hid k1
  have hs1 := k1.size
  have FI := fill_any w1 room _ A _ (HV.out.chg k1 (fun _ _ e => e)) (fun k hk => Nat.lt_of_lt_of_le hk hs1)
  unfold FillRes at FI
  have FI := Lib.hid FI
  clear AW k1 HV
  go_wp2_with fail
  (with_reducible refine (FI.out).mono ?_)
  rintro e w2 ⟨k2, rfl | ⟨b, B, s, rfl, h2, hb2, hsn, hsu⟩⟩
  · have K2 := Lib.hid (K1.out.trans k2)
    clear FI k2
    go_wp2
    go_ret
    exact ⟨rfl, K2.out⟩
  have S2 := Lib.hid h2
  have K2 := Lib.hid (K1.out.trans k2)
  have BB := Lib.hid (show ∀ j, B j → w.heap.size ≤ j from fun j hj => by have := hb2 j hj; omega)
  clear FI h2 hb2 k2 K1
  by_cases ht1 : t ≤ 2305843009213693952
  rotate_left
  · have g1 : decide (2305843009213693952 < t) = true := decide_eq_true (by omega)
    go_wp2
    go_ret
    exact ⟨rfl, K2.out⟩
  by_cases ht2 : -2305843009213693952 ≤ t
  rotate_left
  · have g1 : decide (2305843009213693952 < t) = false := decide_eq_false (by omega)
    have g2 : decide (t < -2305843009213693952) = true := decide_eq_true (by omega)
    go_wp2
    go_ret
    exact ⟨rfl, K2.out⟩
  have g1 : decide (2305843009213693952 < t) = false := decide_eq_false (by omega)
  have g2 : decide (t < -2305843009213693952) = false := decide_eq_false (by omega)
  have NX := next_any w2 b B s t S2.out
  unfold NextRes at NX
  have NX := Lib.hid NX
  go_wp2_with fail
  (with_reducible refine (NX.out).mono ?_)
  rintro e w3 ⟨n, is, rfl, hb, k3⟩
  have S3 := Lib.hid (S2.out.chg k3 (fun _ _ e => e))
  have K3 := Lib.hid (K2.out.trans k3)
  have HB := Lib.hid hb
  clear NX hb k3 S2 K2 g1 g2
  have VA := Lib.hid (valid_any w3 b B s t S3.out)
  go_wp2_with fail
  (with_reducible refine (VA.out).mono ?_)
  rintro e w4 ⟨v4, rfl, ho4, k4⟩
  obtain ⟨a4, c4, rfl⟩ := own_shape ho4
  have S4 := Lib.hid (S3.out.chg k4 (fun _ _ e => e))
  have K4 := Lib.hid (K3.out.trans k4)
  have O4 := Lib.hid ho4
  have hwl : (s.which fun c => holdsB c t).length ≤ 1000 := Nat.le_trans (which_len s _) (by have := S4.out.inv.len; have := S4.out.inv.room2; omega)
  clear VA ho4 k4 S3 K3
  have x1 : IntKind.i64.wrap on = on := by rw [IntKind.wrap_i64]; omega
  have x2 : IntKind.i64.wrap (t + on) = t + on := by rw [IntKind.wrap_i64]; omega
  cases is with
  | false =>
    have BN := Lib.hid (border_none HB.out)
    have EQ := Lib.hid (border_same (at_ := t + on) HB.out (by omega) (fun e => by cases e))
    have VB := Lib.hid (valid_any w4 b B s (t + on) S4.out)
    rw [EQ.out] at VB
    go_wp2_with fail
    (with_reducible refine (VB.out).mono ?_)
    rintro e w5 ⟨v5, rfl, ho5, k5⟩
    obtain ⟨a5, c5, rfl⟩ := own_shape ho5
    have S5 := Lib.hid (S4.out.chg k5 (fun _ _ e => e))
    have K5 := Lib.hid (K4.out.trans k5)
    have OA := own_chg O4.out k5 (fun k hk e => e)
    have IN := Lib.hid (ints15_any w5 a5 a4 c5 c4 _ _ _ ho5 OA hwl)
    clear VB ho5 k5 S4 K4 OA O4
    go_wp2_with fail
    (with_reducible refine (IN.out).mono ?_)
    rintro e w6 ⟨rfl, k6⟩
    have S6 := Lib.hid (S5.out.chg k6 (fun _ _ e => e))
    have K6 := Lib.hid (K5.out.trans k6)
    clear IN k6 S5 K5 EQ
    generalize hL : (s.which fun c => holdsB c t) = L at *
    have h0 : L.length = 0 := by rw [BN.out]; rfl
    clear hL
    have z0 : ((L.length : Int) == 0) = true := by rw [h0]; rfl
    have z1 : (L.length == 0) = true := by rw [h0]; rfl
    clear h0
    go_wp2
    go_ret
    exact ⟨by simp, K6.out⟩
  | true =>
    obtain ⟨hn0, hn1⟩ := border_num S4.out.inv HB.out rfl
    have hnt : t < n := (HB.out.yes rfl).1
    have m1 : decide (n ≤ t) = false := decide_eq_false (by omega)
    by_cases hle : n ≤ t + on
    · have m2 : decide (n ≤ t + on) = true := decide_eq_true hle
      have x3 : IntKind.i64.wrap (n - 1) = n - 1 := by rw [IntKind.wrap_i64]; omega
      have EQ := Lib.hid (border_same (at_ := n - 1) HB.out (by omega) (fun _ => by omega))
      have VB := Lib.hid (valid_any w4 b B s (n - 1) S4.out)
      rw [EQ.out] at VB
      go_wp2_with fail
      (with_reducible refine (VB.out).mono ?_)
      rintro e w5 ⟨v5, rfl, ho5, k5⟩
      obtain ⟨a5, c5, rfl⟩ := own_shape ho5
      have S5 := Lib.hid (S4.out.chg k5 (fun _ _ e => e))
      have K5 := Lib.hid (K4.out.trans k5)
      have OA := own_chg O4.out k5 (fun k hk e => e)
      have IN := Lib.hid (ints15_any w5 a5 a4 c5 c4 _ _ _ ho5 OA hwl)
      clear VB ho5 k5 S4 K4 OA O4
      go_wp2_with fail
      (with_reducible refine (IN.out).mono ?_)
      rintro e w6 ⟨rfl, k6⟩
      have S6 := Lib.hid (S5.out.chg k6 (fun _ _ e => e))
      have K6 := Lib.hid (K5.out.trans k6)
      clear IN k6 S5 K5 EQ
      generalize (s.which fun c => holdsB c t) = L at *
      obtain ⟨q, hq, hqb⟩ := (HB.out.yes rfl).2
      have HQ := Lib.hid (S6.out.inv.get_mem hq)
      have hq1 : q.1 < 100 := by have := S6.out.inv.lt q hq; omega
      have HQB := Lib.hid hqb
      clear hq hqb x1 x2 m2
      go_wp2_with fail
      go_loopw [14] (fun iv wr => ∃ k : Nat, k ≤ q.1 ∧ iv = .int .i64 k ∧ Hid (StoreAt wr b B s ∧ Chg (fun _ => False) w wr)) (fun iv _ => 400 - (intOf iv).toNat)
      case atStart => exact ⟨0, Nat.zero_le _, rfl, Lib.hid ⟨S6.out, K6.out⟩⟩
      case round =>
        obtain ⟨k, hk, rfl, HI⟩ := hrel
        obtain ⟨hst, hkc⟩ := HI.out
        have ST := Lib.hid hst
        have KC := Lib.hid hkc
        clear HI hst hkc
        have g4 : decide ((k : Int) < 400) = true := decide_eq_true (by omega)
        have g5 : decide (k < 400) = true := decide_eq_true (by omega)
        have GE := get_any wr b B s (k : Int) ST.out (by omega) (by omega)
        unfold GetRes at GE
        have GE := Lib.hid GE
        go_wp2_with fail
        (with_reducible refine (GE.out).mono ?_)
        rintro e w7 ⟨⟨c, u, hg, rfl, hou⟩ | ⟨hg, rfl⟩, k7⟩
        · obtain ⟨hx1, hx2, hx3, hx4⟩ := get_next ST.out.inv hg
          have HGG := Lib.hid hg
          have S7 := Lib.hid (ST.out.chg k7 (fun _ _ e => e))
          have K7 := Lib.hid (KC.out.trans k7)
          clear GE hg k7 ST KC
          obtain ⟨a7, c7, rfl⟩ := own_shape hou
          clear hou
          obtain ⟨kind, sg, sp, fr, f, to, num⟩ := c
          unfold certV
          simp only at hx2 hx3 hx4
          have kb := chg_alloc (fun _ => False) w7 (.cells #[.int .i64 kind, .int .u16 (sg : Int), .string sp, .slice a7 fr.length c7, .int .i64 f, .int .i64 to, .int .i64 num] 37)
          have S8 := Lib.hid (S7.out.chg kb (fun _ _ e => e))
          have K8 := Lib.hid (K7.out.trans kb)
          clear kb S7 K7
          by_cases hf : f = n
          · have y1 : (f == n) = true := by rw [beq_iff_eq]; exact hf
            clear hf
            go_wp2
            go_ret
            exact ⟨rfl, K8.out⟩
          have y1 : (f == n) = false := beq_eq_false_iff_ne.2 hf
          have x5 : IntKind.i64.wrap (to + 1) = to + 1 := by rw [IntKind.wrap_i64]; omega
          by_cases hu : to + 1 = n
          · have y2 : (to + 1 == n) = true := by rw [beq_iff_eq]; exact hu
            clear hu
            go_wp2
            go_ret
            exact ⟨rfl, K8.out⟩
          have y2 : (to + 1 == n) = false := beq_eq_false_iff_ne.2 hu
          have hkq : k ≠ q.1 := fun e => by
            have := HGG.out
            rw [e, HQ.out] at this
            have e2 := Option.some.inj this
            rcases HQB.out with z | z
            · rw [e2] at z; exact hf z.symm
            · rw [e2] at z; exact hu z.symm
          go_wp2
          go_roundw
          case rel => exact ⟨k + 1, by omega, by go_num, Lib.hid ⟨S8.out, K8.out⟩⟩
          case measure => simp [intOf]; omega
        · have hkq : k ≠ q.1 := fun e => by
            rw [e, HQ.out] at hg
            cases hg
          have S7 := Lib.hid (ST.out.chg k7 (fun _ _ e => e))
          have K7 := Lib.hid (KC.out.trans k7)
          clear GE hg k7 ST KC
          unfold certV zeroC
          have kb := chg_alloc (fun _ => False) w7 (.cells #[.int .i64 0, .int .u16 0, .string ⟨#[]⟩, .slice none 0 0, .int .i64 0, .int .i64 0, .int .i64 0] 37)
          have S8 := Lib.hid (S7.out.chg kb (fun _ _ e => e))
          have K8 := Lib.hid (K7.out.trans kb)
          clear kb S7 K7
          go_wp2
          go_roundw
          case rel => exact ⟨k + 1, by omega, by go_num, Lib.hid ⟨S8.out, K8.out⟩⟩
          case measure => simp [intOf]; omega
    · have m2 : decide (n ≤ t + on) = false := decide_eq_false hle
      have EQ := Lib.hid (border_same (at_ := t + on) HB.out (by omega) (fun _ => by omega))
      have VB := Lib.hid (valid_any w4 b B s (t + on) S4.out)
      rw [EQ.out] at VB
      go_wp2_with fail
      (with_reducible refine (VB.out).mono ?_)
      rintro e w5 ⟨v5, rfl, ho5, k5⟩
      obtain ⟨a5, c5, rfl⟩ := own_shape ho5
      have S5 := Lib.hid (S4.out.chg k5 (fun _ _ e => e))
      have K5 := Lib.hid (K4.out.trans k5)
      have OA := own_chg O4.out k5 (fun k hk e => e)
      have IN := Lib.hid (ints15_any w5 a5 a4 c5 c4 _ _ _ ho5 OA hwl)
      clear VB ho5 k5 S4 K4 OA O4
      go_wp2_with fail
      (with_reducible refine (IN.out).mono ?_)
      rintro e w6 ⟨rfl, k6⟩
      have S6 := Lib.hid (S5.out.chg k6 (fun _ _ e => e))
      have K6 := Lib.hid (K5.out.trans k6)
      clear IN k6 S5 K5 EQ
      generalize (s.which fun c => holdsB c t) = L at *
      obtain ⟨q, hq, hqb⟩ := (HB.out.yes rfl).2
      have HQ := Lib.hid (S6.out.inv.get_mem hq)
      have hq1 : q.1 < 100 := by have := S6.out.inv.lt q hq; omega
      have HQB := Lib.hid hqb
      clear hq hqb x1 x2 m2
      go_wp2_with fail
      go_loopw [14] (fun iv wr => ∃ k : Nat, k ≤ q.1 ∧ iv = .int .i64 k ∧ Hid (StoreAt wr b B s ∧ Chg (fun _ => False) w wr)) (fun iv _ => 400 - (intOf iv).toNat)
      case atStart => exact ⟨0, Nat.zero_le _, rfl, Lib.hid ⟨S6.out, K6.out⟩⟩
      case round =>
        obtain ⟨k, hk, rfl, HI⟩ := hrel
        obtain ⟨hst, hkc⟩ := HI.out
        have ST := Lib.hid hst
        have KC := Lib.hid hkc
        clear HI hst hkc
        have g4 : decide ((k : Int) < 400) = true := decide_eq_true (by omega)
        have g5 : decide (k < 400) = true := decide_eq_true (by omega)
        have GE := get_any wr b B s (k : Int) ST.out (by omega) (by omega)
        unfold GetRes at GE
        have GE := Lib.hid GE
        go_wp2_with fail
        (with_reducible refine (GE.out).mono ?_)
        rintro e w7 ⟨⟨c, u, hg, rfl, hou⟩ | ⟨hg, rfl⟩, k7⟩
        · obtain ⟨hx1, hx2, hx3, hx4⟩ := get_next ST.out.inv hg
          have HGG := Lib.hid hg
          have S7 := Lib.hid (ST.out.chg k7 (fun _ _ e => e))
          have K7 := Lib.hid (KC.out.trans k7)
          clear GE hg k7 ST KC
          obtain ⟨a7, c7, rfl⟩ := own_shape hou
          clear hou
          obtain ⟨kind, sg, sp, fr, f, to, num⟩ := c
          unfold certV
          simp only at hx2 hx3 hx4
          have kb := chg_alloc (fun _ => False) w7 (.cells #[.int .i64 kind, .int .u16 (sg : Int), .string sp, .slice a7 fr.length c7, .int .i64 f, .int .i64 to, .int .i64 num] 37)
          have S8 := Lib.hid (S7.out.chg kb (fun _ _ e => e))
          have K8 := Lib.hid (K7.out.trans kb)
          clear kb S7 K7
          by_cases hf : f = n
          · have y1 : (f == n) = true := by rw [beq_iff_eq]; exact hf
            clear hf
            go_wp2
            go_ret
            exact ⟨rfl, K8.out⟩
          have y1 : (f == n) = false := beq_eq_false_iff_ne.2 hf
          have x5 : IntKind.i64.wrap (to + 1) = to + 1 := by rw [IntKind.wrap_i64]; omega
          by_cases hu : to + 1 = n
          · have y2 : (to + 1 == n) = true := by rw [beq_iff_eq]; exact hu
            clear hu
            go_wp2
            go_ret
            exact ⟨rfl, K8.out⟩
          have y2 : (to + 1 == n) = false := beq_eq_false_iff_ne.2 hu
          have hkq : k ≠ q.1 := fun e => by
            have := HGG.out
            rw [e, HQ.out] at this
            have e2 := Option.some.inj this
            rcases HQB.out with z | z
            · rw [e2] at z; exact hf z.symm
            · rw [e2] at z; exact hu z.symm
          go_wp2
          go_roundw
          case rel => exact ⟨k + 1, by omega, by go_num, Lib.hid ⟨S8.out, K8.out⟩⟩
          case measure => simp [intOf]; omega
        · have hkq : k ≠ q.1 := fun e => by
            rw [e, HQ.out] at hg
            cases hg
          have S7 := Lib.hid (ST.out.chg k7 (fun _ _ e => e))
          have K7 := Lib.hid (KC.out.trans k7)
          clear GE hg k7 ST KC
          unfold certV zeroC
          have kb := chg_alloc (fun _ => False) w7 (.cells #[.int .i64 0, .int .u16 0, .string ⟨#[]⟩, .slice none 0 0, .int .i64 0, .int .i64 0, .int .i64 0] 37)
          have S8 := Lib.hid (S7.out.chg kb (fun _ _ e => e))
          have K8 := Lib.hid (K7.out.trans kb)
          clear kb S7 K7
          go_wp2
          go_roundw
          case rel => exact ⟨k + 1, by omega, by go_num, Lib.hid ⟨S8.out, K8.out⟩⟩
          case measure => simp [intOf]; omega
end Go.Proofs.Ytdgmjablkdemmaa
