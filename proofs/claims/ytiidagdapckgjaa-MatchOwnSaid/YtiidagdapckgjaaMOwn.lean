/-
  Layer 10: MatchOwn, walked.
-/
import Derived.Test.YtiidagdapckgjaaMAwake
namespace Go.Proofs.Ytiidagdapckgjaa
open Go.RowKit Go.Maps

theorem here_one (v w : List UInt8) (a : Nat) : hereL [v] w a = if standsB v w a then [0] else [] := by
  unfold hereL
  simp only [List.length_singleton, List.range_succ, List.range_zero, List.nil_append, List.filter_cons, List.filter_nil]
  rfl
theorem hitsTo_one_no (v w : List UInt8) (a : Nat) (h : standsB v w a = false) : hitsTo [v] w (a + 1) = hitsTo [v] w a := by
  rw [hitsTo_succ, here_one, h]; simp
theorem hitsTo_one_yes (v w : List UInt8) (a : Nat) (h : standsB v w a = true) : hitsTo [v] w (a + 1) = hitsTo [v] w a ++ [(a, 0)] := by
  rw [hitsTo_succ, here_one, h]; rfl
theorem hits_get_one (v w : List UInt8) (a : Nat) (ha : a < alen w) (h : standsB v w a = true) : (hits [v] w)[(hitsTo [v] w a).length]? = some (a, 0) := by
  have := hitsTo_prefix [v] w (a + 1) (alen w - (a + 1))
  rw [show a + 1 + (alen w - (a + 1)) = alen w from by omega, hitsTo_one_yes v w a h] at this
  obtain ⟨t, ht⟩ := this
  unfold hits
  rw [← ht, List.append_assoc, List.getElem?_append_right (Nat.le_refl _), Nat.sub_self]; rfl
theorem hits_rest_one (v w : List UInt8) (a : Nat) (hv : 2 * alen w < 2 * a + v.length) : ∀ d, hitsTo [v] w (a + d) = hitsTo [v] w a
  | 0 => rfl
  | d + 1 => by
    rw [show a + (d + 1) = a + d + 1 from by omega, hitsTo_one_no v w (a + d) ?_]
    · exact hits_rest_one v w a hv d
    · rw [standsB_bytes]
      unfold sameAt
      have : decide (2 * (a + d) + v.length ≤ 2 * alen w) = false := by rw [decide_eq_false_iff_not]; omega
      rw [this]; simp
theorem hits_none (v w : List UInt8) (h : mayB v = false) : ∀ n, hitsTo [v] w n = []
  | 0 => rfl
  | n + 1 => by rw [hitsTo_one_no v w n (by unfold standsB; rw [h]; rfl)]; exact hits_none v w h n
theorem words_one (w : World) (x : ByteArray) (hx : x.size ≤ maxLen) : WordsAt (w.alloc (.cells #[.string x] 23)) (.slice (some ⟨w.heap.size, 0, none⟩) 1 1) (· < (w.alloc (.cells #[.string x] 23)).heap.size) [x] := by
  refine ⟨_, 1, rfl, by unfold maxLen; simp, fun j y hj => ⟨w.heap.size, 0, rfl, by simp, ?_, ?_⟩⟩
  · rcases j with _ | j
    · simp at hj; subst hj; exact cell_of (obj_alloc_new _ _) rfl
    · simp at hj
  · rcases j with _ | j
    · simp at hj; subst hj; exact hx
    · simp at hj
set_option maxHeartbeats 4000000 in
set_option maxRecDepth 100000 in
theorem own_law (w : World) (v s : ByteArray) (hv : v.size ≤ maxLen) (hs : s.size ≤ maxLen) :
    Calls Try.prog 7 #[.string v, .string s] w fun e w' => e = .returned (.bool true) ∧ Chg (fun _ => False) w w' := by
  have hv0 := hv
  unfold maxLen at hv hs
  go_enter Try.func7, Try.ntmps7
  go_wp2_with fail
  refine (awake_any w).mono ?_
  rintro e w1 ⟨rfl, k1⟩
  have K1 := Lib.hid k1
  clear k1
  by_cases h1 : 400 < v.size
  · go_wp2
    go_ret
    exact ⟨rfl, K1.out⟩
  have g1 : decide (400 < (v.size : Int)) = false := by rw [decide_eq_false_iff_not]; omega
  by_cases h2 : 400 < s.size
  · have g2 : decide (400 < (s.size : Int)) = true := by rw [decide_eq_true_eq]; omega
    go_wp2
    go_ret
    exact ⟨rfl, K1.out⟩
  have g2 : decide (400 < (s.size : Int)) = false := by rw [decide_eq_false_iff_not]; omega
  have hv4 : v.size ≤ 400 := by omega
  have hs4 : s.size ≤ 400 := by omega
  have NEW := Lib.hid (new_any (w1.alloc (.cells #[.string v] 23)) _ [v] (words_one w1 v hv0) (by simp) (by simpa using hv4))
  have K2 := Lib.hid (K1.out.alloc (.cells #[.string v] 23))
  clear h1 h2 hv hs K1 hv0
  go_wp2_with fail
  generalize w1.alloc (.cells #[.string v] 23) = w2 at *
  refine (NEW.out).mono ?_
  rintro e w3 ⟨B, cs, rfl, _, m3, k3⟩
  have K3 := Lib.hid (K2.out.trans k3)
  have ALL := Lib.hid (all_any w3 w2.heap.size B cs [v.data.toList] s m3 hs4 (by simp))
  clear m3 k3 NEW K2
  go_wp2_with fail
  refine (ALL.out).mono ?_
  rintro e w4 ⟨hv5, rfl, o4, k4⟩
  obtain ⟨la, cap, rfl, hll, hcl⟩ := hitsAt_own o4
  have HCL := Lib.hid hcl
  have K4 := Lib.hid (K3.out.trans k4)
  have MAY := Lib.hid (rmay_any w4 v (by omega))
  clear o4 k4 hcl ALL K3
  by_cases hm : mayB v.data.toList = true
  · have SB := Lib.hid (fun a => standsB_bytes v.data.toList s.data.toList a)
    have CUT := Lib.hid (fun a => cut_eq s v a)
    have YES := Lib.hid (fun a h => hitsTo_one_yes v.data.toList s.data.toList a h)
    have NO := Lib.hid (fun a h => hitsTo_one_no v.data.toList s.data.toList a h)
    have GET := Lib.hid (fun a ha h => hits_get_one v.data.toList s.data.toList a ha h)
    have END := Lib.hid (fun a h => hits_rest_one v.data.toList s.data.toList a h)
    have hml := ((mayB_iff v.data.toList).1 hm).2.1
    have hvl : 2 ≤ v.size := by unfold alen at hml; rw [size_list] at hml; omega
    have VL := Lib.hid (size_list v)
    have NS := Lib.hid (show alen s.data.toList = s.size / 2 by unfold alen; rw [size_list])
    rw [hm] at MAY
    have SM := Lib.hid (show ∀ a, standsB v.data.toList s.data.toList a = (decide (2 * a + v.size ≤ 2 * (s.size / 2)) && ((s.extract (2 * a) (2 * a + v.size)).toList == v.toList)) from fun a => by rw [SB.out, hm, Bool.true_and, CUT.out]; unfold sameAt; rw [NS.out, VL.out])
    have HE := Lib.hid (show hits [v.data.toList] s.data.toList = hitsTo [v.data.toList] s.data.toList (s.size / 2) from by unfold hits; rw [NS.out])
    clear hm hml SB CUT
    generalize hits [v.data.toList] s.data.toList = H at *
    unfold maxLen at hll
    go_wp2_with fail
    refine (MAY.out).mono ?_
    rintro e w5 ⟨rfl, k5⟩
    have HC5 := Lib.hid (show ∀ (j : Nat) h, H[j]? = some h → ∃ g o, la = some ⟨g, o, none⟩ ∧ w5.cell? ⟨g, o + j * 2, none⟩ = some (.int .i64 (h.1 : Int)) ∧ w5.cell? ⟨g, o + j * 2 + 1, none⟩ = some (.int .i64 (h.2 : Int)) from fun j h hj => by
      obtain ⟨g, o, q1, _, q3, q4⟩ := HCL.out j h hj
      exact ⟨g, o, q1, cell_chg k5 (fun e => e) q3, cell_chg k5 (fun e => e) q4⟩)
    have K5 := Lib.hid (K4.out.trans k5)
    clear k5 MAY HCL K4
    go_wp2
    go_loop [7, 8] (fun nv av => ∃ a : Nat, a ≤ s.size / 2 ∧ av = .int .i64 a ∧ nv = .int .i64 (((hitsTo [v.data.toList] s.data.toList a).length : Nat) : Int)) (fun _ av => s.size - (intOf av).toNat)
    case atStart => exact ⟨0, by omega, rfl, rfl⟩
    case round =>
      obtain ⟨a, ha, rfl, rfl⟩ := hrel
      have hsm := SM.out a
      by_cases hq : 2 * a + v.size ≤ 2 * (s.size / 2)
      · have hd : decide (2 * a + v.size ≤ 2 * (s.size / 2)) = true := by rw [decide_eq_true_eq]; exact hq
        have b0 : 2 * (a : Int) + (v.size : Int) ≤ (s.size : Int) - (s.size : Int) % 2 := by omega
        have b1 : 2 * (a : Int) + (v.size : Int) ≤ (s.size : Int) := by omega
        rw [hd, Bool.true_and] at hsm
        clear hd
        by_cases he : ((s.extract (2 * a) (2 * a + v.size)).toList == v.toList) = true
        · rw [he] at hsm
          have gt := GET.out a (by rw [NS.out]; omega) hsm
          have Y := Lib.hid (YES.out a hsm)
          obtain ⟨g, o, rfl, c0, c1⟩ := HC5.out _ _ gt
          have hnl : (hitsTo [v.data.toList] s.data.toList a).length < H.length := (List.getElem?_eq_some_iff.1 gt).1
          simp only at c0 c1
          clear gt hsm
          have Y2 := Lib.hid (show (hitsTo [v.data.toList] s.data.toList (a + 1)).length = (hitsTo [v.data.toList] s.data.toList a).length + 1 by rw [Y.out]; simp)
          generalize (hitsTo [v.data.toList] s.data.toList a).length = N at *
          have hge : decide (H.length ≤ N) = false := by rw [decide_eq_false_iff_not]; omega
          have e1 : ((a : Int) == (a : Int)) = true := by simp
          go_wp2
          go_round
          case rel => exact ⟨a + 1, by omega, by go_num, by rw [Y2.out]; go_num⟩
          case measure => simp [intOf]; omega
        · have he : ((s.extract (2 * a) (2 * a + v.size)).toList == v.toList) = false := by simpa using he
          rw [he] at hsm
          have Y := Lib.hid (NO.out a hsm)
          clear hsm
          go_wp2
          go_round
          case rel => exact ⟨a + 1, by omega, by go_num, by rw [Y.out]⟩
          case measure => simp [intOf]; omega
      · have b0 : (s.size : Int) - (s.size : Int) % 2 < 2 * (a : Int) + (v.size : Int) := by omega
        have en := END.out a (by rw [NS.out, VL.out]; omega) (s.size / 2 - a)
        rw [show a + (s.size / 2 - a) = s.size / 2 from by omega, ← HE.out] at en
        rw [← en]
        clear en hsm
        go_wp2
        go_ret
        exact ⟨by simp, K5.out⟩
  · have hm : mayB v.data.toList = false := by simpa using hm
    rw [hm] at MAY
    have HE := Lib.hid (show hits [v.data.toList] s.data.toList = [] from hits_none _ _ hm _)
    rw [HE.out]
    clear hm HCL
    go_wp2_with fail
    refine (MAY.out).mono ?_
    rintro e w5 ⟨rfl, k5⟩
    have K5 := Lib.hid (K4.out.trans k5)
    clear k5
    go_wp2
    go_ret
    exact ⟨by simp, K5.out⟩
end Go.Proofs.Ytiidagdapckgjaa
