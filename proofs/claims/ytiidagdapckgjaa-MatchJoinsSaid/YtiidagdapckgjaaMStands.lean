/-
  Layer 10: MatchStands, walked.
-/
import Derived.Test.YtiidagdapckgjaaMTwice
import Derived.Test.YtiidagdapckgjaaMStandsPure
namespace Go.Proofs.Ytiidagdapckgjaa
open Go.RowKit Go.Maps

theorem words_up {w w1 : World} {v : Value} {l : List ByteArray} (h : WordsAt w v (· < w.heap.size) l) (k : Chg (fun _ => False) w w1) : WordsAt w1 v (· < w1.heap.size) l := by
  obtain ⟨q1, q2, q3, q4, q5⟩ := h
  exact ⟨q1, q2, q3, q4, fun j x hj => by obtain ⟨z1, z2, z3, z4, z5, z6⟩ := q5 j x hj; exact ⟨z1, z2, z3, Nat.lt_of_lt_of_le z4 k.size, cell_chg k (fun e => e) z5, z6⟩⟩
theorem hits_le (l : List ByteArray) (x : ByteArray) (hl : l.length ≤ 110) (hx : x.size ≤ 400) : (hits (lists l) x.data.toList).length ≤ 100000 := by
  have := hitsTo_length (lists l) x.data.toList (alen x.data.toList)
  rw [lists_length] at this
  have h2 : alen x.data.toList ≤ 200 := by unfold alen; rw [size_list]; omega
  have h3 := Nat.mul_le_mul h2 hl
  unfold hits
  omega
set_option maxHeartbeats 1600000 in
set_option maxRecDepth 100000 in
theorem stands_law (w : World) (v : Value) (s : ByteArray) (l : List ByteArray) (hs : s.size ≤ maxLen) (hv : WordsArg w v l) :
    Calls Try.prog 4 #[v, .string s] w fun e w' => e = .returned (.bool true) ∧ Chg (fun _ => False) w w' := by
  have hv0 := hv.at_
  obtain ⟨la, cap, rfl, hl0, hl3⟩ := hv0
  have HL3 := Lib.hid hl3
  clear hl3
  have HV := Lib.hid hv.at_
  have HS := Lib.hid hs
  unfold maxLen at hs hl0
  clear hv
  go_enter Try.func4, Try.ntmps4
  go_wp2_with fail
  refine (awake_any w).mono ?_
  rintro e w1 ⟨rfl, k1⟩
  have K1 := Lib.hid k1
  have V1 := Lib.hid (words_up HV.out k1)
  have LA := Lib.hid (large_any w1 _ l s _ V1.out HS.out)
  clear k1
  by_cases hla : largeB l s = true
  · rw [hla] at LA
    clear hla
    go_wp2_with fail
    (with_reducible refine (LA.out).mono ?_)
    rintro e w1' ⟨rfl, rfl⟩
    go_wp2
    go_ret
    exact ⟨rfl, K1.out⟩
  have hla : largeB l s = false := by simpa using hla
  rw [hla] at LA
  obtain ⟨hl1, hs4, hx4⟩ := largeB_false hla
  have HX4 := Lib.hid hx4
  clear hla hx4
  go_wp2_with fail
  (with_reducible refine (LA.out).mono ?_)
  rintro e w1' ⟨rfl, rfl⟩
  have NEW := Lib.hid (new_any w1 _ l V1.out (by omega) HX4.out)
  clear LA
  go_wp2_with fail
  (with_reducible refine (NEW.out).mono ?_)
  rintro e w2 ⟨B, cs, rfl, _, m2, k2⟩
  have ALL := Lib.hid (all_any w2 w1.heap.size B cs (lists l) s (by rw [lists_length]; exact m2) hs4 (by rw [lists_length]; omega))
  have K2 := Lib.hid (K1.out.trans k2)
  have M2 := Lib.hid m2
  clear m2 k2 NEW V1
  go_wp2_with fail
  (with_reducible refine (ALL.out).mono ?_)
  rintro e w3 ⟨va, rfl, o3, k3⟩
  obtain ⟨aa, ca, rfl⟩ := own_shape o3
  have OA := Lib.hid o3
  have K3 := Lib.hid (K2.out.trans k3)
  have M3 := Lib.hid (M2.out.chg k3)
  have RI := Lib.hid (fun j x y => @hits_rise (lists l) s.data.toList j x y)
  have SD := Lib.hid (fun j a i => @hits_stand (lists l) s.data.toList j a i)
  have hal := hits_le l s (by omega) hs4
  have GET := Lib.hid (fun (k : Nat) (h : k < l.length) => show ∃ x lb lo, l[k]? = some x ∧ la = some ⟨lb, lo, none⟩ ∧ w3.cell? ⟨lb, lo + k, none⟩ = some (.string x) ∧ x.size ≤ 400 ∧ (lists l).getD k [] = x.data.toList from by
    have hg : l[k]? = some l[k] := List.getElem?_eq_getElem h
    obtain ⟨lb, lo, q1, q2, q3, q4⟩ := HL3.out k _ hg
    exact ⟨_, lb, lo, hg, q1, cell_chg K3.out (fun e => e) q3, HX4.out _ (List.mem_of_getElem? hg), lists_get hg⟩)
  generalize hits (lists l) s.data.toList = HA at *
  clear ALL o3 k3 K2 M2 HL3 HV
  go_wp2
  go_loopw [26] (fun iv wr => ∃ k : Nat, k ≤ HA.length ∧ iv = .int .i64 k ∧ Hid (Chg (fun _ => False) w3 wr)) (fun iv _ => HA.length - (intOf iv).toNat)
  case atStart => exact ⟨0, by omega, rfl, Lib.hid (Chg.refl _ _)⟩
  case round =>
    obtain ⟨k, hk, rfl, HR⟩ := hrel
    by_cases hlt : k < HA.length
    · have hc := HR.out
      obtain ⟨x1, x2, hx⟩ : ∃ x1 x2, HA[k]? = some (x1, x2) := ⟨_, _, List.getElem?_eq_getElem hlt⟩
      obtain ⟨hx2, hle, hcut⟩ := SD.out k x1 x2 hx
      rw [lists_length] at hx2
      obtain ⟨x, lb, lo, hg, rfl, cx, hxs, hgx⟩ := GET.out x2 hx2
      rw [hgx, size_list, size_list] at hle
      have he : ((s.extract (2 * x1) (2 * x1 + x.size)).toList == x.toList) = true := by
        rw [cut_eq, beq_iff_eq, ← hgx]; exact hcut
      obtain ⟨g, rfl⟩ := own_some OA.out (by omega)
      have c0 : wr.cell? ⟨g, k * 2, none⟩ = some (.int .i64 (x1 : Int)) := cell_chg hc (fun e => e) (by rw [OA.out.cellAt (k * 2) (by omega), Nat.mul_comm]; exact (hcells_get HA k _ hx).1)
      have c1 : wr.cell? ⟨g, k * 2 + 1, none⟩ = some (.int .i64 (x2 : Int)) := cell_chg hc (fun e => e) (by rw [OA.out.cellAt (k * 2 + 1) (by omega), Nat.mul_comm k 2]; exact (hcells_get HA k _ hx).2)
      have d0 := cell_chg (hc.alloc (.cells #[.int .i64 (x1 : Int), .int .i64 (x2 : Int)] 32)) (fun e => e) cx
      have HC := Lib.hid hc
      have HX := Lib.hid hx
      have b1 : (2 * (x1 : Int) + (x.size : Int)) ≤ (s.size : Int) := by omega
      have b2 : decide ((l.length : Int) ≤ (x2 : Int)) = false := by rw [decide_eq_false_iff_not]; omega
      have n1 : decide ((x1 : Int) < 0) = false := by rw [decide_eq_false_iff_not]; omega
      have n2 : decide ((x2 : Int) < 0) = false := by rw [decide_eq_false_iff_not]; omega
      have b3 : decide (l.length ≤ x2) = false := by rw [decide_eq_false_iff_not]; omega
      clear hcut hgx hg hx cx hc HR
      rcases Nat.eq_zero_or_pos k with hk0 | hk0
      · obtain rfl : k = 0 := hk0
        have q0 : decide (0 < (0 : Nat)) = false := rfl
        go_wp2_with fail
        go_quiet (fail)
        rename_i nq
        go_wp2
        go_roundw
        case rel => exact ⟨0 + 1, by omega, by go_num, Lib.hid ((HC.out.alloc _).drewN nq)⟩
        case measure => simp [intOf]; omega
      · obtain ⟨j, rfl⟩ : ∃ j, k = j + 1 := ⟨k - 1, by omega⟩
        obtain ⟨y1, y2, hy⟩ : ∃ y1 y2, HA[j]? = some (y1, y2) := ⟨_, _, List.getElem?_eq_getElem (by omega)⟩
        have hri := RI.out j _ _ hy HX.out
        unfold Rise at hri
        simp only at hri
        have p0 : (wr.alloc (.cells #[.int .i64 (x1 : Int), .int .i64 (x2 : Int)] 32)).cell? ⟨g, j * 2, none⟩ = some (.int .i64 (y1 : Int)) := cell_chg (HC.out.alloc _) (fun e => e) (by rw [OA.out.cellAt (j * 2) (by omega), Nat.mul_comm]; exact (hcells_get HA j _ hy).1)
        have p1 : (wr.alloc (.cells #[.int .i64 (x1 : Int), .int .i64 (x2 : Int)] 32)).cell? ⟨g, j * 2 + 1, none⟩ = some (.int .i64 (y2 : Int)) := cell_chg (HC.out.alloc _) (fun e => e) (by rw [OA.out.cellAt (j * 2 + 1) (by omega), Nat.mul_comm j 2]; exact (hcells_get HA j _ hy).2)
        have r1 : decide (x1 < y1) = false := by rw [decide_eq_false_iff_not]; omega
        have hj : j < HA.length := by omega
        have q0 : decide (0 < j + 1) = true := by simp
        have q1 : decide ((0 : Int) < (j : Int) + 1) = true := by rw [decide_eq_true_eq]; omega
        clear hy hk0
        by_cases hyx : y1 = x1
        · have r2 : decide (x2 ≤ y2) = false := by rw [decide_eq_false_iff_not]; omega
          have r3 : ((y1 : Int) == (x1 : Int)) = true := by rw [beq_iff_eq]; omega
          clear hyx hri
          go_wp2_with fail
          go_quiet (fail)
          rename_i nq
          go_wp2
          go_roundw
          case rel => exact ⟨j + 1 + 1, by omega, by go_num, Lib.hid ((HC.out.alloc _).drewN nq)⟩
          case measure => simp [intOf]; omega
        · have r3 : ((y1 : Int) == (x1 : Int)) = false := by rw [beq_eq_false_iff_ne]; omega
          clear hyx hri
          go_wp2_with fail
          go_quiet (fail)
          rename_i nq
          go_wp2
          go_roundw
          case rel => exact ⟨j + 1 + 1, by omega, by go_num, Lib.hid ((HC.out.alloc _).drewN nq)⟩
          case measure => simp [intOf]; omega
    · obtain rfl : k = HA.length := by omega
      obtain ⟨wo, rfl⟩ : ∃ wo : World, wo = wr := ⟨_, rfl⟩
      have CO := HR
      clear HR RI SD
      go_wp2
      go_loopw [113] (fun iv wr => ∃ k : Nat, k ≤ l.length ∧ iv = .int .i64 k ∧ Hid (Chg (fun _ => False) w3 wr)) (fun iv _ => l.length - (intOf iv).toNat)
      case atStart => exact ⟨0, by omega, rfl, CO⟩
      case round =>
        obtain ⟨i, hi, rfl, HR⟩ := hrel
        by_cases hil : i < l.length
        · obtain ⟨x, lb, lo, hg, rfl, cx, hxs, hgx⟩ := GET.out i hil
          have d0 := cell_chg HR.out (fun e => e) cx
          have AL := Lib.hid (all_any wr w1.heap.size B cs (lists l) x (by rw [lists_length]; exact M3.out.chg HR.out) hxs (by rw [lists_length]; omega))
          have FO := Lib.hid (fnd_own (lists l) i (by rw [lists_length]; exact hil))
          rw [hgx] at FO
          have hbl := hits_le l x (by omega) hxs
          generalize hits (lists l) x.data.toList = HB at *
          have CX := Lib.hid cx
          clear hg hgx cx
          obtain ⟨wp, rfl⟩ : ∃ wp : World, wp = wr := ⟨_, rfl⟩
          go_wp2_with fail
          (with_reducible refine (AL.out).mono ?_)
          rintro e w5 ⟨vb, rfl, o5, k5⟩
          obtain ⟨ab, cb, rfl⟩ := own_shape o5
          have OB := Lib.hid o5
          have C5 := Lib.hid (HR.out.trans k5)
          clear o5 k5 AL d0 HR
          go_wp2
          go_loopw [11, 123] (fun fv iv wr => ∃ k : Nat, k ≤ HB.length ∧ iv = .int .i64 k ∧ fv = .bool (fnd i (HB.take k)) ∧ Hid (Chg (fun _ => False) w5 wr)) (fun _ iv _ => HB.length - (intOf iv).toNat)
          case atStart => exact ⟨0, by omega, rfl, rfl, Lib.hid (Chg.refl _ _)⟩
          case round =>
            obtain ⟨k, hk, rfl, rfl, HR⟩ := hrel
            by_cases hlt : k < HB.length
            · have hc := HR.out
              obtain ⟨x1, x2, hx⟩ : ∃ x1 x2, HB[k]? = some (x1, x2) := ⟨_, _, List.getElem?_eq_getElem hlt⟩
              obtain ⟨g, rfl⟩ := own_some OB.out (by omega)
              have c0 : wr.cell? ⟨g, k * 2, none⟩ = some (.int .i64 (x1 : Int)) := cell_chg hc (fun e => e) (by rw [OB.out.cellAt (k * 2) (by omega), Nat.mul_comm]; exact (hcells_get HB k _ hx).1)
              have c1 : wr.cell? ⟨g, k * 2 + 1, none⟩ = some (.int .i64 (x2 : Int)) := cell_chg hc (fun e => e) (by rw [OB.out.cellAt (k * 2 + 1) (by omega), Nat.mul_comm k 2]; exact (hcells_get HB k _ hx).2)
              have HTK := Lib.hid (show fnd i (HB.take (k + 1)) = (fnd i (HB.take k) || (x1 == 0 && x2 == i)) by rw [List.take_add_one, hx]; exact fnd_snoc _ _ _)
              have HC := Lib.hid hc
              clear hx hc HR
              cases hf : fnd i (HB.take k) with
              | true =>
                rw [hf, Bool.true_or] at HTK
                clear hf
                go_wp2
                go_roundw
                case rel => exact ⟨k + 1, by omega, by go_num, by rw [HTK.out], Lib.hid (HC.out.alloc _)⟩
                case measure => simp [intOf]; omega
              | false =>
                rw [hf, Bool.false_or] at HTK
                clear hf
                by_cases h1 : x1 = 0
                · have r1 : ((x1 : Int) == 0) = true := by rw [beq_iff_eq]; omega
                  have s1 : (x1 == 0) = true := by rw [beq_iff_eq]; omega
                  rw [s1, Bool.true_and] at HTK
                  clear s1 h1
                  by_cases h2 : x2 = i
                  · have r2 : ((x2 : Int) == (i : Int)) = true := by rw [beq_iff_eq]; omega
                    have s2 : (x2 == i) = true := by rw [beq_iff_eq]; omega
                    rw [s2] at HTK
                    clear s2 h2
                    go_wp2
                    go_roundw
                    case rel => exact ⟨k + 1, by omega, by go_num, by rw [HTK.out], Lib.hid (HC.out.alloc _)⟩
                    case measure => simp [intOf]; omega
                  · have r2 : ((x2 : Int) == (i : Int)) = false := by rw [beq_eq_false_iff_ne]; omega
                    have s2 : (x2 == i) = false := by rw [beq_eq_false_iff_ne]; omega
                    rw [s2] at HTK
                    clear s2 h2
                    go_wp2
                    go_roundw
                    case rel => exact ⟨k + 1, by omega, by go_num, by rw [HTK.out], Lib.hid (HC.out.alloc _)⟩
                    case measure => simp [intOf]; omega
                · have r1 : ((x1 : Int) == 0) = false := by rw [beq_eq_false_iff_ne]; omega
                  have s1 : (x1 == 0) = false := by rw [beq_eq_false_iff_ne]; omega
                  rw [s1, Bool.false_and] at HTK
                  clear s1 h1
                  go_wp2
                  go_roundw
                  case rel => exact ⟨k + 1, by omega, by go_num, by rw [HTK.out], Lib.hid (HC.out.alloc _)⟩
                  case measure => simp [intOf]; omega
            · obtain rfl : k = HB.length := by omega
              rw [List.take_length, FO.out]
              have d1 := cell_chg (C5.out.trans HR.out) (fun e => e) CX.out
              have MA := Lib.hid (rmay_any wr x (by omega))
              have C6 := Lib.hid (C5.out.trans HR.out)
              clear HR C5
              cases hm : mayB x.data.toList with
              | true =>
                rw [hm] at MA
                clear hm
                go_wp2_with fail
                (with_reducible refine (MA.out).mono ?_)
                rintro e w7 ⟨rfl, k7⟩
                have C7 := Lib.hid (C6.out.trans k7)
                clear k7
                go_wp2
                go_roundw
                case rel => exact ⟨i + 1, by omega, by go_num, C7⟩
                case measure => simp [intOf]; omega
              | false =>
                rw [hm] at MA
                clear hm
                go_wp2_with fail
                (with_reducible refine (MA.out).mono ?_)
                rintro e w7 ⟨rfl, k7⟩
                have C7 := Lib.hid (C6.out.trans k7)
                clear k7
                go_wp2
                go_roundw
                case rel => exact ⟨i + 1, by omega, by go_num, C7⟩
                case measure => simp [intOf]; omega
        · obtain rfl : i = l.length := by omega
          go_wp2
          go_ret
          exact ⟨rfl, K3.out.trans HR.out⟩
end Go.Proofs.Ytiidagdapckgjaa
