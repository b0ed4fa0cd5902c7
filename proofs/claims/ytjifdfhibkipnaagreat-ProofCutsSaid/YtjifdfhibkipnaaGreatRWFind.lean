/-
  word.Find.
-/
import Derived.Test.YtjifdfhibkipnaaGreatRTell1
namespace Go.Proofs.YtjifdfhibkipnaaGreat
open Go.RowKit
set_option maxRecDepth 100000 in
theorem find_any (w : World) (s v : ByteArray) (i : Nat) (hs : s.size ≤ 1000000) (hv : v.size ≤ 1000000) (hv2 : v.size % 2 = 0) (hv0 : 0 < v.size) (hi : i ≤ 1000000) :
    Calls Tryz.prog 86 #[.string s, .string v, .int .i64 i] w fun e w' => e = .returned (.int .i64 (findI s.data.toList v.data.toList i)) ∧ w = w' := by
  have O1 := Lib.hid (wodd_no w v (by unfold maxLen; omega) hv2)
  have L1 := Lib.hid (wlen_any w s (by unfold maxLen; omega))
  have L2 := Lib.hid (wlen_any w v (by unfold maxLen; omega))
  have hN : 2 * alen s.data.toList ≤ s.size ∧ s.size ≤ 2 * alen s.data.toList + 1 := by unfold alen; rw [size_list]; omega
  have hM : v.size ≤ 2 * alen v.data.toList ∧ 2 * alen v.data.toList ≤ v.size := by unfold alen; rw [size_list]; omega
  have NO := Lib.hid (fun k => @findI_no s.data.toList v.data.toList k)
  have HIT := Lib.hid (fun k => @findI_hit s.data.toList v.data.toList k)
  have NXT := Lib.hid (fun k => @findI_next s.data.toList v.data.toList k)
  have CUT := Lib.hid (fun k => cut_list s v k)
  generalize alen s.data.toList = N at *
  generalize alen v.data.toList = M at *
  have g1 : ((M : Int) == 0) = false := by rw [beq_eq_false_iff_ne]; omega
  have g2 : max (i : Int) 0 = (i : Int) := by omega
  go_enter Tryz.func86, Tryz.ntmps86
  go_wp2_with fail
  refine (O1.out).mono ?_
  rintro e w' ⟨rfl, rfl⟩
  go_wp2_with fail
  refine (L2.out).mono ?_
  rintro e w' ⟨rfl, rfl⟩
  go_wp2
  go_loop [7] (fun iv => ∃ k : Nat, k ≤ i + N + 1 ∧ iv = .int .i64 k ∧ Hid (findI s.data.toList v.data.toList i = findI s.data.toList v.data.toList k)) (fun iv => i + N + 2 - (intOf iv).toNat)
  case atStart => exact ⟨i, by omega, rfl, Lib.hid rfl⟩
  case round =>
    obtain ⟨k, hk, rfl, HE⟩ := hrel
    by_cases hlt : k + M ≤ N
    · have g3 : decide ((k : Int) ≤ (N : Int) - (M : Int)) = true := by rw [decide_eq_true_eq]; omega
      have b1 : 2 * (k : Int) + (v.size : Int) ≤ (s.size : Int) := by omega
      have cu := CUT.out k
      by_cases he : (s.data.toList.drop (2 * k)).take v.data.toList.length = v.data.toList
      · have R := Lib.hid (HE.out.trans (HIT.out k hlt he))
        rw [decide_eq_true he] at cu
        clear he
        go_wp2_with fail
        refine (L1.out).mono ?_
        rintro e w' ⟨rfl, rfl⟩
        go_wp2_with fail
        refine (L2.out).mono ?_
        rintro e w' ⟨rfl, rfl⟩
        go_wp2
        go_ret
        exact ⟨by rw [R.out]; rfl, rfl⟩
      · have R := Lib.hid (HE.out.trans (NXT.out k hlt he))
        rw [decide_eq_false he] at cu
        clear he
        go_wp2_with fail
        refine (L1.out).mono ?_
        rintro e w' ⟨rfl, rfl⟩
        go_wp2_with fail
        refine (L2.out).mono ?_
        rintro e w' ⟨rfl, rfl⟩
        go_wp2
        go_round
        case rel => exact ⟨k + 1, by omega, by go_num, R⟩
        case measure => simp [intOf]; omega
    · have g3 : decide ((k : Int) ≤ (N : Int) - (M : Int)) = false := by rw [decide_eq_false_iff_not]; omega
      have R := Lib.hid (HE.out.trans (NO.out k (by omega)))
      go_wp2_with fail
      refine (L1.out).mono ?_
      rintro e w' ⟨rfl, rfl⟩
      go_wp2_with fail
      refine (L2.out).mono ?_
      rintro e w' ⟨rfl, rfl⟩
      go_wp2
      go_ret
      exact ⟨by rw [R.out]; rfl, rfl⟩
end Go.Proofs.YtjifdfhibkipnaaGreat
