/-
  The reference's Less.
-/
import Derived.Test.YtdgmjablkdemmaaGreatSSet
namespace Go.Proofs.YtdgmjablkdemmaaGreat
open Go.RowKit Go.Maps

set_option maxRecDepth 100000 in
theorem rless_any (w : World) (a b : ByteArray) (ha : a.size ≤ maxLen) :
    Calls Tryz.prog 89 #[.string a, .string b] w fun e w' => e = .returned (.bool (lessB a.data.toList b.data.toList)) ∧ Drawn w w' := by
  unfold maxLen at ha
  by_cases h : a.size = b.size
  · have RES := Lib.hid (show lessB a.data.toList b.data.toList = Op.bytesLess (a.data.toList.drop 0) (b.data.toList.drop 0) by
      unfold lessB
      rw [size_list, size_list, if_pos h, List.drop_zero, List.drop_zero])
    have hne : ((a.size : Int) != (b.size : Int)) = false := by rw [bne_eq_false_iff_eq]; omega
    have hne2 : ((a.size : Int) == (b.size : Int)) = true := by rw [beq_iff_eq]; omega
    have h1 : a.size ≤ b.size := by omega
    have h2 : b.size ≤ a.size := by omega
    clear h
    go_enter Tryz.func89, Tryz.ntmps89
    go_wp2
    go_loopw [5] (fun iv wr => ∃ k : Nat, k ≤ a.size ∧ iv = .int .i64 k ∧ Hid (lessB a.data.toList b.data.toList = Op.bytesLess (a.data.toList.drop k) (b.data.toList.drop k) ∧ Drawn w wr)) (fun iv _ => a.size - (intOf iv).toNat)
    case atStart => exact ⟨0, by omega, rfl, Lib.hid ⟨RES.out, Drawn.refl _⟩⟩
    case round =>
      obtain ⟨k, hk, rfl, HI⟩ := hrel
      by_cases hlt : k < a.size
      · have hltb : k < b.size := by omega
        have LS := Lib.hid (less_step (byte_at hlt) (byte_at hltb))
        have b1 : 0 ≤ (k : Int) := by omega
        have b2 : (k : Int) < (a.size : Int) := by omega
        have b3 : (k : Int) < (b.size : Int) := by omega
        have DR := Lib.hid HI.out.2
        by_cases hxy : a[k] = b[k]
        · have NX := Lib.hid (show lessB a.data.toList b.data.toList = Op.bytesLess (a.data.toList.drop (k + 1)) (b.data.toList.drop (k + 1)) by
            rw [HI.out.1, LS.out, if_pos hxy])
          have n0 : ((a[k].toNat : Int) != (b[k].toNat : Int)) = false := by rw [hxy]; simp
          have n1 : ((a[k].toNat : Int) == (b[k].toNat : Int)) = true := by rw [hxy]; simp
          clear hxy HI LS
          go_wp2_with fail
          go_quiet (fail)
          rename_i nq
          have DQ := Lib.hid (show Drawn w (wr.drewN nq) from DR.out.trans ⟨nq, rfl⟩)
          go_wp2
          go_roundw
          case rel => exact ⟨k + 1, by omega, by go_num, Lib.hid ⟨NX.out, DQ.out⟩⟩
          case measure => simp [intOf]; omega
        · have RE := Lib.hid (show lessB a.data.toList b.data.toList = decide (a[k].toNat < b[k].toNat) by
            rw [HI.out.1, LS.out, if_neg hxy])
          have hx2 : a[k].toNat ≠ b[k].toNat := fun e => hxy (UInt8.toNat_inj.1 e)
          have n0 : ((a[k].toNat : Int) != (b[k].toNat : Int)) = true := by rw [bne_iff_ne]; omega
          have n1 : ((a[k].toNat : Int) == (b[k].toNat : Int)) = false := by rw [beq_eq_false_iff_ne]; omega
          clear hxy HI LS hx2
          go_wp2_with fail
          go_quiet (fail)
          rename_i nq
          have DQ := Lib.hid (show Drawn w (wr.drewN nq) from DR.out.trans ⟨nq, rfl⟩)
          go_wp2_with fail
          generalize wr.drewN nq = w2 at *
          go_quiet (fail)
          have DQ2 := Lib.hid (show Drawn w (w2.drewN nq) from DQ.out.trans ⟨nq, rfl⟩)
          go_wp2
          go_ret
          exact ⟨by rw [RE.out]; rfl, DQ2.out⟩
      · obtain rfl : k = a.size := by omega
        have RE := Lib.hid (show lessB a.data.toList b.data.toList = false by
          rw [HI.out.1, List.drop_eq_nil_of_le (show b.data.toList.length ≤ a.size by rw [size_list]; omega)]
          cases List.drop a.size a.data.toList <;> rfl)
        go_wp2
        go_ret
        exact ⟨by rw [RE.out]; rfl, HI.out.2⟩
  · have RES := Lib.hid (show lessB a.data.toList b.data.toList = decide (a.size < b.size) by
      unfold lessB
      rw [size_list, size_list, if_neg h])
    have hne : ((a.size : Int) != (b.size : Int)) = true := by rw [bne_iff_ne]; omega
    have hne2 : ((a.size : Int) == (b.size : Int)) = false := by rw [beq_eq_false_iff_ne]; omega
    clear h
    go_enter Tryz.func89, Tryz.ntmps89
    go_wp2
    go_ret
    exact ⟨by rw [RES.out]; rfl, Drawn.refl _⟩
end Go.Proofs.YtdgmjablkdemmaaGreat
