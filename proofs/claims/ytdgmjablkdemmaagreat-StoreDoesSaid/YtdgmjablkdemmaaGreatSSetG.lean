/-
  The reference's Has.
-/
import Derived.Test.YtdgmjablkdemmaaGreatSSet
namespace Go.Proofs.YtdgmjablkdemmaaGreat
open Go.RowKit Go.Maps

section
variable (w : World) (v : Value) (G : Nat → Prop) (l : List ByteArray) (x : ByteArray)
theorem rhas_any (hv : WordsAt w v G l) : Calls Tryz.prog 50 #[v, .string x] w fun e w' => e = .returned (.bool (hasB l x)) ∧ w = w' := by
  obtain ⟨la, cap, rfl, hl0, hcl⟩ := hv
  have HCL := Lib.hid hcl
  unfold maxLen at hl0
  clear hcl
  go_enter Tryz.func50, Tryz.ntmps50
  go_wp2
  go_loop [5] (fun iv => ∃ k : Nat, k ≤ l.length ∧ iv = .int .i64 k ∧ Hid (∀ j, j < k → l[j]? ≠ some x)) (fun iv => l.length - (intOf iv).toNat)
  case atStart => exact ⟨0, by omega, rfl, Lib.hid (fun j hj => by omega)⟩
  case round =>
    obtain ⟨k, hk, rfl, HI⟩ := hrel
    by_cases hlt : k < l.length
    · obtain ⟨y, hy⟩ : ∃ y, l[k]? = some y := ⟨_, List.getElem?_eq_getElem hlt⟩
      obtain ⟨lb, lo, rfl, _, c0, _⟩ := HCL.out k y hy
      by_cases hxy : y = x
      · have n1 : (y.toList == x.toList) = true := by rw [str_eq, decide_eq_true hxy]
        have R := Lib.hid (show hasB l x = true from decide_eq_true (by rw [← hxy]; exact List.mem_of_getElem? hy))
        clear hy hxy
        go_wp2
        go_ret
        exact ⟨by rw [R.out]; rfl, rfl⟩
      · have n1 : (y.toList == x.toList) = false := by rw [str_eq, decide_eq_false hxy]
        have HI2 := Lib.hid (show ∀ j, j < k + 1 → l[j]? ≠ some x from fun j hj => by
          rcases Nat.lt_or_ge j k with q | q
          · exact HI.out j q
          · obtain rfl : j = k := by omega
            rw [hy]; exact fun e => hxy (Option.some.inj e))
        clear hy hxy
        go_wp2
        go_round
        case rel => exact ⟨k + 1, by omega, by go_num, HI2⟩
        case measure => simp [intOf]; omega
    · obtain rfl : k = l.length := by omega
      have R := Lib.hid (show hasB l x = false from decide_eq_false (idx_none HI.out))
      go_wp2
      go_ret
      exact ⟨by rw [R.out]; rfl, rfl⟩
end
end Go.Proofs.YtdgmjablkdemmaaGreat
