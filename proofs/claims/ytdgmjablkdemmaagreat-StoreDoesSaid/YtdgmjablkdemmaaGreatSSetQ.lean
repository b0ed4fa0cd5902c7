/-
  The reference's Equal.
-/
import Derived.Test.YtdgmjablkdemmaaGreatSSet
namespace Go.Proofs.YtdgmjablkdemmaaGreat
open Go.RowKit Go.Maps

section
variable (w : World) (v u : Value) (G G' : Nat → Prop) (l m : List ByteArray)
theorem requal_any (hv : WordsAt w v G l) (hu : WordsAt w u G' m) : Calls Tryz.prog 48 #[v, u] w fun e w' => e = .returned (.bool (sameB l m)) ∧ Drawn w w' := by
  obtain ⟨la, cap, rfl, hl0, hcl⟩ := hv
  obtain ⟨ma, mcap, rfl, hm0, hcm⟩ := hu
  have HCL := Lib.hid hcl
  have HCM := Lib.hid hcm
  unfold maxLen at hl0 hm0
  clear hcl hcm
  by_cases hlen : l.length = m.length
  · have g : ((l.length : Int) != (m.length : Int)) = false := by rw [bne_eq_false_iff_eq]; omega
    have g2 : ((l.length : Int) == (m.length : Int)) = true := by rw [beq_iff_eq]; omega
    have HL := Lib.hid hlen
    have hle1 : l.length ≤ m.length := by omega
    have hle2 : m.length ≤ l.length := by omega
    clear hlen
    go_enter Tryz.func48, Tryz.ntmps48
    go_wp2
    go_loopw [5] (fun iv wr => ∃ k : Nat, k ≤ l.length ∧ iv = .int .i64 k ∧ Hid ((∀ j, j < k → l[j]? = m[j]?) ∧ Drawn w wr)) (fun iv _ => l.length - (intOf iv).toNat)
    case atStart => exact ⟨0, by omega, rfl, Lib.hid ⟨fun j hj => by omega, Drawn.refl _⟩⟩
    case round =>
      obtain ⟨k, hk, rfl, HI⟩ := hrel
      by_cases hlt : k < l.length
      · have hltm : k < m.length := by omega
        obtain ⟨y, hy⟩ : ∃ y, l[k]? = some y := ⟨_, List.getElem?_eq_getElem hlt⟩
        obtain ⟨z, hz⟩ : ∃ z, m[k]? = some z := ⟨_, List.getElem?_eq_getElem hltm⟩
        obtain ⟨lb, lo, rfl, _, c0', _⟩ := HCL.out k y hy
        obtain ⟨mb, mo, rfl, _, d0', _⟩ := HCM.out k z hz
        have c0 := drawn_cell HI.out.2 c0'
        have d0 := drawn_cell HI.out.2 d0'
        have DR := Lib.hid HI.out.2
        by_cases hxy : y = z
        · have n1 : (y.toList != z.toList) = false := by rw [str_ne, decide_eq_true hxy]; rfl
          have n2 : (y.toList == z.toList) = true := by rw [str_eq, decide_eq_true hxy]
          have HI2 := Lib.hid (show ∀ j, j < k + 1 → l[j]? = m[j]? from fun j hj => by
            rcases Nat.lt_or_ge j k with q | q
            · exact HI.out.1 j q
            · obtain rfl : j = k := by omega
              rw [hy, hz, hxy])
          clear hy hz hxy c0' d0' HI
          go_wp2_with fail
          go_quiet (fail)
          rename_i nq
          have DQ := Lib.hid (show Drawn w (wr.drewN nq) from DR.out.trans ⟨nq, rfl⟩)
          go_wp2
          go_roundw
          case rel => exact ⟨k + 1, by omega, by go_num, Lib.hid ⟨HI2.out, DQ.out⟩⟩
          case measure => simp [intOf]; omega
        · have n1 : (y.toList != z.toList) = true := by rw [str_ne, decide_eq_false hxy]; rfl
          have n2 : (y.toList == z.toList) = false := by rw [str_eq, decide_eq_false hxy]
          have R := Lib.hid (show sameB l m = false from decide_eq_false (fun e => by rw [e, hz] at hy; exact hxy (Option.some.inj hy).symm))
          clear hy hz hxy c0' d0' HI
          go_wp2_with fail
          go_quiet (fail)
          rename_i nq
          have DQ := Lib.hid (show Drawn w (wr.drewN nq) from DR.out.trans ⟨nq, rfl⟩)
          go_wp2
          go_ret
          exact ⟨by rw [R.out]; rfl, DQ.out⟩
      · obtain rfl : k = l.length := by omega
        have R := Lib.hid (show sameB l m = true from decide_eq_true (same_of HL.out HI.out.1))
        go_wp2
        go_ret
        exact ⟨by rw [R.out]; rfl, HI.out.2⟩
  · have g : ((l.length : Int) != (m.length : Int)) = true := by rw [bne_iff_ne]; omega
    have g2 : ((l.length : Int) == (m.length : Int)) = false := by rw [beq_eq_false_iff_ne]; omega
    have R := Lib.hid (show sameB l m = false from decide_eq_false (fun e => hlen (by rw [e])))
    clear hlen
    go_enter Tryz.func48, Tryz.ntmps48
    go_wp2
    go_ret
    exact ⟨by rw [R.out]; rfl, Drawn.refl _⟩
end
end Go.Proofs.YtdgmjablkdemmaaGreat
