/-
  The reference's May; large, same.
-/
import Derived.Test.YtiidagdapckgjaaMRef
namespace Go.Proofs.Ytiidagdapckgjaa
open Go.RowKit Go.Maps

theorem own_get {w : World} {base : Nat} {e : TypeId} {v : Value} {n : Nat} {xs : List Value} (h : w.ownsRow base e 1 v n xs) : ∃ a cap, v = .slice a n cap ∧ n ≤ maxLen ∧ ∀ (j : Nat) x, xs[j]? = some x → ∃ g, a = some ⟨g, 0, none⟩ ∧ base ≤ g ∧ w.cell? ⟨g, j, none⟩ = some x := by
  have h0 := h
  obtain ⟨h1, ⟨rfl, h2⟩ | ⟨g, cap, cur, rfl, hg, hh, q1, q2, q3, q4⟩⟩ := h
  · refine ⟨none, 0, by rw [h2], by rw [h2]; unfold maxLen; omega, fun j x hj => ?_⟩
    have : j < xs.length := (List.getElem?_eq_some_iff.1 hj).1
    omega
  · refine ⟨_, cap, rfl, by omega, fun j x hj => ⟨g, rfl, hg, ?_⟩⟩
    have hj' : j < xs.length := (List.getElem?_eq_some_iff.1 hj).1
    have := h0.cellAt (j := j) (by omega)
    rw [this, hj]
theorem rmay_any (w : World) (s : ByteArray) (hs : s.size ≤ 100000) :
    Calls Try.prog 16 #[.string s] w fun e w' => e = .returned (.bool (mayB s.data.toList)) ∧ Chg (fun _ => False) w w' := by
  have hsl := size_list s
  have ATO := Lib.hid (ratoms_any w s hs)
  have AL := Lib.hid (atoms_length s.data.toList)
  have AG := Lib.hid (show ∀ i, i < alen s.data.toList → (acells (atoms s.data.toList))[i]? = some (.int .u16 (atomAt s.data.toList i : Nat)) from fun i hi => by unfold acells; rw [List.getElem?_map, atoms_get _ hi]; rfl)
  have MI := Lib.hid (mayB_iff s.data.toList)
  rw [hsl] at MI
  have hn2 : alen s.data.toList ≤ 100000 := by unfold alen; omega
  have MN := Lib.hid (show ∀ i, i < alen s.data.toList → atomAt s.data.toList i = 0 → mayB s.data.toList = false from fun i hi h => mayB_no3 hi h)
  have ALT := Lib.hid (fun k => atomAt_lt s.data.toList k)
  rw [AL.out] at ATO
  clear hsl
  generalize alen s.data.toList = n at *
  go_enter Try.func16, Try.ntmps16
  go_wp2_with fail
  refine (ATO.out).mono ?_
  rintro e w1 ⟨v1, rfl, o1, c1⟩
  obtain ⟨ra, rc, rfl, hrl, hcl⟩ := own_get o1
  have HCL := Lib.hid hcl
  have C1 := Lib.hid c1
  unfold maxLen at hrl
  clear o1 c1 hcl
  go_wp2
  go_loop [4] (fun iv => ∃ k : Nat, k ≤ n ∧ iv = .int .i64 k ∧ Hid (∀ i, i < k → atomAt s.data.toList i ≠ 0)) (fun iv => n - (intOf iv).toNat)
  case atStart => exact ⟨0, by omega, rfl, Lib.hid (fun i hi => by omega)⟩
  case round =>
    obtain ⟨k, hk, rfl, HZ⟩ := hrel
    by_cases hlt : k < n
    · obtain ⟨g, rfl, _, cx⟩ := HCL.out k _ (AG.out k hlt)
      have hal := ALT.out k
      by_cases hz : atomAt s.data.toList k = 0
      · have HF := Lib.hid (MN.out k hlt hz)
        rw [hz] at cx
        clear hz
        go_wp2
        go_ret
        exact ⟨by rw [HF.out]; rfl, C1.out⟩
      · have hz1 : (((atomAt s.data.toList k : Nat) : Int) == 0) = false := by rw [beq_eq_false_iff_ne]; omega
        have HZ2 := Lib.hid (show ∀ i, i < k + 1 → atomAt s.data.toList i ≠ 0 from fun i hi => by
          rcases Nat.lt_or_ge i k with q | q
          · exact HZ.out i q
          · obtain rfl : i = k := by omega
            exact hz)
        clear hz
        generalize atomAt s.data.toList k = ak at *
        go_wp2
        go_round
        case rel => exact ⟨k + 1, by omega, by go_num, HZ2⟩
        case measure => simp [intOf]; omega
    · obtain rfl : k = n := by omega
      have MB := Lib.hid (show mayB s.data.toList = (decide (s.size % 2 = 0) && decide (1 ≤ k) && decide (k ≤ 8)) by
        rw [Bool.eq_iff_iff, MI.out]
        simp only [Bool.and_eq_true, decide_eq_true_eq]
        constructor
        · rintro ⟨h1, h2, h3, _⟩; exact ⟨⟨h1, h2⟩, h3⟩
        · rintro ⟨⟨h1, h2⟩, h3⟩; exact ⟨h1, h2, h3, HZ.out⟩)
      have hkd : decide (k < k) = false := by simp
      clear HCL AG MN MI HZ hlt
      by_cases h1 : s.size % 2 = 0
      · have g1 : ((s.size : Int) % 2 == 0) = true := by rw [beq_iff_eq]; omega
        by_cases h2 : 1 ≤ k
        · have g2 : decide (1 ≤ (k : Int)) = true := by rw [decide_eq_true_eq]; omega
          by_cases h3 : k ≤ 8
          · have g3 : decide ((k : Int) ≤ 8) = true := by rw [decide_eq_true_eq]; omega
            have R := Lib.hid (show mayB s.data.toList = true by rw [MB.out]; simp [h1, h2, h3])
            clear h1 MB
            go_wp2
            go_ret
            exact ⟨by rw [R.out]; rfl, C1.out⟩
          · have g3 : decide ((k : Int) ≤ 8) = false := by rw [decide_eq_false_iff_not]; omega
            have R := Lib.hid (show mayB s.data.toList = false by rw [MB.out]; simp [h3])
            clear h1 MB
            go_wp2
            go_ret
            exact ⟨by rw [R.out]; rfl, C1.out⟩
        · have g2 : decide (1 ≤ (k : Int)) = false := by rw [decide_eq_false_iff_not]; omega
          have R := Lib.hid (show mayB s.data.toList = false by rw [MB.out]; simp [h2])
          clear h1 MB
          go_wp2
          go_ret
          exact ⟨by rw [R.out]; rfl, C1.out⟩
      · have g1 : ((s.size : Int) % 2 == 0) = false := by rw [beq_eq_false_iff_ne]; omega
        have R := Lib.hid (show mayB s.data.toList = false by rw [MB.out]; simp [h1])
        clear h1 MB
        go_wp2
        go_ret
        exact ⟨by rw [R.out]; rfl, C1.out⟩
/-- Too much to be looked at? -/
def largeB (l : List ByteArray) (s : ByteArray) : Bool := decide (100 < l.length) || decide (400 < s.size) || l.any (fun x => decide (400 < x.size))
theorem large_any (w : World) (v : Value) (l : List ByteArray) (s : ByteArray) (G : Nat → Prop) (hv : WordsAt w v G l) (hs : s.size ≤ maxLen) :
    Calls Try.prog 9 #[v, .string s] w fun e w' => e = .returned (.bool (largeB l s)) ∧ w = w' := by
  obtain ⟨la, cap, rfl, hl1, hl3⟩ := hv
  have HL3 := Lib.hid hl3
  unfold maxLen at hl1 hs
  clear hl3
  by_cases h1 : 100 < l.length
  · have R := Lib.hid (show largeB l s = true by simp [largeB, h1])
    go_enter Try.func9, Try.ntmps9
    go_wp2
    go_ret
    exact ⟨by rw [R.out]; rfl, rfl⟩
  have g1 : decide (100 < (l.length : Int)) = false := by rw [decide_eq_false_iff_not]; omega
  by_cases h2 : 400 < s.size
  · have g2 : decide (400 < (s.size : Int)) = true := by rw [decide_eq_true_eq]; omega
    have R := Lib.hid (show largeB l s = true by simp [largeB, h2])
    go_enter Try.func9, Try.ntmps9
    go_wp2
    go_ret
    exact ⟨by rw [R.out]; rfl, rfl⟩
  have g2 : decide (400 < (s.size : Int)) = false := by rw [decide_eq_false_iff_not]; omega
  have RB := Lib.hid (show largeB l s = l.any (fun x => decide (400 < x.size)) by simp [largeB, h1, h2])
  go_enter Try.func9, Try.ntmps9
  go_wp2
  go_loop [16] (fun iv => ∃ k : Nat, k ≤ l.length ∧ iv = .int .i64 k ∧ Hid (∀ j x, j < k → l[j]? = some x → x.size ≤ 400)) (fun iv => l.length - (intOf iv).toNat)
  case atStart => exact ⟨0, by omega, rfl, Lib.hid (fun j x hj => by omega)⟩
  case round =>
    obtain ⟨k, hk, rfl, HZ⟩ := hrel
    by_cases hlt : k < l.length
    · obtain ⟨x, hx⟩ : ∃ x, l[k]? = some x := ⟨_, List.getElem?_eq_getElem hlt⟩
      obtain ⟨lb, lo, rfl, _, c0, hxm⟩ := HL3.out k x hx
      have HX := Lib.hid hx
      unfold maxLen at hxm
      clear hx
      by_cases h4 : 400 < x.size
      · have R := Lib.hid (show largeB l s = true by rw [RB.out, List.any_eq_true]; exact ⟨x, List.mem_of_getElem? HX.out, by simpa using h4⟩)
        go_wp2
        go_ret
        exact ⟨by rw [R.out]; rfl, rfl⟩
      · have g4 : decide (400 < (x.size : Int)) = false := by rw [decide_eq_false_iff_not]; omega
        have HZ2 := Lib.hid (show ∀ j y, j < k + 1 → l[j]? = some y → y.size ≤ 400 from fun j y hj hy => by
          rcases Nat.lt_or_ge j k with q | q
          · exact HZ.out j y q hy
          · obtain rfl : j = k := by omega
            rw [HX.out] at hy; cases hy; omega)
        go_wp2
        go_round
        case rel => exact ⟨k + 1, by omega, by go_num, HZ2⟩
        case measure => simp [intOf]; omega
    · obtain rfl : k = l.length := by omega
      have R := Lib.hid (show largeB l s = false by
        rw [RB.out, List.any_eq_false]
        intro x hx
        obtain ⟨j, hj⟩ := List.mem_iff_getElem?.1 hx
        have := HZ.out j x (List.getElem?_eq_some_iff.1 hj).1 hj
        simp; omega)
      go_wp2
      go_ret
      exact ⟨by rw [R.out]; rfl, rfl⟩
end Go.Proofs.Ytiidagdapckgjaa
