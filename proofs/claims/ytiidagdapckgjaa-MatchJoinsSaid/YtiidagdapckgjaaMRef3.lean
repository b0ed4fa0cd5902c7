/-
  Lists of hits: same.
-/
import Derived.Test.YtiidagdapckgjaaMRef2
namespace Go.Proofs.Ytiidagdapckgjaa
open Go.RowKit Go.Maps

/-- A slice of hits, to be read. -/
def HitsAt (w : World) (v : Value) (G : Nat → Prop) (l : List (Nat × Nat)) : Prop :=
  ∃ la cap, v = .slice la l.length cap ∧ l.length ≤ maxLen ∧ ∀ (j : Nat) h, l[j]? = some h → ∃ g o, la = some ⟨g, o, none⟩ ∧ G g ∧ w.cell? ⟨g, o + j * 2, none⟩ = some (.int .i64 (h.1 : Int)) ∧ w.cell? ⟨g, o + j * 2 + 1, none⟩ = some (.int .i64 (h.2 : Int))
theorem HitsAt.chg {S : Nat → Prop} {w w' : World} {v : Value} {G : Nat → Prop} {l : List (Nat × Nat)} (h : HitsAt w v G l) (hc : Chg S w w') (hs : ∀ k, G k → ¬ S k) : HitsAt w' v G l := by
  obtain ⟨la, cap, h1, h2, h3⟩ := h
  exact ⟨la, cap, h1, h2, fun j x hj => by obtain ⟨g, o, q1, q2, q3, q4⟩ := h3 j x hj; exact ⟨g, o, q1, q2, cell_chg hc (hs g q2) q3, cell_chg hc (hs g q2) q4⟩⟩
theorem hcells_length (l : List (Nat × Nat)) : (hcells l).length = 2 * l.length := by
  induction l with
  | nil => rfl
  | cons c r ih => simp [hcells] at ih ⊢; omega
theorem hcells_get (l : List (Nat × Nat)) : ∀ (k : Nat) c, l[k]? = some c → (hcells l)[2 * k]? = some (.int .i64 (c.1 : Int)) ∧ (hcells l)[2 * k + 1]? = some (.int .i64 (c.2 : Int)) := by
  induction l with
  | nil => intro k c h; simp at h
  | cons x r ih =>
    intro k c h
    rcases k with _ | k
    · simp at h; subst h; exact ⟨rfl, rfl⟩
    · have := ih k c (by simpa using h)
      show (Value.int .i64 (x.1 : Int) :: Value.int .i64 (x.2 : Int) :: hcells r)[2 * (k + 1)]? = _ ∧ (Value.int .i64 (x.1 : Int) :: Value.int .i64 (x.2 : Int) :: hcells r)[2 * (k + 1) + 1]? = _
      rw [show 2 * (k + 1) = 2 * k + 1 + 1 from by omega]
      simpa using this
theorem hitsAt_own {w : World} {base : Nat} {v : Value} {l : List (Nat × Nat)} (h : w.ownsRow base 32 2 v l.length (hcells l)) : HitsAt w v (fun k => v.ownBlock = some k) l := by
  have h0 := h
  obtain ⟨h1, ⟨rfl, h2⟩ | ⟨g, cap, cur, rfl, hg, hh, q1, q2, q3, q4⟩⟩ := h
  · refine ⟨none, 0, by rw [h2], by rw [h2]; unfold maxLen; omega, fun j x hj => ?_⟩
    have : j < l.length := (List.getElem?_eq_some_iff.1 hj).1
    omega
  · refine ⟨_, cap, rfl, by omega, fun j x hj => ⟨g, 0, rfl, rfl, ?_, ?_⟩⟩
    · have hj' : j < l.length := (List.getElem?_eq_some_iff.1 hj).1
      have := h0.cellAt (j := j * 2) (by omega)
      rw [Nat.zero_add, this, show j * 2 = 2 * j from by omega]
      exact (hcells_get l j x hj).1
    · have hj' : j < l.length := (List.getElem?_eq_some_iff.1 hj).1
      have := h0.cellAt (j := j * 2 + 1) (by omega)
      rw [Nat.zero_add, this, show j * 2 + 1 = 2 * j + 1 from by omega]
      exact (hcells_get l j x hj).2
theorem same_any (w : World) (va vb : Value) (a b : List (Nat × Nat)) (G G' : Nat → Prop) (ha : HitsAt w va G a) (hb : HitsAt w vb G' b) :
    Calls Try.prog 15 #[va, vb] w fun e w' => e = .returned (.bool (decide (a = b))) ∧ Chg (fun _ => False) w w' := by
  obtain ⟨la, ca, rfl, hl1, hl3⟩ := ha
  obtain ⟨lb, cb, rfl, hm1, hm3⟩ := hb
  have HL3 := Lib.hid hl3
  have HM3 := Lib.hid hm3
  unfold maxLen at hl1 hm1
  clear hl3 hm3
  by_cases hlen : a.length = b.length
  · have HLEN := Lib.hid hlen
    rw [← hlen] at hm1 ⊢
    clear hlen
    have hne : ((a.length : Int) != (a.length : Int)) = false := by simp
    go_enter Try.func15, Try.ntmps15
    go_wp2
    go_loopw [13] (fun iv wr => ∃ k : Nat, k ≤ a.length ∧ iv = .int .i64 k ∧ Hid (∀ j, j < k → a[j]? = b[j]?) ∧ Chg (fun _ => False) w wr) (fun iv _ => a.length - (intOf iv).toNat)
    case atStart => exact ⟨0, by omega, rfl, Lib.hid (fun j hj => by omega), Chg.refl _ _⟩
    case round =>
      obtain ⟨k, hk, rfl, HZ, hc⟩ := hrel
      by_cases hlt : k < a.length
      · obtain ⟨x, hx⟩ : ∃ x, a[k]? = some x := ⟨_, List.getElem?_eq_getElem hlt⟩
        obtain ⟨y, hy⟩ : ∃ y, b[k]? = some y := ⟨_, List.getElem?_eq_getElem (by rw [← HLEN.out]; exact hlt)⟩
        obtain ⟨ga, oa, rfl, _, a0, a1⟩ := HL3.out k x hx
        obtain ⟨gb, ob, rfl, _, b0, b1⟩ := HM3.out k y hy
        have c0 := cell_chg hc (fun e => e) a0
        have c1 := cell_chg hc (fun e => e) a1
        have e0 := cell_chg hc (fun e => e) b0
        have e1 := cell_chg hc (fun e => e) b1
        obtain ⟨x1, x2⟩ := x
        obtain ⟨y1, y2⟩ := y
        have HC := Lib.hid hc
        have HX := Lib.hid hx
        have HY := Lib.hid hy
        simp only at c0 c1 e0 e1
        clear a0 a1 b0 b1 hc hx hy
        by_cases h1 : x1 = y1
        · subst h1
          have g1 : ((x1 : Int) == (x1 : Int)) = true := by simp
          by_cases h2 : x2 = y2
          · subst h2
            have g2 : ((x2 : Int) == (x2 : Int)) = true := by simp
            have HZ2 := Lib.hid (show ∀ j, j < k + 1 → a[j]? = b[j]? from fun j hj => by
              rcases Nat.lt_or_ge j k with q | q
              · exact HZ.out j q
              · obtain rfl : j = k := by omega
                rw [HX.out, HY.out])
            go_wp2
            refine wp_still_drew (by kernel_rfl) (by kernel_rfl) ?_
            repeat still_step
            refine wpStill_nil ?_
            go_wp2
            go_roundw
            case rel => exact ⟨k + 1, by omega, by go_num, HZ2, HC.out.drew⟩
            case measure => simp [intOf]; omega
          · have g2 : ((x2 : Int) == (y2 : Int)) = false := by rw [beq_eq_false_iff_ne]; omega
            have R := Lib.hid (show decide (a = b) = false by
              rw [decide_eq_false_iff_not]; rintro rfl
              have := HX.out.symm.trans HY.out
              cases this
              exact h2 rfl)
            clear h2
            go_wp2
            refine wp_still_drew (by kernel_rfl) (by kernel_rfl) ?_
            repeat still_step
            refine wpStill_nil ?_
            go_wp2
            go_ret
            exact ⟨by rw [R.out]; rfl, HC.out.drew⟩
        · have g1 : ((x1 : Int) == (y1 : Int)) = false := by rw [beq_eq_false_iff_ne]; omega
          have R := Lib.hid (show decide (a = b) = false by
            rw [decide_eq_false_iff_not]; rintro rfl
            have := HX.out.symm.trans HY.out
            cases this
            exact h1 rfl)
          clear h1
          go_wp2
          refine wp_still_drew (by kernel_rfl) (by kernel_rfl) ?_
          repeat still_step
          refine wpStill_nil ?_
          go_wp2
          go_ret
          exact ⟨by rw [R.out]; rfl, HC.out.drew⟩
      · obtain rfl : k = a.length := by omega
        have R := Lib.hid (show decide (a = b) = true by
          rw [decide_eq_true_eq]
          apply List.ext_getElem?
          intro j
          rcases Nat.lt_or_ge j a.length with q | q
          · exact HZ.out j q
          · rw [List.getElem?_eq_none q, List.getElem?_eq_none (by rw [← HLEN.out]; exact q)])
        have hkd : decide (a.length < a.length) = false := by simp
        have HC := Lib.hid hc
        clear hc
        go_wp2
        go_ret
        exact ⟨by rw [R.out]; rfl, HC.out⟩
  · have R := Lib.hid (show decide (a = b) = false by rw [decide_eq_false_iff_not]; rintro rfl; exact hlen rfl)
    have hne : ((a.length : Int) != (b.length : Int)) = true := by rw [bne_iff_ne]; omega
    clear hlen
    go_enter Try.func15, Try.ntmps15
    go_wp2
    go_ret
    exact ⟨by rw [R.out]; rfl, Chg.refl _ _⟩
end Go.Proofs.Ytiidagdapckgjaa
