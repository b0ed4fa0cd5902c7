/-
  The reference's All.
-/
import Derived.Test.YtbjdndialiddpaaRFind
namespace Go.Proofs.Ytbjdndialiddpaa
open Go.RowKit Go.Maps

section
variable {w : World} {v : Value} {R : List BRul} {s : ByteArray} {b : Int}
theorem rfind_err (hA : Asks w v R s) (h47 : Fit47 R) (hs : s.size ≤ 140737488355328) {k : Int} (h : rowErr R s b = k) (hk : k ≠ 0) : Calls Try.prog 41 #[v, .string s, .int .i64 b] w (FindBad w k) := by
  unfold rowErr at h
  by_cases h1 : askErr (mayB s.data.toList) b R.length = 0
  · rw [if_pos h1] at h
    have h2 : rowB R s b = none := by
      cases h2 : rowB R s b with
      | none => rfl
      | some r => rw [h2] at h; simp at h; exact absurd h.symm hk
    rw [if_pos h2] at h
    subst h
    obtain ⟨m1, m2, m3, m4⟩ := askErr_zero h1
    obtain ⟨n, rfl⟩ : ∃ n : Nat, b = n := ⟨b.toNat, by omega⟩
    refine (rfind_row w v R s n hA.rules h47 m4 m1 (by omega) (by omega)).mono fun e w' h => ?_
    unfold rowB at h2
    rw [Int.toNat_natCast] at h2
    exact h.2 h2
  · rw [if_neg h1] at h
    obtain ⟨la, cap, rfl, q1, q2⟩ := hA.rules
    rw [← h]
    exact rfind_bad w la R.length cap s b hs q1 h1
theorem rfind_ok (hA : Asks w v R s) (h47 : Fit47 R) (h : rowErr R s b = 0) {r : List Ent} (hr : rowB R s b = some r) : Calls Try.prog 41 #[v, .string s, .int .i64 b] w (FindGood w r) := by
  obtain ⟨h1, _⟩ := rowErr_zero h
  obtain ⟨m1, m2, m3, m4⟩ := askErr_zero h1
  obtain ⟨n, rfl⟩ : ∃ n : Nat, b = n := ⟨b.toNat, by omega⟩
  refine (rfind_row w v R s n hA.rules h47 m4 m1 (by omega) (by omega)).mono fun e w' h => ?_
  unfold rowB at hr
  rw [Int.toNat_natCast] at hr
  exact h.1 r hr
set_option maxRecDepth 100000 in
theorem rall_err (hA : Asks w v R s) (h47 : Fit47 R) (hs : s.size ≤ 140737488355328) {k : Int} (h : rowErr R s b = k) (hk : k ≠ 0) : Calls Try.prog 26 #[v, .string s, .int .i64 b] w fun e w' => e = .returned (.tuple #[.slice none 0 0, .int .i64 k]) ∧ Chg (fun _ => False) w w' := by
  have W := Lib.hid (rfind_err hA h47 hs h hk)
  have g : (k != 0) = true := by rw [bne_iff_ne]; exact hk
  obtain ⟨la, cap, rfl, _, _⟩ := hA.rules
  clear hA h hk
  go_enter Try.func26, Try.ntmps26
  go_wp2_with fail
  (with_reducible refine (W.out).mono ?_)
  rintro e w' ⟨rfl, kc⟩
  go_wp2
  go_ret2
  exact ⟨rfl, kc⟩
set_option maxRecDepth 100000 in
theorem rall_ok (hA : Asks w v R s) (h47 : Fit47 R) (h : rowErr R s b = 0) {r : List Ent} (hr : rowB R s b = some r) : Calls Try.prog 26 #[v, .string s, .int .i64 b] w fun e w' => ∃ va, e = .returned (.tuple #[va, .int .i64 0]) ∧ w'.ownsRow w.heap.size 40 1 va r.length (rwCells r) ∧ Chg (fun _ => False) w w' := by
  have W := Lib.hid (rfind_ok hA h47 h hr)
  obtain ⟨la, cap, rfl, _, _⟩ := hA.rules
  clear hA h hr
  go_enter Try.func26, Try.ntmps26
  go_wp2_with fail
  (with_reducible refine (W.out).mono ?_)
  rintro e w' ⟨bb, rfl, ⟨lv, fv, bv, hX⟩, kc⟩
  obtain ⟨aw, cw, rfl⟩ := own_shape hX.hl
  have c0 : w'.cell? ⟨bb, 0, none⟩ = some (.slice aw r.length cw) := cell_of hX.hb rfl
  have HX := Lib.hid hX
  clear hX
  go_wp2
  go_ret2
  exact ⟨_, rfl, HX.out.hl, kc⟩
end
end Go.Proofs.Ytbjdndialiddpaa

namespace Go.Proofs.Ytbjdndialiddpaa
theorem list_eq_of {α : Type} {a b : List α} (hl : a.length = b.length) (h : ∀ j, j < a.length → a[j]? = b[j]?) : a = b := by
  apply List.ext_getElem?
  intro j
  rcases Nat.lt_or_ge j a.length with q | q
  · exact h j q
  · rw [List.getElem?_eq_none q, List.getElem?_eq_none (by omega)]
end Go.Proofs.Ytbjdndialiddpaa
