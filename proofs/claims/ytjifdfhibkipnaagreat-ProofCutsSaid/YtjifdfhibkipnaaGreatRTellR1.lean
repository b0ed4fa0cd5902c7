/-
  The reference's All.
-/
import Derived.Test.YtjifdfhibkipnaaGreatRFind
namespace Go.Proofs.YtjifdfhibkipnaaGreat
open Go.RowKit Go.Maps

section
variable {w : World} {v : Value} {R : List BRul} {s : ByteArray} {b : Int}
theorem rfind_err (hA : Asks w v R s) (h47 : Fit47 R) (hs : s.size ≤ 140737488355328) {k : Int} (h : rowErr R s b = k) (hk : k ≠ 0) : Calls Tryz.prog 51 #[v, .string s, .int .i64 b] w (FindBad w k) := by
  unfold rowErr at h
  by_cases h1 : askErr (mayB s.data.toList) b R.length = 0
  · rw [if_pos h1] at h
    have h2 : rowB R s b = none := by
      cases h2 : rowB R s b with
      | none => rfl
      | some r => rw [h2] at h; simp at h; exact absurd h.symm hk
    rw [if_pos h2] at h
    subst h
    obtain ⟨m1, m2, m3, m4⟩ := askErr_zero h1
    obtain ⟨n, rfl⟩ : ∃ n : Nat, b = n := ⟨b.toNat, by omega⟩
    refine (rfind_row w v R s n hA.rules h47 m4 m1 (by omega) (by omega)).mono fun e w' h => ?_
    unfold rowB at h2
    rw [Int.toNat_natCast] at h2
    exact h.2 h2
  · rw [if_neg h1] at h
    obtain ⟨la, cap, rfl, q1, q2⟩ := hA.rules
    rw [← h]
    exact rfind_bad w la R.length cap s b hs q1 h1
theorem rfind_ok (hA : Asks w v R s) (h47 : Fit47 R) (h : rowErr R s b = 0) {r : List Ent} (hr : rowB R s b = some r) : Calls Tryz.prog 51 #[v, .string s, .int .i64 b] w (FindGood w r) := by
  obtain ⟨h1, _⟩ := rowErr_zero h
  obtain ⟨m1, m2, m3, m4⟩ := askErr_zero h1
  obtain ⟨n, rfl⟩ : ∃ n : Nat, b = n := ⟨b.toNat, by omega⟩
  refine (rfind_row w v R s n hA.rules h47 m4 m1 (by omega) (by omega)).mono fun e w' h => ?_
  unfold rowB at hr
  rw [Int.toNat_natCast] at hr
  exact h.1 r hr
end
end Go.Proofs.YtjifdfhibkipnaaGreat

namespace Go.Proofs.YtjifdfhibkipnaaGreat
theorem list_eq_of {α : Type} {a b : List α} (hl : a.length = b.length) (h : ∀ j, j < a.length → a[j]? = b[j]?) : a = b := by
  apply List.ext_getElem?
  intro j
  rcases Nat.lt_or_ge j a.length with q | q
  · exact h j q
  · rw [List.getElem?_eq_none q, List.getElem?_eq_none (by omega)]
end Go.Proofs.YtjifdfhibkipnaaGreat
