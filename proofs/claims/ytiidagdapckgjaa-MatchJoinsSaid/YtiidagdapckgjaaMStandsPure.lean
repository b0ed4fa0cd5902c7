/-
  Layer 10: hits stand where they say, and rise (plain).
-/
import Derived.Test.YtiidagdapckgjaaMTwicePure
import Derived.Test.YtiidagdapckgjaaMPure3
namespace Go.Proofs.Ytiidagdapckgjaa

def Rise (x y : Nat × Nat) : Prop := x.1 < y.1 ∨ x.1 = y.1 ∧ x.2 < y.2
theorem hereL_mem {L : List (List UInt8)} {w : List UInt8} {a i : Nat} : i ∈ hereL L w a ↔ i < L.length ∧ standsB (L.getD i []) w a = true := by
  unfold hereL; rw [List.mem_filter, List.mem_range]
theorem hitsTo_mem {L : List (List UInt8)} {w : List UInt8} {a i : Nat} : ∀ {n : Nat}, (a, i) ∈ hitsTo L w n ↔ a < n ∧ i < L.length ∧ standsB (L.getD i []) w a = true
  | 0 => by simp [hitsTo]
  | n + 1 => by
    rw [hitsTo_succ, List.mem_append, hitsTo_mem, List.mem_map]
    constructor
    · rintro (h | ⟨j, hj, e⟩)
      · exact ⟨by omega, h.2⟩
      · cases e
        exact ⟨by omega, hereL_mem.1 hj⟩
    · rintro ⟨h1, h2⟩
      by_cases e : a < n
      · exact .inl ⟨e, h2⟩
      · obtain rfl : n = a := by omega
        exact .inr ⟨i, hereL_mem.2 h2, rfl⟩
theorem hitsTo_rise (L : List (List UInt8)) (w : List UInt8) : ∀ n, (hitsTo L w n).Pairwise Rise
  | 0 => List.Pairwise.nil
  | n + 1 => by
    rw [hitsTo_succ, List.pairwise_append]
    refine ⟨hitsTo_rise L w n, ?_, ?_⟩
    · rw [List.pairwise_map]
      refine List.Pairwise.imp (R := fun a b => a < b) (fun h => .inr ⟨rfl, h⟩) ?_
      unfold hereL
      exact List.Pairwise.filter _ List.pairwise_lt_range
    · rintro ⟨a, i⟩ h1 ⟨b, j⟩ h2
      rw [List.mem_map] at h2
      obtain ⟨_, _, e⟩ := h2
      cases e
      exact .inl (hitsTo_mem.1 h1).1
theorem hits_rise (L : List (List UInt8)) (w : List UInt8) {j : Nat} {x y : Nat × Nat} (hx : (hits L w)[j]? = some x) (hy : (hits L w)[j + 1]? = some y) : Rise x y := by
  have h := hitsTo_rise L w (alen w)
  rw [List.pairwise_iff_getElem] at h
  obtain ⟨l1, e1⟩ := List.getElem?_eq_some_iff.1 hx
  obtain ⟨l2, e2⟩ := List.getElem?_eq_some_iff.1 hy
  have := h j (j + 1) l1 l2 (by omega)
  unfold hits at e1 e2
  rwa [e1, e2] at this
theorem hits_stand {L : List (List UInt8)} {w : List UInt8} {j a i : Nat} (h : (hits L w)[j]? = some (a, i)) : i < L.length ∧ 2 * a + (L.getD i []).length ≤ w.length ∧ (w.drop (2 * a)).take (L.getD i []).length = L.getD i [] := by
  have h1 := hitsTo_mem.1 (List.mem_of_getElem? h)
  have h2 := h1.2.2
  rw [standsB_bytes, Bool.and_eq_true] at h2
  have h3 := h2.2
  unfold sameAt at h3
  rw [Bool.and_eq_true, decide_eq_true_eq, beq_iff_eq] at h3
  refine ⟨h1.2.1, ?_, h3.2⟩
  have := h3.1
  unfold alen at this
  omega
/-- Is the word found in itself? -/
def fnd (i : Nat) (l : List (Nat × Nat)) : Bool := l.any fun h => h.1 == 0 && h.2 == i
theorem fnd_snoc (i : Nat) (l : List (Nat × Nat)) (h : Nat × Nat) : fnd i (l ++ [h]) = (fnd i l || (h.1 == 0 && h.2 == i)) := by
  unfold fnd; rw [List.any_append]; simp
theorem isPrefixOf_self (l : List Nat) : l.isPrefixOf l = true := by
  rw [List.isPrefixOf_iff_prefix]; exact List.prefix_refl l
theorem fnd_own (L : List (List UInt8)) (i : Nat) (hi : i < L.length) : fnd i (hits L (L.getD i [])) = mayB (L.getD i []) := by
  rw [Bool.eq_iff_iff]
  unfold fnd
  rw [List.any_eq_true]
  constructor
  · rintro ⟨⟨a, j⟩, h1, h2⟩
    simp at h2
    obtain ⟨rfl, rfl⟩ := h2
    have := (hitsTo_mem.1 h1).2.2
    unfold standsB at this
    rw [Bool.and_eq_true] at this
    exact this.1
  · intro h
    refine ⟨(0, i), hitsTo_mem.2 ⟨?_, hi, ?_⟩, by simp⟩
    · have := ((mayB_iff _).1 h).2.1
      omega
    · unfold standsB
      rw [h, List.drop_zero, isPrefixOf_self]; rfl
end Go.Proofs.Ytiidagdapckgjaa
