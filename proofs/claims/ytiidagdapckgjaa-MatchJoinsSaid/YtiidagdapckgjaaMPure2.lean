/-
  Where words stand: what the machine collects at a place, sorted, is the list of the words that begin there.
-/
import Derived.Test.YtiidagdapckgjaaMSort
namespace Go.Proofs.Ytiidagdapckgjaa

/-- What is collected on the way: the words that end in the first j states. -/
def accTo (wh : List Nat → List Nat) (A : List Nat) : Nat → List Nat
  | 0 => []
  | j + 1 => accTo wh A j ++ wh (A.take (j + 1))
theorem accTo_mem {wh : List Nat → List Nat} {A : List Nat} : ∀ {j i : Nat}, i ∈ accTo wh A j ↔ ∃ t, 1 ≤ t ∧ t ≤ j ∧ i ∈ wh (A.take t)
  | 0, i => by simp [accTo]; intro t h1 h2; omega
  | j + 1, i => by
    rw [accTo, List.mem_append, accTo_mem]
    constructor
    · rintro (⟨t, h1, h2, h3⟩ | h)
      · exact ⟨t, h1, by omega, h3⟩
      · exact ⟨j + 1, by omega, by omega, h⟩
    · rintro ⟨t, h1, h2, h3⟩
      rcases Nat.lt_or_ge j t with q | q
      · obtain rfl : t = j + 1 := by omega
        exact .inr h3
      · exact .inl ⟨t, h1, q, h3⟩
theorem whichTo_mem {l : List (List UInt8)} {n i : Nat} {q : List Nat} : i ∈ whichTo l n q ↔ i < n ∧ mayB (l.getD i []) = true ∧ atoms (l.getD i []) = q := by
  unfold whichTo; simp [List.mem_filter]
theorem whichTo_nodup (l : List (List UInt8)) (n : Nat) (q : List Nat) : (whichTo l n q).Nodup := List.Pairwise.filter _ List.nodup_range
theorem accTo_nodup (l : List (List UInt8)) (n : Nat) (A : List Nat) : ∀ j, j ≤ A.length → (accTo (whichTo l n) A j).Nodup
  | 0, _ => by simp [accTo]
  | j + 1, hj => by
    rw [accTo, List.nodup_append]
    refine ⟨accTo_nodup l n A j (by omega), whichTo_nodup l n _, fun a ha b hb => ?_⟩
    rintro rfl
    obtain ⟨t, h1, h2, h3⟩ := accTo_mem.1 ha
    have e1 := (whichTo_mem.1 h3).2.2
    have e2 := (whichTo_mem.1 hb).2.2
    have := congrArg List.length (e1.symm.trans e2)
    simp only [List.length_take] at this
    omega
theorem accTo_length (l : List (List UInt8)) (n : Nat) (A : List Nat) (j : Nat) (hj : j ≤ A.length) : (accTo (whichTo l n) A j).length ≤ n := by
  have hn := accTo_nodup l n A j hj
  have hs : accTo (whichTo l n) A j ⊆ List.range n := fun i hi => by
    obtain ⟨t, _, _, h3⟩ := accTo_mem.1 hi
    exact List.mem_range.2 (whichTo_mem.1 h3).1
  have := hn.length_le_of_subset hs
  simpa using this
/-- What begins a path is a path. -/
theorem Tree.take {ps : List (List Nat)} (h : Tree ps) (A : List Nat) : ∀ (d j : Nat), A.take (j + d) ∈ ps → A.take j ∈ ps
  | 0, j, hm => hm
  | d + 1, j, hm => by
    rcases Nat.lt_or_ge (j + d) A.length with q | q
    · refine Tree.take h A d j ?_
      have : A.take (j + (d + 1)) = A.take (j + d) ++ [A[j + d]] := by
        rw [show j + (d + 1) = j + d + 1 from by omega, List.take_succ_eq_append_getElem q]
      rw [this] at hm
      exact h.down _ _ hm
    · refine Tree.take h A d j ?_
      rw [List.take_of_length_le q]
      rw [List.take_of_length_le (by omega)] at hm
      exact hm
theorem sorted_unique : ∀ {a b : List Nat}, a.Pairwise (· ≤ ·) → b.Pairwise (· ≤ ·) → a.Nodup → b.Nodup → (∀ x, x ∈ a ↔ x ∈ b) → a = b
  | [], [], _, _, _, _, _ => rfl
  | [], y :: b, _, _, _, _, h => by have := (h y).2 (by simp); simp at this
  | x :: a, [], _, _, _, _, h => by have := (h x).1 (by simp); simp at this
  | x :: a, y :: b, ha, hb, na, nb, h => by
    rw [List.pairwise_cons] at ha hb
    rw [List.nodup_cons] at na nb
    have hxy : x = y := by
      have h1 : x ∈ y :: b := (h x).1 (by simp)
      have h2 : y ∈ x :: a := (h y).2 (by simp)
      rw [List.mem_cons] at h1 h2
      rcases h1 with h1 | h1
      · exact h1
      · rcases h2 with h2 | h2
        · exact h2.symm
        · have := hb.1 x h1; have := ha.1 y h2; omega
    subst hxy
    congr 1
    refine sorted_unique ha.2 hb.2 na.2 nb.2 (fun z => ?_)
    have := h z
    rw [List.mem_cons, List.mem_cons] at this
    constructor
    · intro hz
      rcases this.1 (.inr hz) with rfl | q
      · exact absurd hz na.1
      · exact q
    · intro hz
      rcases this.2 (.inr hz) with rfl | q
      · exact absurd hz nb.1
      · exact q
theorem here_end (l : List (List UInt8)) (w : List UInt8) (place j : Nat) (hj : j ≤ ((atoms w).drop place).length) (hs : j = ((atoms w).drop place).length ∨ ((atoms w).drop place).take (j + 1) ∉ pathsTo l l.length) :
    sorted (accTo (whichTo l l.length) ((atoms w).drop place) j) = hereL l w place := by
  have np : (accTo (whichTo l l.length) ((atoms w).drop place) j).Nodup := accTo_nodup _ _ _ _ hj
  refine sorted_unique (sorted_pairwise _) ?_ ((sorted_perm _).nodup_iff.2 np) (List.Pairwise.filter _ List.nodup_range) (fun i => ?_)
  · exact (List.Pairwise.filter _ List.pairwise_lt_range).imp (fun h => Nat.le_of_lt h)
  · rw [(sorted_perm _).mem_iff, accTo_mem]
    unfold hereL standsB
    simp only [List.mem_filter, List.mem_range, Bool.and_eq_true, List.isPrefixOf_iff_prefix]
    constructor
    · rintro ⟨t, h1, h2, h3⟩
      obtain ⟨q1, q2, q3⟩ := whichTo_mem.1 h3
      exact ⟨q1, q2, by rw [q3]; exact List.take_prefix _ _⟩
    · rintro ⟨q1, q2, q3⟩
      have hl : 1 ≤ (atoms (l.getD i [])).length := by rw [atoms_length]; exact ((mayB_iff _).1 q2).2.1
      have ht : ((atoms w).drop place).take (atoms (l.getD i [])).length = atoms (l.getD i []) := (List.prefix_iff_eq_take.1 q3).symm
      refine ⟨(atoms (l.getD i [])).length, hl, ?_, whichTo_mem.2 ⟨q1, q2, ht.symm⟩⟩
      have hle := q3.length_le
      rcases hs with hs | hs
      · omega
      · rcases Nat.lt_or_ge j (atoms (l.getD i [])).length with q | q
        · exfalso
          apply hs
          have hm := pathsTo_mem l l.length i q1 q2
          refine (tree_pathsTo l l.length).take ((atoms w).drop place) ((atoms (l.getD i [])).length - (j + 1)) (j + 1) ?_
          rw [show j + 1 + ((atoms (l.getD i [])).length - (j + 1)) = (atoms (l.getD i [])).length from by omega, ht]
          exact hm
        · exact q
end Go.Proofs.Ytiidagdapckgjaa
