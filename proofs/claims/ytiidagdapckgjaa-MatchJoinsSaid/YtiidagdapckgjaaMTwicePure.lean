/-
  Layer 10: a word that is in the list twice (plain).
-/
import Derived.Test.YtiidagdapckgjaaMPure
namespace Go.Proofs.Ytiidagdapckgjaa

def cntTo (m w : List UInt8) (n : Nat) : Nat := (List.range n).countP fun a => standsB m w a
theorem getD_append_left (L : List (List UInt8)) (m : List UInt8) {i : Nat} (h : i < L.length) : (L ++ [m]).getD i [] = L.getD i [] := by
  rw [List.getD_eq_getElem?_getD, List.getD_eq_getElem?_getD, List.getElem?_append_left h]
theorem getD_append_end (L : List (List UInt8)) (m : List UInt8) : (L ++ [m]).getD L.length [] = m := by
  rw [List.getD_eq_getElem?_getD, List.getElem?_append_right (Nat.le_refl _), Nat.sub_self]; rfl
theorem hereL_snoc (L : List (List UInt8)) (m w : List UInt8) (a : Nat) : hereL (L ++ [m]) w a = hereL L w a ++ if standsB m w a then [L.length] else [] := by
  unfold hereL
  rw [List.length_append, List.length_singleton, List.range_succ, List.filter_append]
  congr 1
  · apply List.filter_congr
    intro i hi
    rw [List.mem_range] at hi
    rw [getD_append_left L m hi]
  · rw [List.filter_cons, getD_append_end, List.filter_nil]
theorem hereL_lt (L : List (List UInt8)) (w : List UInt8) (a i : Nat) (h : i ∈ hereL L w a) : i < L.length := by
  unfold hereL at h
  rw [List.mem_filter, List.mem_range] at h
  exact h.1
theorem twice_filter (L : List (List UInt8)) (m w : List UInt8) : ∀ n, (hitsTo (L ++ [m]) w n).filter (fun h => !(h.2 == L.length)) = hitsTo L w n
  | 0 => rfl
  | n + 1 => by
    rw [hitsTo_succ, hitsTo_succ, List.filter_append, twice_filter L m w n]
    congr 1
    rw [hereL_snoc, List.map_append, List.filter_append]
    have h1 : ((hereL L w n).map fun i => (n, i)).filter (fun h => !(h.2 == L.length)) = (hereL L w n).map fun i => (n, i) := by
      rw [List.filter_eq_self]
      intro h hh
      rw [List.mem_map] at hh
      obtain ⟨i, hi, rfl⟩ := hh
      have := hereL_lt L w n i hi
      simp; omega
    rw [h1]
    cases standsB m w n <;> simp
theorem cntTo_succ (m w : List UInt8) (n : Nat) : cntTo m w (n + 1) = cntTo m w n + if standsB m w n then 1 else 0 := by
  unfold cntTo
  rw [List.range_succ, List.countP_append]
  simp [List.countP_cons]
theorem twice_length (L : List (List UInt8)) (m w : List UInt8) : ∀ n, (hitsTo (L ++ [m]) w n).length = (hitsTo L w n).length + cntTo m w n
  | 0 => rfl
  | n + 1 => by
    rw [hitsTo_succ, hitsTo_succ, List.length_append, List.length_append, twice_length L m w n, List.length_map, List.length_map, hereL_snoc, List.length_append, cntTo_succ]
    cases standsB m w n <;> simp <;> omega
/-- How many of the hits are of the last word. -/
def cnt (N : Nat) (l : List (Nat × Nat)) : Nat := l.countP fun h => h.2 == N
def restOf (N : Nat) (l : List (Nat × Nat)) : List (Nat × Nat) := l.filter fun h => !(h.2 == N)
theorem cnt_rest (N : Nat) (l : List (Nat × Nat)) : l.length = cnt N l + (restOf N l).length := by
  unfold cnt restOf
  rw [List.length_eq_countP_add_countP (fun h : Nat × Nat => h.2 == N), List.countP_eq_length_filter (p := fun a => decide _)]
  congr 2
  apply List.filter_congr
  intro x _
  cases x.2 == N <;> rfl
theorem cnt_snoc (N : Nat) (l : List (Nat × Nat)) (h : Nat × Nat) : cnt N (l ++ [h]) = cnt N l + if h.2 = N then 1 else 0 := by
  unfold cnt
  rw [List.countP_append]
  simp [List.countP_cons]
theorem rest_snoc (N : Nat) (l : List (Nat × Nat)) (h : Nat × Nat) : restOf N (l ++ [h]) = if h.2 = N then restOf N l else restOf N l ++ [h] := by
  unfold restOf
  rw [List.filter_append]
  by_cases e : h.2 = N <;> simp [e]
theorem cnt_le (N : Nat) (l : List (Nat × Nat)) : cnt N l ≤ l.length := List.countP_le_length
theorem rest_le (N : Nat) (l : List (Nat × Nat)) : (restOf N l).length ≤ l.length := List.length_filter_le _ _
theorem twice_rest (L : List (List UInt8)) (m w : List UInt8) : restOf L.length (hits (L ++ [m]) w) = hits L w := twice_filter L m w _
theorem twice_cnt (L : List (List UInt8)) (m w : List UInt8) : (hits (L ++ [m]) w).length = (hits L w).length + cnt L.length (hits (L ++ [m]) w) := by
  have h1 := cnt_rest L.length (hits (L ++ [m]) w)
  rw [twice_rest] at h1
  omega
theorem twice_two (L : List (List UInt8)) (m w : List UInt8) : (hits (L ++ [m, m]) w).length = (hits L w).length + 2 * cnt L.length (hits (L ++ [m]) w) := by
  have h1 := twice_cnt L m w
  have h2 := twice_length L m w (alen w)
  have h3 := twice_length (L ++ [m]) m w (alen w)
  rw [show L ++ [m, m] = L ++ [m] ++ [m] by simp]
  unfold hits at h1 ⊢
  omega
end Go.Proofs.Ytiidagdapckgjaa
