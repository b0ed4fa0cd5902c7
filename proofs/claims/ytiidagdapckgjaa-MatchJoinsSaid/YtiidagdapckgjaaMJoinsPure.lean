/-
  Layer 10: what stands in a word stands in it with more ahead and behind (plain).
-/
import Derived.Test.YtiidagdapckgjaaMStandsPure
namespace Go.Proofs.Ytiidagdapckgjaa

theorem stands_iff (v w : List UInt8) (a : Nat) : standsB v w a = true ↔ mayB v = true ∧ 2 * a + v.length ≤ 2 * alen w ∧ (w.drop (2 * a)).take v.length = v := by
  rw [standsB_bytes, Bool.and_eq_true]
  unfold sameAt
  rw [Bool.and_eq_true, decide_eq_true_eq, beq_iff_eq]
theorem cut_inside (p w q : List UInt8) (n a m : Nat) (hp : p.length = 2 * n) (h : 2 * a + m ≤ w.length) : ((p ++ w ++ q).drop (2 * (a + n))).take m = (w.drop (2 * a)).take m := by
  rw [List.append_assoc, List.drop_append, hp, List.drop_eq_nil_of_le (by omega), List.nil_append, show 2 * (a + n) - 2 * n = 2 * a by omega, List.drop_append, List.take_append, List.length_drop]
  rw [show m - (w.length - 2 * a) = 0 by omega, List.take_zero, List.append_nil]
theorem may_pos {v : List UInt8} (h : mayB v = true) : 2 ≤ v.length ∧ v.length % 2 = 0 := by
  obtain ⟨h1, h2, _⟩ := (mayB_iff v).1 h
  unfold alen at h2
  exact ⟨by omega, h1⟩
theorem joins_up (L : List (List UInt8)) (p w q : List UInt8) (n a i : Nat) (hp : p.length = 2 * n) (h : (a, i) ∈ hits L w) : (a + n, i) ∈ hits L (p ++ w ++ q) := by
  obtain ⟨h1, h2, h3⟩ := hitsTo_mem.1 h
  obtain ⟨g1, g2, g3⟩ := (stands_iff _ _ _).1 h3
  have g4 := may_pos g1
  have e : (p ++ w ++ q).length = 2 * n + w.length + q.length := by simp [hp]; omega
  have e2 : 2 * alen w ≤ w.length := by unfold alen; omega
  have e3 : (p ++ w ++ q).length ≤ 2 * alen (p ++ w ++ q) + 1 := by unfold alen; omega
  refine hitsTo_mem.2 ⟨by unfold alen; omega, h2, (stands_iff _ _ _).2 ⟨g1, by omega, ?_⟩⟩
  rw [cut_inside p w q n a _ hp (by omega)]
  exact g3
theorem joins_down (L : List (List UInt8)) (p w q : List UInt8) (n x i : Nat) (hp : p.length = 2 * n) (hw : w.length % 2 = 0) (h : (x, i) ∈ hits L (p ++ w ++ q)) (hx : n ≤ x) (hi : x + (L.getD i []).length / 2 ≤ n + w.length / 2) : (x - n, i) ∈ hits L w := by
  obtain ⟨h1, h2, h3⟩ := hitsTo_mem.1 h
  obtain ⟨g1, g2, g3⟩ := (stands_iff _ _ _).1 h3
  have g4 := may_pos g1
  refine hitsTo_mem.2 ⟨by unfold alen; omega, h2, (stands_iff _ _ _).2 ⟨g1, by unfold alen; omega, ?_⟩⟩
  have := cut_inside p w q n (x - n) (L.getD i []).length hp (by omega)
  rw [show x - n + n = x by omega] at this
  rw [← this]
  exact g3
theorem hits_ne (L : List (List UInt8)) (w : List UInt8) {j k : Nat} {x y : Nat × Nat} (hjk : j < k) (hx : (hits L w)[j]? = some x) (hy : (hits L w)[k]? = some y) : x ≠ y := by
  have h := hitsTo_rise L w (alen w)
  rw [List.pairwise_iff_getElem] at h
  obtain ⟨l1, e1⟩ := List.getElem?_eq_some_iff.1 hx
  obtain ⟨l2, e2⟩ := List.getElem?_eq_some_iff.1 hy
  have := h j k l1 l2 hjk
  unfold hits at e1 e2
  rw [e1, e2] at this
  rintro rfl
  unfold Rise at this
  omega
end Go.Proofs.Ytiidagdapckgjaa
