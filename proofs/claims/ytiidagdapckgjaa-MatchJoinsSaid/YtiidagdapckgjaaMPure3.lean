/-
  Words, by atoms and by bytes.
-/
import Derived.Test.YtiidagdapckgjaaMPure
namespace Go.Proofs.Ytiidagdapckgjaa

theorem prefix_iff_get {l m : List Nat} : l <+: m ↔ l.length ≤ m.length ∧ ∀ i, i < l.length → l[i]? = m[i]? := by
  constructor
  · intro h
    refine ⟨h.length_le, fun i hi => ?_⟩
    obtain ⟨t, rfl⟩ := h
    rw [List.getElem?_append_left hi]
  · rintro ⟨h1, h2⟩
    rw [List.prefix_iff_eq_take]
    apply List.ext_getElem?
    intro i
    rw [List.getElem?_take]
    split
    · rename_i hi; exact h2 i hi
    · rename_i hi; rw [List.getElem?_eq_none (by omega)]
/-- The bytes at a place of a word are those of another one. -/
def sameAt (v w : List UInt8) (a : Nat) : Bool := decide (2 * a + v.length ≤ 2 * alen w) && ((w.drop (2 * a)).take v.length == v)
theorem take_eq_iff {v w : List UInt8} {a : Nat} (h : 2 * a + v.length ≤ w.length) : (w.drop (2 * a)).take v.length = v ↔ ∀ i, i < v.length → v.getD i 0 = w.getD (2 * a + i) 0 := by
  constructor
  · intro e i hi
    rw [← e, List.getD_eq_getElem?_getD, List.getElem?_take, if_pos hi, List.getElem?_drop, ← List.getD_eq_getElem?_getD]
  · intro h2
    apply List.ext_getElem?
    intro i
    rw [List.getElem?_take]
    split
    · rename_i hi
      have := h2 i hi
      rw [List.getD_eq_getElem?_getD, List.getD_eq_getElem?_getD, List.getElem?_eq_getElem hi, List.getElem?_eq_getElem (by omega)] at this
      rw [List.getElem?_drop, List.getElem?_eq_getElem hi, List.getElem?_eq_getElem (by omega)]
      simp at this; rw [this]
    · rename_i hi; rw [List.getElem?_eq_none (by omega)]
theorem standsB_bytes (v w : List UInt8) (a : Nat) : standsB v w a = (mayB v && sameAt v w a) := by
  unfold standsB
  cases hm : mayB v with
  | false => rfl
  | true =>
    rw [Bool.true_and, Bool.true_and]
    have hv := (mayB_iff v).1 hm
    have he : v.length = 2 * alen v := by unfold alen; omega
    have hw : 2 * alen w ≤ w.length := by unfold alen; omega
    rw [Bool.eq_iff_iff, List.isPrefixOf_iff_prefix, prefix_iff_get]
    unfold sameAt
    rw [Bool.and_eq_true, decide_eq_true_eq, beq_iff_eq, List.length_drop, atoms_length, atoms_length]
    constructor
    · rintro ⟨h1, h2⟩
      have hlen : 2 * a + v.length ≤ 2 * alen w := by have := hv.2.1; omega
      refine ⟨hlen, (take_eq_iff (by omega)).2 fun i hi => ?_⟩
      have hk : i / 2 < alen v := by omega
      have h3 := h2 (i / 2) hk
      rw [atoms_get v hk, List.getElem?_drop, atoms_get w (by omega)] at h3
      have h4 := Option.some.inj h3
      unfold atomAt at h4
      rw [show 2 * (a + i / 2) = 2 * a + 2 * (i / 2) from by omega] at h4
      have b1 := (v.getD (2 * (i / 2)) 0).toNat_lt
      have b2 := (v.getD (2 * (i / 2) + 1) 0).toNat_lt
      have b3 := (w.getD (2 * a + 2 * (i / 2)) 0).toNat_lt
      have b4 := (w.getD (2 * a + 2 * (i / 2) + 1) 0).toNat_lt
      rcases (by omega : i = 2 * (i / 2) ∨ i = 2 * (i / 2) + 1) with e | e
      · rw [e]; exact UInt8.toNat_inj.1 (by omega)
      · rw [e]; exact UInt8.toNat_inj.1 (by rw [← Nat.add_assoc]; omega)
    · rintro ⟨h1, h2⟩
      have h3 := (take_eq_iff (by omega)).1 h2
      refine ⟨by omega, fun k hk => ?_⟩
      rw [atoms_get v hk, List.getElem?_drop, atoms_get w (by omega)]
      unfold atomAt
      rw [h3 (2 * k) (by omega), h3 (2 * k + 1) (by omega), show 2 * (a + k) = 2 * a + 2 * k from by omega]; rfl
end Go.Proofs.Ytiidagdapckgjaa
