/-
  Layer 12: the turn of places, walked; a row of certificates, turned.
-/
import Derived.Test.YtdgmjablkdemmaaUArgs
namespace Go.Proofs.Ytdgmjablkdemmaa
open Go.RowKit Go.Maps

theorem place_any (w : World) (bn bt n t i : Nat) (h1 : w.heap[bn]? = some (.cells #[.int .i64 (n : Int)] 3 (0, 0))) (h2 : w.heap[bt]? = some (.cells #[.int .u8 (t : Int)] 5 (0, 0))) (hi : i < n) (hn : n ≤ 8) (ht : t < 256) :
    Calls Try.prog 31 #[.int .i64 (i : Int), .pointer (some ⟨bn, 0, none⟩), .pointer (some ⟨bt, 0, none⟩)] w fun e w' => e = .returned (.int .i64 (turnN n t i : Nat)) ∧ w = w' := by
  have w1 : IntKind.i64.wrap ((n : Int) - 1) = (n : Int) - 1 := by rw [IntKind.wrap_i64]; omega
  have w2 : IntKind.i64.wrap ((n : Int) - 1 - (i : Int)) = (n : Int) - 1 - (i : Int) := by rw [IntKind.wrap_i64]; omega
  have w3 : IntKind.i64.wrap (t : Int) = (t : Int) := by rw [IntKind.wrap_i64]; omega
  have w4 : IntKind.i64.wrap ((n : Int) - 1 - (i : Int) + (t : Int)) = (n : Int) - 1 - (i : Int) + (t : Int) := by rw [IntKind.wrap_i64]; omega
  have hr : Int.tmod ((n : Int) - 1 - (i : Int) + (t : Int)) (n : Int) = ((turnN n t i : Nat) : Int) := by
    unfold turnN
    rw [show (n : Int) - 1 - (i : Int) + (t : Int) = ((n - 1 - i + t : Nat) : Int) by omega, Int.tmod_eq_emod_of_nonneg (by omega)]
    exact (Int.natCast_emod _ _).symm
  have w5 : IntKind.i64.wrap ((turnN n t i : Nat) : Int) = ((turnN n t i : Nat) : Int) := by have := turn_lt (t := t) (i := i) (show 0 < n by omega); rw [IntKind.wrap_i64]; omega
  have hz : ((n : Int) == 0) = false := beq_eq_false_iff_ne.2 (by omega)
  have c1 := cell_of (o := 0) h1 rfl
  have c2 := cell_of (o := 0) h2 rfl
  have RES := Lib.hid hr
  go_enter Try.func31, Try.ntmps31
  go_wp2
  go_ret
  exact ⟨by first | rfl | rw [RES.out], rfl⟩
def pdef : BCert × Value := (noC, .slice none 0 0)
def turnedTo (P : List (BCert × Value)) (t k : Nat) : List (BCert × Value) := (List.range P.length).map fun j => if turnN P.length t j < k then P.getD (turnN P.length t j) pdef else pdef
theorem turnedTo_length (P : List (BCert × Value)) (t k : Nat) : (turnedTo P t k).length = P.length := by unfold turnedTo; rw [List.length_map, List.length_range]
theorem turnedTo_get {P : List (BCert × Value)} {t k j : Nat} (h : j < P.length) : (turnedTo P t k)[j]? = some (if turnN P.length t j < k then P.getD (turnN P.length t j) pdef else pdef) := by
  unfold turnedTo
  rw [List.getElem?_map, List.getElem?_range h]; rfl
theorem turnedTo_zero (P : List (BCert × Value)) (t : Nat) : turnedTo P t 0 = List.replicate P.length pdef := by
  apply List.ext_getElem?
  intro j
  by_cases h : j < P.length
  · rw [turnedTo_get h, if_neg (by omega), List.getElem?_replicate, if_pos h]
  · rw [List.getElem?_eq_none (by rw [turnedTo_length]; omega), List.getElem?_eq_none (by rw [List.length_replicate]; omega)]
theorem turnedTo_succ {P : List (BCert × Value)} {t k : Nat} (hk : k < P.length) : turnedTo P t (k + 1) = (turnedTo P t k).set (turnN P.length t k) (P.getD k pdef) := by
  apply List.ext_getElem?
  intro j
  by_cases h : j < P.length
  · rw [turnedTo_get h]
    by_cases e : turnN P.length t k = j
    · rw [e, List.getElem?_set_self (by rw [turnedTo_length]; exact h)]
      have e2 : turnN P.length t j = k := by rw [← e, turn_turn hk]
      rw [e2, if_pos (by omega)]
    · rw [List.getElem?_set_ne e, turnedTo_get h]
      have e2 : turnN P.length t j ≠ k := fun q => e (by rw [← q, turn_turn h])
      by_cases q : turnN P.length t j < k
      · rw [if_pos q, if_pos (by omega)]
      · rw [if_neg q, if_neg (by omega)]
  · rw [List.getElem?_eq_none (by rw [turnedTo_length]; omega), List.getElem?_eq_none (by rw [List.length_set, turnedTo_length]; omega)]
theorem turnedTo_all (P : List (BCert × Value)) (t : Nat) : certsOf (turnedTo P t P.length) = turned (certsOf P) t := by
  apply List.ext_getElem?
  intro j
  by_cases h : j < P.length
  · have hl := turn_lt (t := t) (i := j) (show 0 < P.length by omega)
    unfold certsOf turned
    rw [List.getElem?_map, turnedTo_get h, if_pos hl, List.getElem?_map, List.length_map, List.getElem?_range h]
    simp only [Option.map_some, Option.some.injEq]
    rw [List.getD_eq_getElem?_getD, List.getD_eq_getElem?_getD, List.getElem?_map, List.getElem?_eq_getElem hl]; rfl
  · rw [List.getElem?_eq_none (by rw [certsOf_length, turnedTo_length]; omega), List.getElem?_eq_none (by rw [turned_length, certsOf_length]; omega)]
theorem turnedTo_sets {w : World} {G : Nat → Prop} {P : List (BCert × Value)} (h : Sets7 w G P) (t k : Nat) : Sets7 w G (turnedTo P t k) := fun p hp => by
  obtain ⟨j, hj⟩ := List.mem_iff_getElem?.1 hp
  have hjl := (List.getElem?_eq_some_iff.1 hj).1
  rw [turnedTo_length] at hjl
  rw [turnedTo_get hjl] at hj
  have hd : ∃ sa sc, pdef.2 = .slice sa pdef.1.fr.length sc ∧ CertAt w (.slice sa pdef.1.fr.length sc) G pdef.1 :=
    ⟨none, 0, rfl, ⟨⟨none, 0, rfl, by decide, fun j x hj => by cases hj⟩, fun n c e => by cases e; exact ⟨rfl, rfl⟩⟩, by decide, by decide⟩
  cases hj
  split
  · have hl := turn_lt (t := t) (i := j) (show 0 < P.length by omega)
    rw [List.getD_eq_getElem?_getD, List.getElem?_eq_getElem hl]
    exact h _ (List.getElem_mem _)
  · exact hd
theorem pcellsL_take {L : List (BCert × Value)} {p : Nat} (h : p ≤ L.length) : (pcellsL L).take (p * 7) = pcellsL (L.take p) ∧ (pcellsL L).drop (p * 7) = pcellsL (L.drop p) := by
  have e : pcellsL L = pcellsL (L.take p) ++ pcellsL (L.drop p) := by rw [← pcellsL_append, List.take_append_drop]
  have hl : (pcellsL (L.take p)).length = p * 7 := by rw [pcellsL_length, List.length_take, Nat.min_eq_left h]
  exact ⟨by rw [e]; exact List.take_left' hl, by rw [e]; exact List.drop_left' hl⟩
theorem pcellsL_set {L : List (BCert × Value)} {p : Nat} (x : BCert × Value) (h : p < L.length) : pcellsL (L.set p x) = splice (pcellsL L) (p * 7) (pcells x) := by
  unfold splice
  rw [(pcellsL_take (Nat.le_of_lt h)).1, show p * 7 + (pcells x).length = (p + 1) * 7 by simp [pcells]; omega, (pcellsL_take (p := p + 1) h).2, List.set_eq_take_append_cons_drop, if_pos h, pcellsL_append]
  rfl
theorem cells_none : ∀ n, n ≤ 8 → (madeCells #[Value.int .i64 0, .int .u16 0, .string ⟨#[]⟩, .slice none 0 0, .int .i64 0, .int .i64 0, .int .i64 0] (n * 7)).toList = pcellsL (List.replicate n pdef) := by
  intro n hn
  rcases (by omega : n = 0 ∨ n = 1 ∨ n = 2 ∨ n = 3 ∨ n = 4 ∨ n = 5 ∨ n = 6 ∨ n = 7 ∨ n = 8) with rfl | rfl | rfl | rfl | rfl | rfl | rfl | rfl | rfl <;> kernel_rfl
theorem own_obj {w : World} {base : Nat} {e : TypeId} {size n g : Nat} {xs : List Value} (h : w.ownsRow base e size (.slice (some ⟨g, 0, none⟩) n n) n xs) : w.heap[g]? = some (.cells xs.toArray e (0, 0)) ∧ base ≤ g ∧ n ≤ maxLen := by
  obtain ⟨h1, ⟨q, _⟩ | ⟨g', cap, cur, q, hg, hh, q1, q2, q3, q4⟩⟩ := h
  · cases q
  · cases q
    refine ⟨?_, hg, q2⟩
    rw [hh]
    have : cur.toList = xs := by rw [← q4, List.take_of_length_le (by rw [Array.length_toList, q3]; exact Nat.le_refl _)]
    rw [← this, Array.toArray_toList]
theorem own_of_obj {w : World} {base : Nat} {e : TypeId} {size n g : Nat} {xs : List Value} (h : w.heap[g]? = some (.cells xs.toArray e (0, 0))) (hb : base ≤ g) (hn : n ≤ maxLen) (hl : xs.length = n * size) : w.ownsRow base e size (.slice (some ⟨g, 0, none⟩) n n) n xs :=
  ⟨hl, .inr ⟨g, n, xs.toArray, rfl, hb, h, Nat.le_refl _, hn, by simpa using hl, by rw [List.take_of_length_le (by simp [hl])]⟩⟩
end Go.Proofs.Ytdgmjablkdemmaa
