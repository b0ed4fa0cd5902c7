/-
  Words in plain Lean: the atoms of a word, which words may be, where words stand in a word. No program in sight.
-/
namespace Go.Proofs.Ytiidagdapckgjaa

/-- A word's atom at a place (the place is in the word). -/
def atomAt (l : List UInt8) (i : Nat) : Nat := (l.getD (2 * i) 0).toNat * 256 + (l.getD (2 * i + 1) 0).toNat
def alen (l : List UInt8) : Nat := l.length / 2
def atoms (l : List UInt8) : List Nat := (List.range (alen l)).map (atomAt l)
def mayB (l : List UInt8) : Bool := decide (l.length % 2 = 0) && decide (1 ≤ alen l) && decide (alen l ≤ 8) && (atoms l).all (fun a => a != 0)
theorem atomAt_lt (l : List UInt8) (i : Nat) : atomAt l i < 65536 := by
  unfold atomAt; have := (l.getD (2 * i) 0).toNat_lt; have := (l.getD (2 * i + 1) 0).toNat_lt; omega
theorem atoms_length (l : List UInt8) : (atoms l).length = alen l := by simp [atoms]
theorem atoms_get (l : List UInt8) {i : Nat} (h : i < alen l) : (atoms l)[i]? = some (atomAt l i) := by
  unfold atoms; rw [List.getElem?_map, List.getElem?_range h]; rfl
theorem atoms_take_succ (l : List UInt8) {i : Nat} (h : i < alen l) : (atoms l).take (i + 1) = (atoms l).take i ++ [atomAt l i] := by
  have hl : i < (atoms l).length := by rw [atoms_length]; exact h
  rw [List.take_succ_eq_append_getElem hl]
  have := atoms_get l h
  rw [List.getElem?_eq_getElem hl] at this
  rw [Option.some.inj this]
theorem mayB_iff (l : List UInt8) : mayB l = true ↔ l.length % 2 = 0 ∧ 1 ≤ alen l ∧ alen l ≤ 8 ∧ ∀ i, i < alen l → atomAt l i ≠ 0 := by
  unfold mayB
  simp only [Bool.and_eq_true, decide_eq_true_eq, List.all_eq_true, bne_iff_ne]
  constructor
  · rintro ⟨⟨⟨h1, h2⟩, h3⟩, h4⟩
    exact ⟨h1, h2, h3, fun i hi => h4 _ (List.mem_of_getElem? (atoms_get l hi))⟩
  · rintro ⟨h1, h2, h3, h4⟩
    refine ⟨⟨⟨h1, h2⟩, h3⟩, fun a ha => ?_⟩
    obtain ⟨i, hi, rfl⟩ := List.mem_map.1 ha
    exact h4 i (List.mem_range.1 hi)
/-- Which words of a list stand at a place of a word, rising. -/
def standsB (v w : List UInt8) (at_ : Nat) : Bool := mayB v && (atoms v).isPrefixOf ((atoms w).drop at_)
def hereL (l : List (List UInt8)) (w : List UInt8) (at_ : Nat) : List Nat := (List.range l.length).filter fun i => standsB (l.getD i []) w at_
def hitsTo (l : List (List UInt8)) (w : List UInt8) (n : Nat) : List (Nat × Nat) := (List.range n).flatMap fun a => (hereL l w a).map fun i => (a, i)
def hits (l : List (List UInt8)) (w : List UInt8) : List (Nat × Nat) := hitsTo l w (alen w)
theorem hitsTo_succ (l : List (List UInt8)) (w : List UInt8) (n : Nat) : hitsTo l w (n + 1) = hitsTo l w n ++ (hereL l w n).map fun i => (n, i) := by
  unfold hitsTo; rw [List.range_succ, List.flatMap_append]; simp
theorem hereL_length (l : List (List UInt8)) (w : List UInt8) (a : Nat) : (hereL l w a).length ≤ l.length := by
  have := List.length_filter_le (fun i => standsB (l.getD i []) w a) (List.range l.length)
  simpa [hereL] using this

/-- THE TRIE, by the atoms' lists that its states stand for. -/
def idx (ps : List (List Nat)) (p : List Nat) : Nat := ps.idxOf p
/-- A word's beginnings are put in, one by one. -/
def putTo (ps : List (List Nat)) (p : List Nat) : Nat → List (List Nat)
  | 0 => ps
  | i + 1 => if p.take (i + 1) ∈ putTo ps p i then putTo ps p i else putTo ps p i ++ [p.take (i + 1)]
def putP (ps : List (List Nat)) (p : List Nat) : List (List Nat) := putTo ps p p.length
/-- The states behind the first n words. -/
def pathsTo (l : List (List UInt8)) : Nat → List (List Nat)
  | 0 => [[]]
  | n + 1 => if mayB (l.getD n []) then putP (pathsTo l n) (atoms (l.getD n [])) else pathsTo l n
/-- Which of the first n words end in a state. -/
def whichTo (l : List (List UInt8)) (n : Nat) (p : List Nat) : List Nat := (List.range n).filter fun i => mayB (l.getD i []) && (atoms (l.getD i []) == p)
/-- What the paths are good for: the root stands first, none stands twice, each one's beginnings are there. -/
structure Tree (ps : List (List Nat)) : Prop where
  root : ps[0]? = some []
  nodup : ps.Nodup
  down : ∀ p a, p ++ [a] ∈ ps → p ∈ ps
theorem tree_root : Tree [[]] := ⟨rfl, by simp, fun p a h => by simp at h⟩
theorem Tree.mem_nil {ps : List (List Nat)} (h : Tree ps) : [] ∈ ps := List.mem_of_getElem? h.root
theorem putTo_mem (ps : List (List Nat)) (p : List Nat) : ∀ i, ∀ q, q ∈ putTo ps p i ↔ q ∈ ps ∨ ∃ j, 1 ≤ j ∧ j ≤ i ∧ q = p.take j
  | 0, q => by simp [putTo]; omega
  | i + 1, q => by
    have ih := putTo_mem ps p i
    rw [putTo]
    split
    · rename_i hm
      rw [ih]
      constructor
      · rintro (h | ⟨j, h1, h2, h3⟩)
        · exact .inl h
        · exact .inr ⟨j, h1, by omega, h3⟩
      · rintro (h | ⟨j, h1, h2, h3⟩)
        · exact .inl h
        · rcases Nat.lt_or_ge i j with q' | q'
          · obtain rfl : j = i + 1 := by omega
            rw [ih] at hm; rw [h3]; exact hm
          · exact .inr ⟨j, h1, q', h3⟩
    · rw [List.mem_append, ih, List.mem_singleton]
      constructor
      · rintro ((h | ⟨j, h1, h2, h3⟩) | h)
        · exact .inl h
        · exact .inr ⟨j, h1, by omega, h3⟩
        · exact .inr ⟨i + 1, by omega, by omega, h⟩
      · rintro (h | ⟨j, h1, h2, h3⟩)
        · exact .inl (.inl h)
        · rcases Nat.lt_or_ge i j with q' | q'
          · obtain rfl : j = i + 1 := by omega
            exact .inr h3
          · exact .inl (.inr ⟨j, h1, q', h3⟩)
theorem Tree.putTo {ps : List (List Nat)} (h : Tree ps) (p : List Nat) : ∀ i, i ≤ p.length → Tree (putTo ps p i)
  | 0, _ => h
  | i + 1, hi => by
    have ih := Tree.putTo h p i (by omega)
    rw [Go.Proofs.Ytiidagdapckgjaa.putTo]
    split
    · exact ih
    · rename_i hm
      refine ⟨?_, ?_, ?_⟩
      · rw [List.getElem?_append_left]
        · exact ih.root
        · exact (List.getElem?_eq_some_iff.1 ih.root).1
      · rw [List.nodup_append]
        refine ⟨ih.nodup, by simp, fun a ha b hb => ?_⟩
        rw [List.mem_singleton] at hb
        subst hb
        rintro rfl
        exact hm ha
      · intro q a hq
        rw [List.mem_append, List.mem_singleton] at hq
        rcases hq with hq | hq
        · exact List.mem_append_left _ (ih.down q a hq)
        · have hl : q = p.take i := by
            have e := congrArg List.dropLast hq
            rw [List.dropLast_concat] at e
            rw [e, List.dropLast_eq_take, List.length_take, List.take_take]
            congr 1; omega
          rw [hl]
          refine List.mem_append_left _ ?_
          rcases Nat.eq_zero_or_pos i with rfl | hpos
          · simpa [Go.Proofs.Ytiidagdapckgjaa.putTo] using h.mem_nil
          · exact (putTo_mem ps p i _).2 (.inr ⟨i, hpos, Nat.le_refl _, rfl⟩)
end Go.Proofs.Ytiidagdapckgjaa
