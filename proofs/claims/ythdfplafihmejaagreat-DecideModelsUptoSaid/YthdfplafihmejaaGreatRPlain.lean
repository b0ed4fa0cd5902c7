/-
  Words in plain Lean: the atoms of a word, which words may be, where words stand in a word. No program in sight.
  Words, by atoms and by bytes.
  Layer 10: a word that is in the list twice (plain).
  Layer 10: hits stand where they say, and rise (plain).
  Layer 10: what stands in a word stands in it with more ahead and behind (plain).
  Layer 11: what words lead to by rules (plain).
  Layer 11: what the row of a word is (plain): just what is reached, each once; or more than the bound is reached.
  Layer 11: what follows for rows (plain): on, more rules, what stands around.
  Layer 11: the steps from a word to another one (plain).
-/
namespace Go.Proofs.YthdfplafihmejaaGreat

/-- A word's atom at a place (the place is in the word). -/
def atomAt (l : List UInt8) (i : Nat) : Nat := (l.getD (2 * i) 0).toNat * 256 + (l.getD (2 * i + 1) 0).toNat
def alen (l : List UInt8) : Nat := l.length / 2
def atoms (l : List UInt8) : List Nat := (List.range (alen l)).map (atomAt l)
def mayB (l : List UInt8) : Bool := decide (l.length % 2 = 0) && decide (1 ≤ alen l) && decide (alen l ≤ 8) && (atoms l).all (fun a => a != 0)
theorem atomAt_lt (l : List UInt8) (i : Nat) : atomAt l i < 65536 := by
 unfold atomAt; have := (l.getD (2 * i) 0).toNat_lt; have := (l.getD (2 * i + 1) 0).toNat_lt; omega
theorem atoms_length (l : List UInt8) : (atoms l).length = alen l := by simp [atoms]
theorem atoms_get (l : List UInt8) {i : Nat} (h : i < alen l) : (atoms l)[i]? = some (atomAt l i) := by
 unfold atoms; rw [List.getElem?_map, List.getElem?_range h]; rfl
theorem atoms_take_succ (l : List UInt8) {i : Nat} (h : i < alen l) : (atoms l).take (i + 1) = (atoms l).take i ++ [atomAt l i] := by
 have hl : i < (atoms l).length := by rw [atoms_length]; exact h
 rw [List.take_succ_eq_append_getElem hl]
 have := atoms_get l h
 rw [List.getElem?_eq_getElem hl] at this
 rw [Option.some.inj this]
theorem mayB_iff (l : List UInt8) : mayB l = true ↔ l.length % 2 = 0 ∧ 1 ≤ alen l ∧ alen l ≤ 8 ∧ ∀ i, i < alen l → atomAt l i ≠ 0 := by
 unfold mayB
 simp only [Bool.and_eq_true, decide_eq_true_eq, List.all_eq_true, bne_iff_ne]
 constructor
 ·rintro ⟨⟨⟨h1, h2⟩, h3⟩, h4⟩
  exact ⟨h1, h2, h3, fun i hi => h4 _ (List.mem_of_getElem? (atoms_get l hi))⟩
 ·rintro ⟨h1, h2, h3, h4⟩
  refine ⟨⟨⟨h1, h2⟩, h3⟩, fun a ha => ?_⟩
  obtain ⟨i, hi, rfl⟩ := List.mem_map.1 ha
  exact h4 i (List.mem_range.1 hi)
/-- Which words of a list stand at a place of a word, rising. -/
def standsB (v w : List UInt8) (at_ : Nat) : Bool := mayB v && (atoms v).isPrefixOf ((atoms w).drop at_)
def hereL (l : List (List UInt8)) (w : List UInt8) (at_ : Nat) : List Nat := (List.range l.length).filter fun i => standsB (l.getD i []) w at_
def hitsTo (l : List (List UInt8)) (w : List UInt8) (n : Nat) : List (Nat × Nat) := (List.range n).flatMap fun a => (hereL l w a).map fun i => (a, i)
def hits (l : List (List UInt8)) (w : List UInt8) : List (Nat × Nat) := hitsTo l w (alen w)
theorem hitsTo_succ (l : List (List UInt8)) (w : List UInt8) (n : Nat) : hitsTo l w (n + 1) = hitsTo l w n ++ (hereL l w n).map fun i => (n, i) := by
 unfold hitsTo; rw [List.range_succ, List.flatMap_append]; simp
theorem hereL_length (l : List (List UInt8)) (w : List UInt8) (a : Nat) : (hereL l w a).length ≤ l.length := by
 have := List.length_filter_le (fun i => standsB (l.getD i []) w a) (List.range l.length)
 simpa [hereL] using this

/-- THE TRIE, by the atoms' lists that its states stand for. -/
def idx (ps : List (List Nat)) (p : List Nat) : Nat := ps.idxOf p
/-- A word's beginnings are put in, one by one. -/
def putTo (ps : List (List Nat)) (p : List Nat) : Nat → List (List Nat)
 | 0 => ps
 | i + 1 => if p.take (i + 1) ∈ putTo ps p i then putTo ps p i else putTo ps p i ++ [p.take (i + 1)]
def putP (ps : List (List Nat)) (p : List Nat) : List (List Nat) := putTo ps p p.length
/-- The states behind the first n words. -/
def pathsTo (l : List (List UInt8)) : Nat → List (List Nat)
 | 0 => [[]]
 | n + 1 => if mayB (l.getD n []) then putP (pathsTo l n) (atoms (l.getD n [])) else pathsTo l n
/-- Which of the first n words end in a state. -/
def whichTo (l : List (List UInt8)) (n : Nat) (p : List Nat) : List Nat := (List.range n).filter fun i => mayB (l.getD i []) && (atoms (l.getD i []) == p)
/-- What the paths are good for: the root stands first, none stands twice, each one's beginnings are there. -/
structure Tree (ps : List (List Nat)) : Prop where
 root : ps[0]? = some []
 nodup : ps.Nodup
 down : ∀ p a, p ++ [a] ∈ ps → p ∈ ps
theorem tree_root : Tree [[]] := ⟨rfl, by simp, fun p a h => by simp at h⟩
theorem Tree.mem_nil {ps : List (List Nat)} (h : Tree ps) : [] ∈ ps := List.mem_of_getElem? h.root
theorem putTo_mem (ps : List (List Nat)) (p : List Nat) : ∀ i, ∀ q, q ∈ putTo ps p i ↔ q ∈ ps ∨ ∃ j, 1 ≤ j ∧ j ≤ i ∧ q = p.take j
 | 0, q => by simp [putTo]; omega
 | i + 1, q => by
  have ih := putTo_mem ps p i
  rw [putTo]
  split
  ·rename_i hm
   rw [ih]
   constructor
   ·rintro (h | ⟨j, h1, h2, h3⟩)
    ·exact .inl h
    ·exact .inr ⟨j, h1, by omega, h3⟩
   ·rintro (h | ⟨j, h1, h2, h3⟩)
    ·exact .inl h
    ·rcases Nat.lt_or_ge i j with q' | q'
     ·obtain rfl : j = i + 1 := by omega
      rw [ih] at hm; rw [h3]; exact hm
     ·exact .inr ⟨j, h1, q', h3⟩
  ·rw [List.mem_append, ih, List.mem_singleton]
   constructor
   ·rintro ((h | ⟨j, h1, h2, h3⟩) | h)
    ·exact .inl h
    ·exact .inr ⟨j, h1, by omega, h3⟩
    ·exact .inr ⟨i + 1, by omega, by omega, h⟩
   ·rintro (h | ⟨j, h1, h2, h3⟩)
    ·exact .inl (.inl h)
    ·rcases Nat.lt_or_ge i j with q' | q'
     ·obtain rfl : j = i + 1 := by omega
      exact .inr h3
     ·exact .inl (.inr ⟨j, h1, q', h3⟩)
theorem Tree.putTo {ps : List (List Nat)} (h : Tree ps) (p : List Nat) : ∀ i, i ≤ p.length → Tree (putTo ps p i)
 | 0, _ => h
 | i + 1, hi => by
  have ih := Tree.putTo h p i (by omega)
  rw [Go.Proofs.YthdfplafihmejaaGreat.putTo]
  split
  ·exact ih
  ·rename_i hm
   refine ⟨?_, ?_, ?_⟩
   ·rw [List.getElem?_append_left]
    ·exact ih.root
    ·exact (List.getElem?_eq_some_iff.1 ih.root).1
   ·rw [List.nodup_append]
    refine ⟨ih.nodup, by simp, fun a ha b hb => ?_⟩
    rw [List.mem_singleton] at hb
    subst hb
    rintro rfl
    exact hm ha
   ·intro q a hq
    rw [List.mem_append, List.mem_singleton] at hq
    rcases hq with hq | hq
    ·exact List.mem_append_left _ (ih.down q a hq)
    ·have hl : q = p.take i := by
      have e := congrArg List.dropLast hq
      rw [List.dropLast_concat] at e
      rw [e, List.dropLast_eq_take, List.length_take, List.take_take]
      congr 1; omega
     rw [hl]
     refine List.mem_append_left _ ?_
     rcases Nat.eq_zero_or_pos i with rfl | hpos
     ·simpa [Go.Proofs.YthdfplafihmejaaGreat.putTo] using h.mem_nil
     ·exact (putTo_mem ps p i _).2 (.inr ⟨i, hpos, Nat.le_refl _, rfl⟩)
end Go.Proofs.YthdfplafihmejaaGreat

namespace Go.Proofs.YthdfplafihmejaaGreat

theorem prefix_iff_get {l m : List Nat} : l <+: m ↔ l.length ≤ m.length ∧ ∀ i, i < l.length → l[i]? = m[i]? := by
 constructor
 ·intro h
  refine ⟨h.length_le, fun i hi => ?_⟩
  obtain ⟨t, rfl⟩ := h
  rw [List.getElem?_append_left hi]
 ·rintro ⟨h1, h2⟩
  rw [List.prefix_iff_eq_take]
  apply List.ext_getElem?
  intro i
  rw [List.getElem?_take]
  split
  ·rename_i hi; exact h2 i hi
  ·rename_i hi; rw [List.getElem?_eq_none (by omega)]
/-- The bytes at a place of a word are those of another one. -/
def sameAt (v w : List UInt8) (a : Nat) : Bool := decide (2 * a + v.length ≤ 2 * alen w) && ((w.drop (2 * a)).take v.length == v)
theorem take_eq_iff {v w : List UInt8} {a : Nat} (h : 2 * a + v.length ≤ w.length) : (w.drop (2 * a)).take v.length = v ↔ ∀ i, i < v.length → v.getD i 0 = w.getD (2 * a + i) 0 := by
 constructor
 ·intro e i hi
  rw [← e, List.getD_eq_getElem?_getD, List.getElem?_take, if_pos hi, List.getElem?_drop, ← List.getD_eq_getElem?_getD]
 ·intro h2
  apply List.ext_getElem?
  intro i
  rw [List.getElem?_take]
  split
  ·rename_i hi
   have := h2 i hi
   rw [List.getD_eq_getElem?_getD, List.getD_eq_getElem?_getD, List.getElem?_eq_getElem hi, List.getElem?_eq_getElem (by omega)] at this
   rw [List.getElem?_drop, List.getElem?_eq_getElem hi, List.getElem?_eq_getElem (by omega)]
   simp at this; rw [this]
  ·rename_i hi; rw [List.getElem?_eq_none (by omega)]
theorem standsB_bytes (v w : List UInt8) (a : Nat) : standsB v w a = (mayB v && sameAt v w a) := by
 unfold standsB
 cases hm : mayB v with
 | false => rfl
 | true =>
  rw [Bool.true_and, Bool.true_and]
  have hv := (mayB_iff v).1 hm
  have he : v.length = 2 * alen v := by unfold alen; omega
  have hw : 2 * alen w ≤ w.length := by unfold alen; omega
  rw [Bool.eq_iff_iff, List.isPrefixOf_iff_prefix, prefix_iff_get]
  unfold sameAt
  rw [Bool.and_eq_true, decide_eq_true_eq, beq_iff_eq, List.length_drop, atoms_length, atoms_length]
  constructor
  ·rintro ⟨h1, h2⟩
   have hlen : 2 * a + v.length ≤ 2 * alen w := by have := hv.2.1; omega
   refine ⟨hlen, (take_eq_iff (by omega)).2 fun i hi => ?_⟩
   have hk : i / 2 < alen v := by omega
   have h3 := h2 (i / 2) hk
   rw [atoms_get v hk, List.getElem?_drop, atoms_get w (by omega)] at h3
   have h4 := Option.some.inj h3
   unfold atomAt at h4
   rw [show 2 * (a + i / 2) = 2 * a + 2 * (i / 2) from by omega] at h4
   have b1 := (v.getD (2 * (i / 2)) 0).toNat_lt
   have b2 := (v.getD (2 * (i / 2) + 1) 0).toNat_lt
   have b3 := (w.getD (2 * a + 2 * (i / 2)) 0).toNat_lt
   have b4 := (w.getD (2 * a + 2 * (i / 2) + 1) 0).toNat_lt
   rcases (by omega : i = 2 * (i / 2) ∨ i = 2 * (i / 2) + 1) with e | e
   ·rw [e]; exact UInt8.toNat_inj.1 (by omega)
   ·rw [e]; exact UInt8.toNat_inj.1 (by rw [← Nat.add_assoc]; omega)
  ·rintro ⟨h1, h2⟩
   have h3 := (take_eq_iff (by omega)).1 h2
   refine ⟨by omega, fun k hk => ?_⟩
   rw [atoms_get v hk, List.getElem?_drop, atoms_get w (by omega)]
   unfold atomAt
   rw [h3 (2 * k) (by omega), h3 (2 * k + 1) (by omega), show 2 * (a + k) = 2 * a + 2 * k from by omega]; rfl
end Go.Proofs.YthdfplafihmejaaGreat

namespace Go.Proofs.YthdfplafihmejaaGreat

def cntTo (m w : List UInt8) (n : Nat) : Nat := (List.range n).countP fun a => standsB m w a
/-- How many of the hits are of the last word. -/
def cnt (N : Nat) (l : List (Nat × Nat)) : Nat := l.countP fun h => h.2 == N
def restOf (N : Nat) (l : List (Nat × Nat)) : List (Nat × Nat) := l.filter fun h => !(h.2 == N)
end Go.Proofs.YthdfplafihmejaaGreat

namespace Go.Proofs.YthdfplafihmejaaGreat

def Rise (x y : Nat × Nat) : Prop := x.1 < y.1 ∨ x.1 = y.1 ∧ x.2 < y.2
theorem hereL_mem {L : List (List UInt8)} {w : List UInt8} {a i : Nat} : i ∈ hereL L w a ↔ i < L.length ∧ standsB (L.getD i []) w a = true := by
 unfold hereL; rw [List.mem_filter, List.mem_range]
theorem hitsTo_mem {L : List (List UInt8)} {w : List UInt8} {a i : Nat} : ∀ {n : Nat}, (a, i) ∈ hitsTo L w n ↔ a < n ∧ i < L.length ∧ standsB (L.getD i []) w a = true
 | 0 => by simp [hitsTo]
 | n + 1 => by
  rw [hitsTo_succ, List.mem_append, hitsTo_mem, List.mem_map]
  constructor
  ·rintro (h | ⟨j, hj, e⟩)
   ·exact ⟨by omega, h.2⟩
   ·cases e
    exact ⟨by omega, hereL_mem.1 hj⟩
  ·rintro ⟨h1, h2⟩
   by_cases e : a < n
   ·exact .inl ⟨e, h2⟩
   ·obtain rfl : n = a := by omega
    exact .inr ⟨i, hereL_mem.2 h2, rfl⟩
/-- Is the word found in itself? -/
def fnd (i : Nat) (l : List (Nat × Nat)) : Bool := l.any fun h => h.1 == 0 && h.2 == i
end Go.Proofs.YthdfplafihmejaaGreat

namespace Go.Proofs.YthdfplafihmejaaGreat

theorem stands_iff (v w : List UInt8) (a : Nat) : standsB v w a = true ↔ mayB v = true ∧ 2 * a + v.length ≤ 2 * alen w ∧ (w.drop (2 * a)).take v.length = v := by
 rw [standsB_bytes, Bool.and_eq_true]
 unfold sameAt
 rw [Bool.and_eq_true, decide_eq_true_eq, beq_iff_eq]
theorem may_pos {v : List UInt8} (h : mayB v = true) : 2 ≤ v.length ∧ v.length % 2 = 0 := by
 obtain ⟨h1, h2, _⟩ := (mayB_iff v).1 h
 unfold alen at h2
 exact ⟨by omega, h1⟩
end Go.Proofs.YthdfplafihmejaaGreat

namespace Go.Proofs.YthdfplafihmejaaGreat

abbrev Wd := List UInt8
abbrev Rul := Wd × Wd
def countsB (r : Rul) : Bool := mayB r.1 && mayB r.2 && decide (alen r.2 ≤ alen r.1)
def froms (R : List Rul) : List Wd := R.map fun r => if countsB r then r.1 else []
def swapAt (w : Wd) (a n : Nat) (v : Wd) : Wd := w.take (2 * a) ++ v ++ w.drop (2 * (a + n))
def ruleAt (R : List Rul) (k : Nat) : Rul := R.getD k ([], [])
def useAt (R : List Rul) (w : Wd) (h : Nat × Nat) : Wd := swapAt w h.1 (alen (ruleAt R h.2).1) (ruleAt R h.2).2
def stepsOf (R : List Rul) (w : Wd) : List ((Nat × Nat) × Wd) := (hits (froms R) w).map fun h => (h, useAt R w h)
/-- An entry of a row: the word, which one it came from, by which step. -/
abbrev Ent := Wd × (Int × (Nat × Nat))
def wordsR (r : List Ent) : List Wd := r.map (·.1)
def innerR (bound i : Nat) : List ((Nat × Nat) × Wd) → List Ent → Option (List Ent)
 | [], r => some r
 | (s, v) :: t, r => if v ∈ wordsR r then innerR bound i t r else if r.length = bound then none else innerR bound i t (r ++ [(v, ((i : Int), s))])
def wordAt (r : List Ent) (i : Nat) : Wd := (r.getD i ([], (0, (0, 0)))).1
def outerR (R : List Rul) (bound : Nat) : Nat → Nat → List Ent → Option (List Ent)
 | 0, _, r => some r
 | f + 1, i, r => if i < r.length then (innerR bound i (stepsOf R (wordAt r i)) r).bind (outerR R bound f (i + 1)) else some r
def startR (w : Wd) : List Ent := [(w, (-1, (0, 0)))]
/-- The row of a word; none: too much is reached. -/
def rowOf (R : List Rul) (w : Wd) (bound : Nat) : Option (List Ent) := outerR R bound bound 0 (startR w)

/-! words -/
def Good (l : Wd) : Prop := l.length % 2 = 0 ∧ ∀ i, i < alen l → atomAt l i ≠ 0
theorem may_good {l : Wd} : mayB l = true ↔ Good l ∧ 1 ≤ alen l ∧ alen l ≤ 8 := by
 rw [mayB_iff]
 exact ⟨fun h => ⟨⟨h.1, h.2.2.2⟩, h.2.1, h.2.2.1⟩, fun h => ⟨h.1.1, h.2.1, h.2.2, h.1.2⟩⟩
theorem atomAt_append_left (a b : Wd) {i : Nat} (h : 2 * i + 1 < a.length) : atomAt (a ++ b) i = atomAt a i := by
 unfold atomAt
 simp only [List.getD_eq_getElem?_getD]
 rw [List.getElem?_append_left (by omega), List.getElem?_append_left h]
theorem atomAt_append_right (a b : Wd) {i : Nat} (he : a.length % 2 = 0) (h : alen a ≤ i) : atomAt (a ++ b) i = atomAt b (i - alen a) := by
 unfold alen at h ⊢
 unfold atomAt
 simp only [List.getD_eq_getElem?_getD]
 rw [List.getElem?_append_right (by omega), List.getElem?_append_right (by omega), show 2 * i - a.length = 2 * (i - a.length / 2) by omega, show 2 * i + 1 - a.length = 2 * (i - a.length / 2) + 1 by omega]
theorem good_append {a b : Wd} (ha : Good a) (hb : Good b) : Good (a ++ b) := by
 refine ⟨by rw [List.length_append]; have := ha.1; have := hb.1; omega, fun i hi => ?_⟩
 have h1 := ha.1
 unfold alen at hi
 rw [List.length_append] at hi
 by_cases h : i < alen a
 ·rw [atomAt_append_left a b (by unfold alen at h; omega)]; exact ha.2 i h
 ·rw [atomAt_append_right a b h1 (by omega)]
  exact hb.2 _ (by unfold alen at h ⊢; omega)
theorem good_take {a : Wd} (ha : Good a) (k : Nat) : Good (a.take (2 * k)) := by
 have h1 := ha.1
 refine ⟨by rw [List.length_take]; omega, fun i hi => ?_⟩
 unfold alen at hi
 rw [List.length_take] at hi
 have e : atomAt (a.take (2 * k)) i = atomAt a i := by
  have := atomAt_append_left (a.take (2 * k)) (a.drop (2 * k)) (i := i) (by rw [List.length_take]; omega)
  rw [List.take_append_drop] at this
  exact this.symm
 rw [e]
 exact ha.2 i (by unfold alen; omega)
theorem good_drop {a : Wd} (ha : Good a) (k : Nat) : Good (a.drop (2 * k)) := by
 have h1 := ha.1
 refine ⟨by rw [List.length_drop]; omega, fun i hi => ?_⟩
 unfold alen at hi
 rw [List.length_drop] at hi
 have e : atomAt (a.drop (2 * k)) i = atomAt a (i + k) := by
  unfold atomAt
  simp only [List.getD_eq_getElem?_getD, List.getElem?_drop]
  rw [show 2 * k + 2 * i = 2 * (i + k) by omega, show 2 * k + (2 * i + 1) = 2 * (i + k) + 1 by omega]
 rw [e]
 exact ha.2 _ (by unfold alen; omega)
theorem froms_get (R : List Rul) (k : Nat) : (froms R).getD k [] = if countsB (ruleAt R k) then (ruleAt R k).1 else [] := by
 unfold froms ruleAt
 rw [List.getD_eq_getElem?_getD, List.getElem?_map, List.getD_eq_getElem?_getD]
 cases R[k]? with
 | none => simp
 | some r => rfl
theorem froms_length (R : List Rul) : (froms R).length = R.length := by simp [froms]
theorem counts_iff (r : Rul) : countsB r = true ↔ mayB r.1 = true ∧ mayB r.2 = true ∧ alen r.2 ≤ alen r.1 := by
 unfold countsB; rw [Bool.and_eq_true, Bool.and_eq_true, decide_eq_true_eq, and_assoc]
/-- A step can be done. -/
def StepAt (R : List Rul) (w : Wd) (h : Nat × Nat) : Prop := h.2 < R.length ∧ countsB (ruleAt R h.2) = true ∧ 2 * h.1 + (ruleAt R h.2).1.length ≤ w.length ∧ (w.drop (2 * h.1)).take (ruleAt R h.2).1.length = (ruleAt R h.2).1
theorem swap_may {w : Wd} {a n : Nat} {v : Wd} (hw : mayB w = true) (hv : mayB v = true) (h : a + n ≤ alen w) (hn : alen v ≤ n) : mayB (swapAt w a n v) = true ∧ (swapAt w a n v).length = w.length - 2 * n + v.length := by
 obtain ⟨g1, g2, g3⟩ := may_good.1 hw
 obtain ⟨f1, f2, f3⟩ := may_good.1 hv
 have e1 := g1.1
 have e2 := f1.1
 have el : (swapAt w a n v).length = w.length - 2 * n + v.length := by
  unfold swapAt
  unfold alen at h
  simp only [List.length_append, List.length_take, List.length_drop]
  omega
 refine ⟨may_good.2 ⟨good_append (good_append (good_take g1 _) f1) (good_drop g1 _), ?_, ?_⟩, el⟩
 ·show 1 ≤ alen (swapAt w a n v)
  unfold alen at *
  rw [el]; omega
 ·show alen (swapAt w a n v) ≤ 8
  unfold alen at *
  rw [el]; omega
end Go.Proofs.YthdfplafihmejaaGreat

namespace Go.Proofs.YthdfplafihmejaaGreat

def StepTo (R : List Rul) (u v : Wd) : Prop := ∃ h, (h, v) ∈ stepsOf R u
inductive Reach (R : List Rul) (w : Wd) : Wd → Prop
 | refl : Reach R w w
 | tail {u v : Wd} : Reach R w u → StepTo R u v → Reach R w v
theorem Reach.trans {R : List Rul} {u v w : Wd} (h : Reach R u v) (k : Reach R v w) : Reach R u w := by
 induction k with
 | refl => exact h
 | tail _ s ih => exact ih.tail s
theorem wordsR_length (r : List Ent) : (wordsR r).length = r.length := by simp [wordsR]
theorem wordsR_snoc (r : List Ent) (e : Ent) : wordsR (r ++ [e]) = wordsR r ++ [e.1] := by simp [wordsR]
theorem wordAt_mem {r : List Ent} {i : Nat} (h : i < r.length) : wordAt r i ∈ wordsR r := by
 unfold wordAt wordsR
 rw [List.getD_eq_getElem?_getD, List.getElem?_eq_getElem h, List.mem_map]
 exact ⟨_, List.getElem_mem h, rfl⟩
theorem wordAt_append {r : List Ent} (t : List Ent) {i : Nat} (h : i < r.length) : wordAt (r ++ t) i = wordAt r i := by
 unfold wordAt
 rw [List.getD_eq_getElem?_getD, List.getElem?_append_left h, ← List.getD_eq_getElem?_getD]
theorem mem_wordAt {r : List Ent} {v : Wd} (h : v ∈ wordsR r) : ∃ i, i < r.length ∧ wordAt r i = v := by
 unfold wordsR at h
 rw [List.mem_map] at h
 obtain ⟨e, he, rfl⟩ := h
 obtain ⟨i, hi, rfl⟩ := List.getElem_of_mem he
 refine ⟨i, hi, ?_⟩
 unfold wordAt
 rw [List.getD_eq_getElem?_getD, List.getElem?_eq_getElem hi]; rfl
theorem innerR_append (b i : Nat) : ∀ (l m : List ((Nat × Nat) × Wd)) (r : List Ent), innerR b i (l ++ m) r = (innerR b i l r).bind (innerR b i m)
 | [], _, _ => rfl
 | (s, v) :: t, m, r => by
  simp only [List.cons_append, innerR]
  split
  ·exact innerR_append b i t m r
  ·split
   ·rfl
   ·exact innerR_append b i t m _
/-- What a round over steps leaves. -/
theorem innerR_some {b i : Nat} : ∀ {l : List ((Nat × Nat) × Wd)} {r r' : List Ent}, innerR b i l r = some r' → (wordsR r).Nodup → r.length ≤ b → (wordsR r').Nodup ∧ r'.length ≤ b ∧ (∃ t, r' = r ++ t) ∧ (∀ v ∈ wordsR r', v ∈ wordsR r ∨ ∃ h, (h, v) ∈ l) ∧ ∀ x ∈ l, x.2 ∈ wordsR r'
 | [], r, r', h, hn, hb => by
  cases h
  exact ⟨hn, hb, ⟨[], by simp⟩, fun v hv => .inl hv, by simp⟩
 | (s, v) :: t, r, r', h, hn, hb => by
  unfold innerR at h
  split at h
  ·rename_i hv
   obtain ⟨q1, q2, ⟨tt, q3⟩, q4, q5⟩ := innerR_some h hn hb
   refine ⟨q1, q2, ⟨tt, q3⟩, fun u hu => ?_, fun x hx => ?_⟩
   ·rcases q4 u hu with q | ⟨g, q⟩
    ·exact .inl q
    ·exact .inr ⟨g, List.mem_cons_of_mem _ q⟩
   ·rcases List.mem_cons.1 hx with rfl | hx
    ·rw [q3]; unfold wordsR at hv ⊢; rw [List.map_append]; exact List.mem_append_left _ hv
    ·exact q5 x hx
  ·rename_i hv
   split at h
   ·cases h
   ·rename_i hbl
    have hn2 : (wordsR (r ++ [(v, ((i : Int), s))])).Nodup := by
     rw [wordsR_snoc, List.nodup_append]
     refine ⟨hn, by simp, fun a ha c hc e => ?_⟩
     rw [List.mem_singleton] at hc
     subst hc; subst e
     exact hv ha
    obtain ⟨q1, q2, ⟨tt, q3⟩, q4, q5⟩ := innerR_some h hn2 (by rw [List.length_append, List.length_singleton]; omega)
    refine ⟨q1, q2, ⟨(v, ((i : Int), s)) :: tt, by rw [q3]; simp⟩, fun u hu => ?_, fun x hx => ?_⟩
    ·rcases q4 u hu with q | ⟨g, q⟩
     ·rw [wordsR_snoc, List.mem_append, List.mem_singleton] at q
      rcases q with q | q
      ·exact .inl q
      ·exact .inr ⟨s, by rw [q]; exact List.mem_cons_self⟩
     ·exact .inr ⟨g, List.mem_cons_of_mem _ q⟩
    ·rcases List.mem_cons.1 hx with rfl | hx
     ·rw [q3]; unfold wordsR; simp
     ·exact q5 x hx
theorem innerR_none {b i : Nat} : ∀ {l : List ((Nat × Nat) × Wd)} {r : List Ent}, innerR b i l r = none → (wordsR r).Nodup → ∃ L : List Wd, L.Nodup ∧ L.length = b + 1 ∧ ∀ v ∈ L, v ∈ wordsR r ∨ ∃ h, (h, v) ∈ l
 | [], r, h, hn => by cases h
 | (s, v) :: t, r, h, hn => by
  unfold innerR at h
  split at h
  ·obtain ⟨L, q1, q2, q3⟩ := innerR_none h hn
   refine ⟨L, q1, q2, fun u hu => ?_⟩
   rcases q3 u hu with q | ⟨g, q⟩
   ·exact .inl q
   ·exact .inr ⟨g, List.mem_cons_of_mem _ q⟩
  ·rename_i hv
   have hn2 : (wordsR (r ++ [(v, ((i : Int), s))])).Nodup := by
    rw [wordsR_snoc, List.nodup_append]
    refine ⟨hn, by simp, fun a ha c hc e => ?_⟩
    rw [List.mem_singleton] at hc
    subst hc; subst e
    exact hv ha
   split at h
   ·rename_i hb
    refine ⟨wordsR r ++ [v], by rw [wordsR_snoc] at hn2; exact hn2, by rw [List.length_append, wordsR_length, hb]; rfl, fun u hu => ?_⟩
    rw [List.mem_append, List.mem_singleton] at hu
    rcases hu with hu | rfl
    ·exact .inl hu
    ·exact .inr ⟨s, List.mem_cons_self⟩
   ·obtain ⟨L, q1, q2, q3⟩ := innerR_none h hn2
    refine ⟨L, q1, q2, fun u hu => ?_⟩
    rcases q3 u hu with q | ⟨g, q⟩
    ·rw [wordsR_snoc, List.mem_append, List.mem_singleton] at q
     rcases q with q | q
     ·exact .inl q
     ·exact .inr ⟨s, by rw [q]; exact List.mem_cons_self⟩
    ·exact .inr ⟨g, List.mem_cons_of_mem _ q⟩
/-- What holds of a row under way: rounds up to i are done. -/
structure Under (R : List Rul) (w : Wd) (b i : Nat) (r : List Ent) : Prop where
 nodup : (wordsR r).Nodup
 len : r.length ≤ b
 start : w ∈ wordsR r
 reach : ∀ v ∈ wordsR r, Reach R w v
 closed : ∀ j, j < i → j < r.length → ∀ v, StepTo R (wordAt r j) v → v ∈ wordsR r
theorem Under.inner {R : List Rul} {w : Wd} {b i : Nat} {r r' : List Ent} (h : Under R w b i r) (hi : i < r.length) (hr : innerR b i (stepsOf R (wordAt r i)) r = some r') : Under R w b (i + 1) r' := by
 obtain ⟨q1, q2, ⟨t, rfl⟩, q4, q5⟩ := innerR_some hr h.nodup h.len
 refine ⟨q1, q2, by unfold wordsR; rw [List.map_append]; exact List.mem_append_left _ h.start, fun v hv => ?_, fun j hj hjl v hs => ?_⟩
 ·rcases q4 v hv with q | q
  ·exact h.reach v q
  ·exact (h.reach _ (wordAt_mem hi)).tail q
 ·by_cases e : j = i
  ·subst e
   rw [wordAt_append t hi] at hs
   obtain ⟨g, hg⟩ := hs
   exact q5 _ hg
  ·have hji : j < i := by omega
   rw [wordAt_append t (by omega)] at hs
   have := h.closed j hji (by omega) v hs
   unfold wordsR at this ⊢
   rw [List.map_append]
   exact List.mem_append_left _ this
theorem outer_some {R : List Rul} {w : Wd} {b : Nat} : ∀ (f i : Nat) (r r' : List Ent), f + i = b → Under R w b i r → outerR R b f i r = some r' → (wordsR r').Nodup ∧ r'.length ≤ b ∧ ∀ v, v ∈ wordsR r' ↔ Reach R w v
 | 0, i, r, r', hf, hu, h => by
  cases h
  refine ⟨hu.nodup, hu.len, fun v => ⟨hu.reach v, fun hv => ?_⟩⟩
  induction hv with
  | refl => exact hu.start
  | tail _ hs ih =>
   obtain ⟨j, hj, rfl⟩ := mem_wordAt ih
   exact hu.closed j (by have := hu.len; omega) hj _ hs
 | f + 1, i, r, r', hf, hu, h => by
  unfold outerR at h
  split at h
  ·rename_i hi
   rw [Option.bind_eq_some_iff] at h
   obtain ⟨r1, h1, h2⟩ := h
   exact outer_some f (i + 1) r1 r' (by omega) (hu.inner hi h1) h2
  ·rename_i hi
   cases h
   refine ⟨hu.nodup, hu.len, fun v => ⟨hu.reach v, fun hv => ?_⟩⟩
   induction hv with
   | refl => exact hu.start
   | tail _ hs ih =>
    obtain ⟨j, hj, rfl⟩ := mem_wordAt ih
    exact hu.closed j (by omega) hj _ hs
theorem outer_none {R : List Rul} {w : Wd} {b : Nat} : ∀ (f i : Nat) (r : List Ent), Under R w b i r → outerR R b f i r = none → ∃ L : List Wd, L.Nodup ∧ L.length = b + 1 ∧ ∀ v ∈ L, Reach R w v
 | 0, i, r, hu, h => by cases h
 | f + 1, i, r, hu, h => by
  unfold outerR at h
  split at h
  ·rename_i hi
   rw [Option.bind_eq_none_iff] at h
   cases h1 : innerR b i (stepsOf R (wordAt r i)) r with
   | none =>
    obtain ⟨L, q1, q2, q3⟩ := innerR_none h1 hu.nodup
    refine ⟨L, q1, q2, fun v hv => ?_⟩
    rcases q3 v hv with q | q
    ·exact hu.reach v q
    ·exact (hu.reach _ (wordAt_mem hi)).tail q
   | some r1 => exact outer_none f (i + 1) r1 (hu.inner hi h1) (h r1 h1)
  ·cases h
theorem under_start (R : List Rul) (w : Wd) (b : Nat) (hb : 1 ≤ b) : Under R w b 0 (startR w) :=
 ⟨by simp [startR, wordsR], by simpa [startR] using hb, by simp [startR, wordsR], fun v hv => by simp [startR, wordsR] at hv; subst hv; exact .refl, fun j hj => by omega⟩
theorem row_some {R : List Rul} {w : Wd} {b : Nat} {r : List Ent} (hb : 1 ≤ b) (h : rowOf R w b = some r) : (wordsR r).Nodup ∧ r.length ≤ b ∧ ∀ v, v ∈ wordsR r ↔ Reach R w v :=
 outer_some b 0 _ r (by omega) (under_start R w b hb) h
theorem row_none {R : List Rul} {w : Wd} {b : Nat} (hb : 1 ≤ b) (h : rowOf R w b = none) : ∃ L : List Wd, L.Nodup ∧ L.length = b + 1 ∧ ∀ v ∈ L, Reach R w v :=
 outer_none b 0 _ (under_start R w b hb) h
end Go.Proofs.YthdfplafihmejaaGreat

namespace Go.Proofs.YthdfplafihmejaaGreat

theorem nodup_le {α : Type} [DecidableEq α] : ∀ {l m : List α}, l.Nodup → (∀ x ∈ l, x ∈ m) → l.length ≤ m.length
 | [], m, _, _ => by simp
 | a :: l, m, hn, h => by
  rw [List.nodup_cons] at hn
  have ha : a ∈ m := h a List.mem_cons_self
  have := nodup_le (l := l) (m := m.erase a) hn.2 (fun x hx => (List.mem_erase_of_ne (fun e => hn.1 (by rw [← e]; exact hx))).2 (h x (List.mem_cons_of_mem _ hx)))
  rw [List.length_erase_of_mem ha] at this
  have := List.length_pos_of_mem ha
  simp only [List.length_cons]
  omega
/-- If all that is reached is among no more words than the bound, there is a row. -/
theorem row_of {R : List Rul} {w : Wd} {b : Nat} (hb : 1 ≤ b) (M : List Wd) (hM : M.length ≤ b) (h : ∀ v, Reach R w v → v ∈ M) : ∃ r, rowOf R w b = some r := by
 cases hr : rowOf R w b with
 | some r => exact ⟨r, rfl⟩
 | none =>
  obtain ⟨L, q1, q2, q3⟩ := row_none hb hr
  have := nodup_le q1 (fun x hx => h x (q3 x hx))
  omega
/-- A step by a rule that is there. -/
theorem stepTo_iff {R : List Rul} {u v : Wd} : StepTo R u v ↔ ∃ r ∈ R, countsB r = true ∧ ∃ a, a < alen u ∧ standsB r.1 u a = true ∧ v = swapAt u a (alen r.1) r.2 := by
 unfold StepTo stepsOf
 constructor
 ·rintro ⟨h, hh⟩
  rw [List.mem_map] at hh
  obtain ⟨⟨a, k⟩, h1, h2⟩ := hh
  cases h2
  obtain ⟨g1, g2, g3⟩ := hitsTo_mem.1 h1
  rw [froms_length] at g2
  rw [froms_get] at g3
  cases hc : countsB (ruleAt R k) with
  | false =>
   rw [hc] at g3
   have := (may_pos ((stands_iff _ _ _).1 g3).1).1
   simp at this
  | true =>
   rw [hc, if_pos rfl] at g3
   refine ⟨ruleAt R k, ?_, hc, a, g1, g3, rfl⟩
   unfold ruleAt
   rw [List.getD_eq_getElem?_getD, List.getElem?_eq_getElem g2]
   exact List.getElem_mem g2
 ·rintro ⟨r, hr, hc, a, ha, hs, rfl⟩
  obtain ⟨k, hk, rfl⟩ := List.getElem_of_mem hr
  have hru : ruleAt R k = R[k] := by unfold ruleAt; rw [List.getD_eq_getElem?_getD, List.getElem?_eq_getElem hk]; rfl
  refine ⟨(a, k), List.mem_map.2 ⟨(a, k), hitsTo_mem.2 ⟨ha, by rw [froms_length]; exact hk, ?_⟩, ?_⟩⟩
  ·rw [froms_get, hru, hc, if_pos rfl]; exact hs
  ·unfold useAt; rw [hru]
theorem Reach.mono {R R' : List Rul} (h : ∀ r ∈ R, r ∈ R') {u v : Wd} (hr : Reach R u v) : Reach R' u v := by
 induction hr with
 | refl => exact .refl
 | tail _ s ih =>
  obtain ⟨r, q1, q2⟩ := stepTo_iff.1 s
  exact ih.tail (stepTo_iff.2 ⟨r, h r q1, q2⟩)
/-- Words that are reached may be, and are no longer. -/
theorem step_may {R : List Rul} {u v : Wd} (hu : mayB u = true) (h : StepTo R u v) : mayB v = true ∧ v.length ≤ u.length := by
 obtain ⟨r, _, h2, a, _, h4, rfl⟩ := stepTo_iff.1 h
 obtain ⟨g1, g2, g3⟩ := (stands_iff _ _ _).1 h4
 obtain ⟨k1, k2, k3⟩ := (counts_iff _).1 h2
 have g4 := may_pos g1
 have g5 := may_pos k2
 have hle : a + alen r.1 ≤ alen u := by unfold alen at g2 ⊢; omega
 obtain ⟨q1, q2⟩ := swap_may hu k2 hle k3
 refine ⟨q1, ?_⟩
 rw [q2]
 unfold alen at k3 hle ⊢
 omega
theorem reach_may {R : List Rul} {w v : Wd} (hw : mayB w = true) (h : Reach R w v) : mayB v = true ∧ v.length ≤ w.length := by
 induction h with
 | refl => exact ⟨hw, Nat.le_refl _⟩
 | tail _ s ih =>
  obtain ⟨q1, q2⟩ := step_may ih.1 s
  exact ⟨q1, Nat.le_trans q2 ih.2⟩
end Go.Proofs.YthdfplafihmejaaGreat

namespace Go.Proofs.YthdfplafihmejaaGreat

def entAt (r : List Ent) (i : Nat) : Ent := r.getD i ([], (0, (0, 0)))
theorem entAt_append {r : List Ent} (t : List Ent) {i : Nat} (h : i < r.length) : entAt (r ++ t) i = entAt r i := by
 unfold entAt
 rw [List.getD_eq_getElem?_getD, List.getElem?_append_left h, ← List.getD_eq_getElem?_getD]
theorem wordAt_ent (r : List Ent) (i : Nat) : wordAt r i = (entAt r i).1 := rfl
/-- Each word but the first came from one ahead of it, by a step. -/
structure From (R : List Rul) (w : Wd) (r : List Ent) : Prop where
 first : entAt r 0 = (w, (-1, (0, 0)))
 pos : 0 < r.length
 back : ∀ j, 0 < j → j < r.length → ∃ i : Nat, i < j ∧ (entAt r j).2.1 = (i : Int) ∧ ((entAt r j).2.2, wordAt r j) ∈ stepsOf R (wordAt r i)
theorem From.inner {R : List Rul} {w : Wd} {b i : Nat} {u : Wd} : ∀ {l : List ((Nat × Nat) × Wd)} {r r' : List Ent}, (∀ x ∈ l, x ∈ stepsOf R u) → From R w r → i < r.length → wordAt r i = u → innerR b i l r = some r' → From R w r'
 | [], r, r', _, h, _, _, he => by cases he; exact h
 | (s, v) :: t, r, r', hl, h, hi, hu, he => by
  unfold innerR at he
  split at he
  ·exact From.inner (fun x hx => hl x (List.mem_cons_of_mem _ hx)) h hi hu he
  ·split at he
   ·cases he
   ·refine From.inner (fun x hx => hl x (List.mem_cons_of_mem _ hx)) ?_ (by rw [List.length_append]; omega) (by rw [wordAt_append _ hi]; exact hu) he
    have hlen : (r ++ [(v, ((i : Int), s))]).length = r.length + 1 := by simp
    refine ⟨by rw [entAt_append _ h.pos]; exact h.first, by omega, fun j hj hjl => ?_⟩
    rw [hlen] at hjl
    by_cases e : j = r.length
    ·subst e
     have ee : entAt (r ++ [(v, ((i : Int), s))]) r.length = (v, ((i : Int), s)) := by
      unfold entAt
      rw [List.getD_eq_getElem?_getD, List.getElem?_append_right (Nat.le_refl _), Nat.sub_self]; rfl
     refine ⟨i, hi, by rw [ee], ?_⟩
     rw [wordAt_append _ hi, hu, wordAt_ent, ee]
     exact hl _ List.mem_cons_self
    ·obtain ⟨k, q1, q2, q3⟩ := h.back j hj (by omega)
     refine ⟨k, q1, ?_, ?_⟩
     ·rw [entAt_append _ (by omega)]; exact q2
     ·rw [entAt_append _ (by omega), wordAt_append _ (by omega), wordAt_append _ (by omega)]; exact q3
theorem from_outer {R : List Rul} {w : Wd} {b : Nat} : ∀ (f i : Nat) (r r' : List Ent), From R w r → outerR R b f i r = some r' → From R w r'
 | 0, i, r, r', h, he => by cases he; exact h
 | f + 1, i, r, r', h, he => by
  unfold outerR at he
  split at he
  ·rename_i hi
   rw [Option.bind_eq_some_iff] at he
   obtain ⟨r1, h1, h2⟩ := he
   exact from_outer f (i + 1) r1 r' (h.inner (fun x hx => hx) hi rfl h1) h2
  ·cases he; exact h
theorem row_from {R : List Rul} {w : Wd} {b : Nat} {r : List Ent} (h : rowOf R w b = some r) : From R w r :=
 from_outer b 0 _ r ⟨rfl, by simp [startR], fun j hj hjl => by simp [startR] at hjl; omega⟩ h
/-- The steps to a word of the row, by its place. -/
def pathGo (r : List Ent) : Nat → Nat → List (Nat × Nat)
 | 0, _ => []
 | f + 1, i => if i = 0 then [] else pathGo r f (entAt r i).2.1.toNat ++ [(entAt r i).2.2]
def pathOf (r : List Ent) (i : Nat) : List (Nat × Nat) := pathGo r i i
theorem pathGo_fuel {R : List Rul} {w : Wd} {r : List Ent} (h : From R w r) : ∀ (f i : Nat), i < r.length → i ≤ f → pathGo r f i = pathOf r i := by
 intro f
 induction f using Nat.strongRecOn with
 | _ f ih =>
  intro i hi hf
  rcases Nat.eq_zero_or_pos i with rfl | hp
  ·cases f with
   | zero => rfl
   | succ f => simp [pathGo, pathOf]
  ·obtain ⟨g, rfl⟩ : ∃ g, f = g + 1 := ⟨f - 1, by omega⟩
   obtain ⟨m, rfl⟩ : ∃ m, i = m + 1 := ⟨i - 1, by omega⟩
   obtain ⟨k, q1, q2, _⟩ := h.back (m + 1) hp hi
   unfold pathOf
   rw [pathGo, pathGo, if_neg (by omega), if_neg (by omega), q2, Int.toNat_natCast, ih g (by omega) k (by omega) (by omega)]
   by_cases e : m < g
   ·rw [ih m (by omega) k (by omega) (by omega)]
   ·obtain rfl : g = m := by omega
    rw [ih g (by omega) k (by omega) (by omega)]
theorem path_zero (r : List Ent) : pathOf r 0 = [] := rfl
theorem path_succ {R : List Rul} {w : Wd} {r : List Ent} (h : From R w r) {i k : Nat} (hi : i < r.length) (hp : 0 < i) (hk : (entAt r i).2.1 = (k : Int)) (hki : k < i) : pathOf r i = pathOf r k ++ [(entAt r i).2.2] := by
 obtain ⟨m, rfl⟩ : ∃ m, i = m + 1 := ⟨i - 1, by omega⟩
 unfold pathOf
 rw [pathGo, if_neg (by omega), hk, Int.toNat_natCast, pathGo_fuel h m k (by omega) (by omega)]; rfl
/-- What steps lead to. -/
def walkP (R : List Rul) (w : Wd) : List (Nat × Nat) → Option Wd
 | [] => some w
 | h :: t => if h ∈ hits (froms R) w then walkP R (useAt R w h) t else none
theorem walkP_append (R : List Rul) : ∀ (l m : List (Nat × Nat)) (w : Wd), walkP R w (l ++ m) = (walkP R w l).bind (fun v => walkP R v m)
 | [], _, _ => rfl
 | h :: t, m, w => by
  simp only [List.cons_append, walkP]
  split
  ·exact walkP_append R t m _
  ·rfl
theorem path_walks {R : List Rul} {w : Wd} {r : List Ent} (h : From R w r) : ∀ i, i < r.length → walkP R w (pathOf r i) = some (wordAt r i) ∧ (pathOf r i).length ≤ i := by
 intro i
 induction i using Nat.strongRecOn with
 | _ i ih =>
  intro hi
  rcases Nat.eq_zero_or_pos i with rfl | hp
  ·rw [path_zero]
   refine ⟨?_, Nat.le_refl _⟩
   rw [wordAt_ent, h.first]; rfl
  ·obtain ⟨k, q1, q2, q3⟩ := h.back i hp hi
   obtain ⟨g1, g2⟩ := ih k q1 (by omega)
   rw [path_succ h hi hp q2 q1]
   refine ⟨?_, by rw [List.length_append, List.length_singleton]; omega⟩
   rw [walkP_append, g1]
   unfold stepsOf at q3
   rw [List.mem_map] at q3
   obtain ⟨x, hx, e⟩ := q3
   have e1 := congrArg Prod.fst e
   have e2 := congrArg Prod.snd e
   simp only at e1 e2
   subst e1
   show walkP R (wordAt r k) [_] = _
   unfold walkP
   rw [if_pos hx, ← e2]; rfl
end Go.Proofs.YthdfplafihmejaaGreat
