/-
  Cuts in plain Lean: whose a rule is, what is needed, where rules go; a cut proof, cut again, stays.
  Proofs that are right, in plain Lean: item by item; cut they stay right; what is made is right; what is right is so.
-/
import Derived.Test.YthdfplafihmejaaGreatQAt
import Derived.Test.YthdfplafihmejaaGreatQMake
import Derived.Test.YthdfplafihmejaaGreatQCheck
namespace Go.Proofs.YthdfplafihmejaaGreat
open Go.RowKit Go.Maps

/-! whose a rule is -/
theorem count_begins {C : List BCert} {I : List BItem} {q i : Nat} (hi : i ≤ I.length) (h1 : tot C I i ≤ q) (h2 : ∀ j, i < j → j ≤ I.length → q < tot C I j) : (begins C I).countP (fun b => decide (b ≤ q)) = i + 1 := by
 have e : begins C I = beginsTo C I (i + 1) ++ (List.range' (i + 1) (I.length - i)).map (tot C I) := by
  unfold begins beginsTo
  rw [← List.map_append, List.range_eq_range', List.range_eq_range']
  congr 1
  have := @List.range'_append_1 0 (i + 1) (I.length - i)
  rw [Nat.zero_add] at this
  rw [this]
  congr 1
  omega
 rw [e, List.countP_append]
 have z : ((List.range' (i + 1) (I.length - i)).map (tot C I)).countP (fun b => decide (b ≤ q)) = 0 := by
  rw [List.countP_eq_zero]
  intro b hb
  obtain ⟨j, hj, rfl⟩ := List.mem_map.1 hb
  have hj2 := List.mem_range'_1.1 hj
  have := h2 j (by omega) (by omega)
  simp
  omega
 have y : (beginsTo C I (i + 1)).countP (fun b => decide (b ≤ q)) = (beginsTo C I (i + 1)).length := by
  rw [List.countP_eq_length]
  intro b hb
  obtain ⟨j, hj, rfl⟩ := List.mem_map.1 hb
  rw [List.mem_range] at hj
  have := tot_mono C I (show j ≤ i by omega)
  simp
  omega
 rw [z, y, beginsTo_length]
theorem own_at {roots : Int} {C : List BCert} {I : List BItem} {r : Int} {i : Nat} (hi : i < I.length) (h1 : roots + tot C I i ≤ r) (h2 : r < roots + tot C I (i + 1)) : own13 roots (begins C I) r = some i := by
 unfold own13
 rw [if_neg (by omega), count_begins (i := i) (by omega) (by omega) (fun j hj _ => by
  have := tot_mono C I (show i + 1 ≤ j by omega)
  omega)]
 rfl
theorem tot_find {C : List BCert} {I : List BItem} {q : Nat} : ∀ {k : Nat}, q < tot C I k → ∃ i, i < k ∧ tot C I i ≤ q ∧ q < tot C I (i + 1)
 | 0, h => by rw [tot_zero] at h; omega
 | k + 1, h => by
  by_cases hk : q < tot C I k
  ·obtain ⟨i, h1, h2, h3⟩ := tot_find hk
   exact ⟨i, by omega, h2, h3⟩
  ·exact ⟨k, by omega, by omega, h⟩
theorem own_inv {roots : Int} {C : List BCert} {I : List BItem} {r : Int} {i k : Nat} (hk : k ≤ I.length) (hr : r < roots + tot C I k) (h : own13 roots (begins C I) r = some i) : i < k ∧ roots + tot C I i ≤ r ∧ r < roots + tot C I (i + 1) := by
 by_cases h0 : r < roots
 ·unfold own13 at h
  rw [if_pos h0] at h
  cases h
 obtain ⟨j, h1, h2, h3⟩ := tot_find (C := C) (I := I) (q := (r - roots).toNat) (k := k) (by omega)
 have e := own_at (roots := roots) (C := C) (I := I) (r := r) (i := j) (by omega) (by omega) (by omega)
 rw [e] at h
 cases h
 exact ⟨h1, by omega, by omega⟩
theorem own_none13 {roots : Int} {B : List Nat} {r : Int} : own13 roots B r = none ↔ r < roots := by
 unfold own13
 split
 ·rename_i h; exact ⟨fun _ => h, fun _ => rfl⟩
 ·rename_i h; exact ⟨fun e => (by cases e), fun e => absurd e h⟩
/-! what is needed -/
def usesL (roots : Int) (B : List Nat) (l : BSteps) (i : Nat) : Prop := ∃ s ∈ l, own13 roots B s.2 = some i
def usesI (roots : Int) (B : List Nat) (x : BItem) (i : Nat) : Prop := ∃ l ∈ x.paths, usesL roots B l i
theorem getD_set_true (l : List Bool) (k i : Nat) : (l.set k true).getD i false = true ↔ l.getD i false = true ∨ (i < l.length ∧ k = i) := by
 rw [List.getD_eq_getElem?_getD, List.getD_eq_getElem?_getD, List.getElem?_set]
 by_cases hk : k = i
 ·subst hk
  rw [if_pos rfl]
  by_cases hl : k < l.length
  ·rw [if_pos hl]; simp [hl]
  ·rw [if_neg hl, List.getElem?_eq_none (by omega)]; simp [hl]
 ·rw [if_neg hk]; simp [hk]
theorem markS_get (roots : Int) (B : List Nat) (need : List Bool) (s : Int × Int) (i : Nat) : (markS roots B need s).getD i false = true ↔ need.getD i false = true ∨ (i < need.length ∧ own13 roots B s.2 = some i) := by
 unfold markS
 cases h : own13 roots B s.2 with
 | none => simp
 | some k => simp only; rw [getD_set_true]; simp
theorem markL_get (roots : Int) (B : List Nat) (l : BSteps) (i : Nat) : ∀ need : List Bool, (markL roots B need l).getD i false = true ↔ need.getD i false = true ∨ (i < need.length ∧ usesL roots B l i) := by
 unfold markL
 induction l with
 | nil => intro need; simp [usesL]
 | cons s l ih =>
  intro need
  rw [List.foldl_cons, ih, markS_get, markS_length]
  unfold usesL
  constructor
  ·rintro ((h | ⟨h1, h2⟩) | ⟨h1, t, h2, h3⟩)
   ·exact .inl h
   ·exact .inr ⟨h1, s, List.mem_cons_self, h2⟩
   ·exact .inr ⟨h1, t, List.mem_cons_of_mem _ h2, h3⟩
  ·rintro (h | ⟨h1, t, h2, h3⟩)
   ·exact .inl (.inl h)
   ·rcases List.mem_cons.1 h2 with rfl | h2
    ·exact .inl (.inr ⟨h1, h3⟩)
    ·exact .inr ⟨h1, t, h2, h3⟩
theorem markP_get (roots : Int) (B : List Nat) (ps : List BSteps) (i : Nat) : ∀ need : List Bool, (markP roots B need ps).getD i false = true ↔ need.getD i false = true ∨ (i < need.length ∧ ∃ l ∈ ps, usesL roots B l i) := by
 unfold markP
 induction ps with
 | nil => intro need; simp
 | cons s l ih =>
  intro need
  rw [List.foldl_cons, ih, markL_get, markL_length]
  constructor
  ·rintro ((h | ⟨h1, h2⟩) | ⟨h1, t, h2, h3⟩)
   ·exact .inl h
   ·exact .inr ⟨h1, s, List.mem_cons_self, h2⟩
   ·exact .inr ⟨h1, t, List.mem_cons_of_mem _ h2, h3⟩
  ·rintro (h | ⟨h1, t, h2, h3⟩)
   ·exact .inl (.inl h)
   ·rcases List.mem_cons.1 h2 with rfl | h2
    ·exact .inl (.inr ⟨h1, h3⟩)
    ·exact .inr ⟨h1, t, h2, h3⟩
theorem backS_get (roots : Int) (B : List Nat) (I : List BItem) (need : List Bool) (k i : Nat) : (backS roots B I need k).getD i false = true ↔ need.getD i false = true ∨ (need.getD k false = true ∧ i < need.length ∧ ∃ x, I[k]? = some x ∧ usesI roots B x i) := by
 unfold backS
 rw [show need.getD k false = need[k]?.getD false from List.getD_eq_getElem?_getD]
 cases h : need[k]? with
 | none => simp
 | some b =>
  cases b with
  | false => simp
  | true =>
   simp only [Option.getD_some, true_and]
   cases hx : I[k]? with
   | none => simp
   | some x =>
    simp only
    rw [markP_get]
    unfold usesI
    constructor
    ·rintro (h | ⟨h1, h2⟩)
     ·exact .inl h
     ·exact .inr ⟨h1, x, rfl, h2⟩
    ·rintro (h | ⟨h1, y, h2, h3⟩)
     ·exact .inl h
     ·cases h2; exact .inr ⟨h1, h3⟩
/-- Items use rules of items ahead of them alone. -/
def Ahead (roots : Int) (B : List Nat) (I : List BItem) : Prop := ∀ (k : Nat) x i, I[k]? = some x → usesI roots B x i → i < k
theorem bool_eq_iff' {a b : Bool} (h : a = true ↔ b = true) : a = b := by cases a <;> cases b <;> simp_all
theorem backTo_get {roots : Int} {B : List Nat} {I : List BItem} (hA : Ahead roots B I) : ∀ (k : Nat) (need : List Bool), (∀ j, k ≤ j + 1 → (backTo roots B I k need).getD j false = need.getD j false) ∧
  ∀ i, (backTo roots B I k need).getD i false = true ↔ need.getD i false = true ∨ ∃ j x, j < k ∧ I[j]? = some x ∧ (backTo roots B I k need).getD j false = true ∧ i < need.length ∧ usesI roots B x i
 | 0, need => ⟨fun _ _ => rfl, fun i => ⟨.inl, fun h => by
   rcases h with h | ⟨j, x, h, _⟩
   ·exact h
   ·omega⟩⟩
 | k + 1, need => by
  have e : backTo roots B I (k + 1) need = backTo roots B I k (backS roots B I need k) := rfl
  rw [e]
  obtain ⟨h1, h2⟩ := backTo_get hA k (backS roots B I need k)
  have same : ∀ j, k ≤ j → (backS roots B I need k).getD j false = need.getD j false := fun j hj => bool_eq_iff' (by
   rw [backS_get]
   constructor
   ·rintro (h | ⟨_, _, x, hx, hu⟩)
    ·exact h
    ·have := hA k x j hx hu
     omega
   ·exact .inl)
  refine ⟨fun j hj => by rw [h1 j (by omega), same j (by omega)], fun i => ?_⟩
  have hk : (backTo roots B I k (backS roots B I need k)).getD k false = need.getD k false := by rw [h1 k (by omega), same k (Nat.le_refl _)]
  rw [h2 i, backS_get, backS_length]
  constructor
  ·rintro ((h | ⟨h3, h4, x, h5, h6⟩) | ⟨j, x, h3, h4, h5, h6, h7⟩)
   ·exact .inl h
   ·exact .inr ⟨k, x, by omega, h5, by rw [hk]; exact h3, h4, h6⟩
   ·exact .inr ⟨j, x, by omega, h4, h5, h6, h7⟩
  ·rintro (h | ⟨j, x, h3, h4, h5, h6, h7⟩)
   ·exact .inl (.inl h)
   ·by_cases hj : j = k
    ·subst hj
     exact .inl (.inr ⟨by rw [← hk]; exact h5, h6, x, h4, h7⟩)
    ·exact .inr ⟨j, x, by omega, h4, h5, h6, h7⟩
section
variable {roots : Int} {C : List BCert} {p : BProof}
theorem CutOk.stands (h : CutOk roots C p) {k : Nat} {x : BItem} (hx : p.items[k]? = some x) {l : BSteps} (hl : l ∈ x.paths) {s : Int × Int} (hs : s ∈ l) : 0 ≤ s.2 ∧ s.2 < roots + tot C p.items k := by
 have h1 := h.item k x hx
 unfold itemB at h1
 simp only [Bool.and_eq_true, List.all_eq_true] at h1
 have h2 := h1.2.2 l hl
 unfold standB at h2
 have h3 := List.all_eq_true.1 h2 s hs
 unfold standS at h3
 simpa using h3
theorem CutOk.lasts (h : CutOk roots C p) {s : Int × Int} (hs : s ∈ p.steps) : 0 ≤ s.2 ∧ s.2 < roots + tot C p.items p.items.length := by
 have h2 := h.last
 unfold standB at h2
 have h3 := List.all_eq_true.1 h2 s hs
 unfold standS at h3
 simpa using h3
theorem CutOk.cert (h : CutOk roots C p) {k : Nat} {x : BItem} (hx : p.items[k]? = some x) : 0 ≤ x.cert ∧ x.cert < C.length := by
 have h1 := h.item k x hx
 unfold itemB at h1
 simp only [Bool.and_eq_true, decide_eq_true_eq] at h1
 exact ⟨h1.1, h1.2.1⟩
theorem CutOk.ahead (h : CutOk roots C p) : Ahead roots (begins C p.items) p.items := fun k x i hx hu => by
 obtain ⟨l, hl, s, hs, ho⟩ := hu
 exact (own_inv (Nat.le_of_lt (List.getElem?_eq_some_iff.1 hx).1) (h.stands hx hl hs).2 ho).1
theorem CutOk.usesL_lt (h : CutOk roots C p) {i : Nat} (hu : usesL roots (begins C p.items) p.steps i) : i < p.items.length := by
 obtain ⟨s, hs, ho⟩ := hu
 exact (own_inv (Nat.le_refl _) (h.lasts hs).2 ho).1
theorem need_iff (h : CutOk roots C p) (i : Nat) : (needB roots (begins C p.items) p).getD i false = true ↔ usesL roots (begins C p.items) p.steps i ∨ ∃ k x, p.items[k]? = some x ∧ (needB roots (begins C p.items) p).getD k false = true ∧ usesI roots (begins C p.items) x i := by
 have h1 := (backTo_get h.ahead p.items.length (markL roots (begins C p.items) (List.replicate p.items.length false) p.steps)).2 i
 unfold needB
 rw [h1, markL_get, markL_length, List.length_replicate]
 have hrep : (List.replicate p.items.length false).getD i false = false := by
  rw [List.getD_eq_getElem?_getD, List.getElem?_replicate]
  split <;> rfl
 rw [hrep]
 constructor
 ·rintro ((h2 | ⟨_, h2⟩) | ⟨j, x, _, h3, h4, _, h5⟩)
  ·cases h2
  ·exact .inl h2
  ·exact .inr ⟨j, x, h3, h4, h5⟩
 ·rintro (h2 | ⟨j, x, h3, h4, h5⟩)
  ·exact .inl (.inr ⟨h.usesL_lt h2, h2⟩)
  ·have hj := (List.getElem?_eq_some_iff.1 h3).1
   exact .inr ⟨j, x, hj, h3, h4, by have := h.ahead j x i h3 h5; omega, h5⟩
end
/-! where rules go -/
section
variable (roots : Int) (C : List BCert) (B : List Nat) (gone : Nat → Nat) (need : List Bool) (I : List BItem)
def newI (x : BItem) : BItem := ⟨x.cert, x.paths.map (anewL roots B gone)⟩
end
/-! the cut proof -/
section
variable {roots : Int} {C : List BCert} {p : BProof}
/-- Where item k goes. -/
def toI (roots : Int) (C : List BCert) (p : BProof) (k : Nat) : Nat := (keepTo roots (begins C p.items) (goneTo C p.items (needB roots (begins C p.items) p)) (needB roots (begins C p.items) p) p.items k).length
def newX (roots : Int) (C : List BCert) (p : BProof) (x : BItem) : BItem := newI roots (begins C p.items) (goneTo C p.items (needB roots (begins C p.items) p)) x
def newS (roots : Int) (C : List BCert) (p : BProof) (s : Int × Int) : Int × Int := anewS roots (begins C p.items) (goneTo C p.items (needB roots (begins C p.items) p)) s
def isN (roots : Int) (C : List BCert) (p : BProof) (k : Nat) : Prop := (needB roots (begins C p.items) p).getD k false = true
end
end Go.Proofs.YthdfplafihmejaaGreat

namespace Go.Proofs.YthdfplafihmejaaGreat
open Go.RowKit Go.Maps

def rulesTo (C : List BCert) (I : List BItem) (k : Nat) : List BRul := (I.take k).flatMap (rulesI C)
def certsTo (I : List BItem) (k : Nat) : List Nat := (I.take k).map fun x => x.cert.toNat
/-! what the look asks of each item -/
/-- A right proof. -/
structure Right13 (R : List BRul) (C : List BCert) (p : BProof) (x u : ByteArray) : Prop where
 items : ∀ (k : Nat) y, p.items[k]? = some y → itemE (R ++ rulesTo C p.items k) C (certsTo p.items k) y = 0
 last : leadsB (R ++ rulesTo C p.items p.items.length) x u p.steps = true
/-! steps, by other rules -/
/-! a right proof can be cut, and stays right -/
section
variable {R : List BRul} {C : List BCert} {p : BProof} {x u : ByteArray}
end
/-! weights -/
/-! what is made is right -/
section
variable {R : List BRul} {C : List BCert} {b : Int} {s : ASt} {x u : ByteArray}
/-! what is right is so -/
end
end Go.Proofs.YthdfplafihmejaaGreat
