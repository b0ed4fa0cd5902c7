/-
  What Make makes, by computing.
-/
import Derived.Test.YthdfplafihmejaaGreatQMake
namespace Go.Proofs.YthdfplafihmejaaGreat
open Go.RowKit Go.Maps

deriving instance DecidableEq for BItem
deriving instance DecidableEq for BProof
def cutOkB (roots : Int) (C : List BCert) (p : BProof) : Bool := decide (0 ≤ roots) && (((List.range p.items.length).all fun k => match p.items[k]? with
 | some x => itemB roots C p.items k x
 | none => true) && standB roots (tot C p.items p.items.length) p.steps)
theorem cutOkB_iff {roots : Int} {C : List BCert} {p : BProof} : cutOkB roots C p = true ↔ CutOk roots C p := by
 unfold cutOkB
 rw [Bool.and_eq_true, Bool.and_eq_true, decide_eq_true_eq, List.all_eq_true]
 constructor
 ·rintro ⟨h1, h2, h3⟩
  refine ⟨h1, fun k x hx => ?_, h3⟩
  have := h2 k (List.mem_range.2 (List.getElem?_eq_some_iff.1 hx).1)
  rw [hx] at this
  exact this
 ·rintro ⟨h1, h2, h3⟩
  refine ⟨h1, fun k _ => ?_, h3⟩
  cases hx : p.items[k]? with
  | none => rfl
  | some x => exact h2 k x hx
theorem makeE_ok {R : List BRul} {C : List BCert} {x u : ByteArray} {b : Int} {s : ASt} {q : BProof} (h1 : acceptE R C b = .ok s) (h2 : tellPE s.rules x u b = 0) (h3 : cutOkB R.length C (wholeM R C b s x u) = true) (h4 : cutE R.length C (wholeM R C b s x u) = q) : makeE R C x u b = (0, q) := by
 unfold makeE
 rw [h1]
 simp only
 rw [if_pos h2, if_pos (cutOkB_iff.1 h3), h4]
theorem makeE_no {R : List BRul} {C : List BCert} {x u : ByteArray} {b : Int} {s : ASt} {k : Int} (h1 : acceptE R C b = .ok s) (h2 : tellPE s.rules x u b = k) (h3 : k ≠ 0) : makeE R C x u b = (k, ⟨[], []⟩) := by
 unfold makeE
 rw [h1]
 simp only
 rw [h2, if_neg h3]
def isOk13 (x : Except Int ASt) (s : ASt) : Bool := match x with
 | .ok t => decide (t.order = s.order) && decide (t.rules = s.rules)
 | .error _ => false
theorem of_isOk13 {x : Except Int ASt} {s : ASt} (h : isOk13 x s = true) : x = .ok s := by
 unfold isOk13 at h
 cases x with
 | error e => cases h
 | ok t =>
  simp only [Bool.and_eq_true, decide_eq_true_eq] at h
  cases t; cases s
  simp at h
  rw [h.1, h.2]
end Go.Proofs.YthdfplafihmejaaGreat
