/-
  What Make makes, by computing.
  Layer 17: awake, in plain Lean.
-/
import Derived.Test.YthdfplafihmejaaGreatQMake
import Derived.Test.YthdfplafihmejaaGreatVPlain2
namespace Go.Proofs.YthdfplafihmejaaGreat
open Go.RowKit Go.Maps

deriving instance DecidableEq for BItem
deriving instance DecidableEq for BProof
def cutOkB (roots : Int) (C : List BCert) (p : BProof) : Bool := decide (0 ≤ roots) && (((List.range p.items.length).all fun k => match p.items[k]? with
 | some x => itemB roots C p.items k x
 | none => true) && standB roots (tot C p.items p.items.length) p.steps)
theorem cutOkB_iff {roots : Int} {C : List BCert} {p : BProof} : cutOkB roots C p = true ↔ CutOk roots C p := by
 unfold cutOkB
 rw [Bool.and_eq_true, Bool.and_eq_true, decide_eq_true_eq, List.all_eq_true]
 constructor
 ·rintro ⟨h1, h2, h3⟩
  refine ⟨h1, fun k x hx => ?_, h3⟩
  have := h2 k (List.mem_range.2 (List.getElem?_eq_some_iff.1 hx).1)
  rw [hx] at this
  exact this
 ·rintro ⟨h1, h2, h3⟩
  refine ⟨h1, fun k _ => ?_, h3⟩
  cases hx : p.items[k]? with
  | none => rfl
  | some x => exact h2 k x hx
theorem makeE_ok {R : List BRul} {C : List BCert} {x u : ByteArray} {b : Int} {s : ASt} {q : BProof} (h1 : acceptE R C b = .ok s) (h2 : tellPE s.rules x u b = 0) (h3 : cutOkB R.length C (wholeM R C b s x u) = true) (h4 : cutE R.length C (wholeM R C b s x u) = q) : makeE R C x u b = (0, q) := by
 unfold makeE
 rw [h1]
 simp only
 rw [if_pos h2, if_pos (cutOkB_iff.1 h3), h4]
theorem makeE_no {R : List BRul} {C : List BCert} {x u : ByteArray} {b : Int} {s : ASt} {k : Int} (h1 : acceptE R C b = .ok s) (h2 : tellPE s.rules x u b = k) (h3 : k ≠ 0) : makeE R C x u b = (k, ⟨[], []⟩) := by
 unfold makeE
 rw [h1]
 simp only
 rw [h2, if_neg h3]
def isOk13 (x : Except Int ASt) (s : ASt) : Bool := match x with
 | .ok t => decide (t.order = s.order) && decide (t.rules = s.rules)
 | .error _ => false
theorem of_isOk13 {x : Except Int ASt} {s : ASt} (h : isOk13 x s = true) : x = .ok s := by
 unfold isOk13 at h
 cases x with
 | error e => cases h
 | ok t =>
  simp only [Bool.and_eq_true, decide_eq_true_eq] at h
  cases t; cases s
  simp at h
  rw [h.1, h.2]
end Go.Proofs.YthdfplafihmejaaGreat

namespace Go.Proofs.YthdfplafihmejaaGreat
open Go.RowKit Go.Maps

deriving instance DecidableEq for DDec
def k17 (i : Nat) : ByteArray := ⟨#[32, UInt8.ofNat i]⟩
def n17 : ByteArray := ⟨#[96, 1]⟩
def aw17R : List BRul := [(n17, k17 1)]
def aw17C : List BCert := [⟨6, 8193, k17 2, [n17], 0, 0, 0⟩]
def aw17L : List BEnt := [(0, [n17])]
def aw17S : ASt := ⟨[0], [(n17, k17 1), (n17, k17 2)]⟩
def aw17P : BProof := ⟨[⟨0, [[(0, 0)]]⟩], [(0, 1)]⟩
theorem aw17_run : acceptE aw17R aw17C 9 = .ok aw17S := of_isOk13 (by decide +kernel)
theorem aw17_make : makeE aw17R aw17C n17 (k17 2) 9 = (0, aw17P) := makeE_ok aw17_run (by decide +kernel) (by decide +kernel) (by decide +kernel)
theorem aw17_d : decE aw17R aw17C aw17L 0 [k17 2] 9 = (0, ⟨1, 0, false, aw17S.rules⟩) := by decide +kernel
theorem aw17_d3 : decE aw17R aw17C aw17L 0 [k17 3] 9 = (0, ⟨0, -1, false, aw17S.rules⟩) := by decide +kernel
theorem aw17_n : decE aw17R aw17C aw17L 0 [n17] 1 = (0, ⟨1, 0, true, []⟩) := by decide +kernel
theorem aw17_o : decE aw17R aw17C aw17L 0 [k17 3] 1 = (0, ⟨2, 0, false, []⟩) := by decide +kernel
def aw17Y : BWhy := ⟨0, [0], [aw17P]⟩
theorem aw17_e : explE aw17R aw17C aw17L 0 [k17 2] 9 = (1, aw17Y, 0) := by
 unfold explE
 rw [aw17_d, if_pos ⟨rfl, rfl⟩]
 have t : toW ⟨1, 0, false, aw17S.rules⟩ 9 [k17 2] n17 = 0 := by decide +kernel
 have w : whoE aw17L 0 = [n17] := rfl
 unfold whyE
 simp only [w, List.map_cons, List.map_nil, t]
 unfold prfW
 rw [if_neg (by decide), t]
 show ((1 : Int), (⟨0, [0], [(makeE aw17R aw17C n17 (k17 2) 9).2]⟩ : BWhy), (0 : Int)) = _
 rw [aw17_make]
 rfl
theorem aw17_z : explE aw17R aw17C aw17L 0 [n17] 1 = (1, ⟨0, [0], [⟨[], []⟩]⟩, 0) := by
 unfold explE
 rw [aw17_n, if_pos ⟨rfl, rfl⟩]
 have t : toW ⟨1, 0, true, []⟩ 1 [n17] n17 = 0 := by decide +kernel
 have w : whoE aw17L 0 = [n17] := rfl
 unfold whyE
 simp only [w, List.map_cons, List.map_nil, t]
 unfold prfW
 rw [if_pos rfl]
 rfl
theorem aw17_c : chkE aw17R aw17C aw17L 0 [k17 2] aw17Y = 0 := by decide +kernel
theorem aw17_c3 : chkE aw17R aw17C aw17L 0 [k17 3] aw17Y = 13 := by decide +kernel
end Go.Proofs.YthdfplafihmejaaGreat
