/-
  Cuts in plain Lean: whose a rule is, what is needed, where rules go; a cut proof, cut again, stays.
  Proofs that are right, in plain Lean: item by item; cut they stay right; what is made is right; what is right is so.
-/
import Derived.Test.YthdfplafihmejaaGreatQAt
import Derived.Test.YthdfplafihmejaaGreatQMake
import Derived.Test.YthdfplafihmejaaGreatQCheck
namespace Go.Proofs.YthdfplafihmejaaGreat
open Go.RowKit Go.Maps

/-! whose a rule is -/
/-! what is needed -/
def usesL (roots : Int) (B : List Nat) (l : BSteps) (i : Nat) : Prop := ∃ s ∈ l, own13 roots B s.2 = some i
def usesI (roots : Int) (B : List Nat) (x : BItem) (i : Nat) : Prop := ∃ l ∈ x.paths, usesL roots B l i
/-- Items use rules of items ahead of them alone. -/
def Ahead (roots : Int) (B : List Nat) (I : List BItem) : Prop := ∀ (k : Nat) x i, I[k]? = some x → usesI roots B x i → i < k
section
variable {roots : Int} {C : List BCert} {p : BProof}
end
/-! where rules go -/
section
variable (roots : Int) (C : List BCert) (B : List Nat) (gone : Nat → Nat) (need : List Bool) (I : List BItem)
def newI (x : BItem) : BItem := ⟨x.cert, x.paths.map (anewL roots B gone)⟩
end
/-! the cut proof -/
section
variable {roots : Int} {C : List BCert} {p : BProof}
/-- Where item k goes. -/
def toI (roots : Int) (C : List BCert) (p : BProof) (k : Nat) : Nat := (keepTo roots (begins C p.items) (goneTo C p.items (needB roots (begins C p.items) p)) (needB roots (begins C p.items) p) p.items k).length
def newX (roots : Int) (C : List BCert) (p : BProof) (x : BItem) : BItem := newI roots (begins C p.items) (goneTo C p.items (needB roots (begins C p.items) p)) x
def newS (roots : Int) (C : List BCert) (p : BProof) (s : Int × Int) : Int × Int := anewS roots (begins C p.items) (goneTo C p.items (needB roots (begins C p.items) p)) s
def isN (roots : Int) (C : List BCert) (p : BProof) (k : Nat) : Prop := (needB roots (begins C p.items) p).getD k false = true
end
end Go.Proofs.YthdfplafihmejaaGreat

namespace Go.Proofs.YthdfplafihmejaaGreat
open Go.RowKit Go.Maps

def rulesTo (C : List BCert) (I : List BItem) (k : Nat) : List BRul := (I.take k).flatMap (rulesI C)
def certsTo (I : List BItem) (k : Nat) : List Nat := (I.take k).map fun x => x.cert.toNat
/-! what the look asks of each item -/
/-- A right proof. -/
structure Right13 (R : List BRul) (C : List BCert) (p : BProof) (x u : ByteArray) : Prop where
 items : ∀ (k : Nat) y, p.items[k]? = some y → itemE (R ++ rulesTo C p.items k) C (certsTo p.items k) y = 0
 last : leadsB (R ++ rulesTo C p.items p.items.length) x u p.steps = true
/-! steps, by other rules -/
/-! a right proof can be cut, and stays right -/
section
variable {R : List BRul} {C : List BCert} {p : BProof} {x u : ByteArray}
end
/-! weights -/
/-! what is made is right -/
section
variable {R : List BRul} {C : List BCert} {b : Int} {s : ASt} {x u : ByteArray}
/-! what is right is so -/
end
end Go.Proofs.YthdfplafihmejaaGreat
