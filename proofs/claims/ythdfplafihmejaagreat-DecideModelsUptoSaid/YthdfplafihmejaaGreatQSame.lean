/-
  Proofs that come in; proofs that are the same (the reference's Steps and Same).
-/
import Derived.Test.YthdfplafihmejaaGreatEArgs
import Derived.Test.YthdfplafihmejaaGreatQAt
import Derived.Test.YthdfplafihmejaaGreatQNeed
import Derived.Test.YthdfplafihmejaaGreatQCutP
namespace Go.Proofs.YthdfplafihmejaaGreat
open Go.ChangeShapes Go.WideShapes Go.ChangeAt Go.RowKit Go.Maps

/-- A proof that came in. -/
def ProofArg (w : World) (v : Value) (p : BProof) : Prop := ∃ ia ic sa sc, v = .agg #[.slice ia p.items.length ic, .slice sa p.steps.length sc] ∧ ProofAt w (.slice ia p.items.length ic) (.slice sa p.steps.length sc) (· < w.heap.size) p ∧ ProofFit p
end Go.Proofs.YthdfplafihmejaaGreat

namespace Go.Proofs.YthdfplafihmejaaGreat
open Go.RowKit Go.Maps

end Go.Proofs.YthdfplafihmejaaGreat
