/-
  No cell of these rows narrows 'for every input' (looked for: loops, veiled, ifaces, maps, wideKeys, modest, calm, conditions, laid).
  DERIVED. THE GIVEN ROWS OF THIS SEAT. 6 by the template 'for every input the law returns true; each argument reads behind the call as it read before'; 0 by the template 'total and deterministic' (their statements: YthdfplafihmejaaGreatTotals.lean).
  GIVEN WITH THE SEED: the statements are not yours to turn. If you find one false, say at which input.
  Laid BY PROGRAM, IN A SANDBOX (cutbox-rows.mjs): the forced cells as the released guide's own fill.sh prints them over the translation 9fc3909c4553aefe… (all of the seat's roots in one cut). By AI agents, Wed Nov 11 2026. No macro, syntax, notation, axiom, sorry.
-/
import Derived.Test.YthdfplafihmejaaGreatChecked
import GoSem.Claim
import GoSem.ClaimJoined
import GoSem.ClaimMapViews
import Derived.JoinedTies
import Derived.KernelRfl
namespace Go.Proofs.YthdfplafihmejaaGreat
/- THE CELL 'sum', in the pinned program and in every row, IS THE sha256 OF THE DUMP (.gsa) THAT YthdfplafihmejaaGreatProg.lean LOADS. Nothing in Lean hashes anything: it is a label: what it is worth is what the hold of that sum in a sandbox is worth. -/
noncomputable def Tryz.pinned : Pinned := { name := "ythdfplafihmejaagreat", sum := "9fc3909c4553aefe6ad34983279e497a7b05173dbe601770f9a50f5242aa1768", checked := Tryz.checked }
namespace Rows
def none {H : Type} : Left H := { results := [], args := [] }

/-- 'attorneylaw17.DecideTells': WHATEVER THE INPUT: true; the input reads as it did. -/
def decideTellsSpec : ChangeSpec := { name := "decideTells", fn := fun _ => fun
  | [d] => { results := [.lit (.bool true)], args := [d] }
  | _ => none }
def decideTellsRow : OpenClaim := { program := "ythdfplafihmejaagreat", sum := "9fc3909c4553aefe6ad34983279e497a7b05173dbe601770f9a50f5242aa1768", func := "attorney/attorneylaw17.DecideTells", spec := "decideTells", unfollowed := true, recurses := true, apart := false }
def DecideTellsSaid : Prop := decideTellsRow.holds Tryz.pinned (OpenSpec.ofChange decideTellsSpec)

/-- ITS FALSE NEIGHBOUR: 'it returns false'. Refute it at one input. -/
def decideTellsWrong : ChangeSpec := { name := "decideTells", fn := fun _ => fun
  | [d] => { results := [.lit (.bool false)], args := [d] }
  | _ => none }
def DecideTellsWrongFalsely : Prop := decideTellsRow.holds Tryz.pinned (OpenSpec.ofChange decideTellsWrong)

/-- 'attorneylaw17.DecideChecks': WHATEVER THE INPUT: true; the input reads as it did. -/
def decideChecksSpec : ChangeSpec := { name := "decideChecks", fn := fun _ => fun
  | [d1, d2] => { results := [.lit (.bool true)], args := [d1, d2] }
  | _ => none }
def decideChecksRow : OpenClaim := { program := "ythdfplafihmejaagreat", sum := "9fc3909c4553aefe6ad34983279e497a7b05173dbe601770f9a50f5242aa1768", func := "attorney/attorneylaw17.DecideChecks", spec := "decideChecks", unfollowed := true, recurses := true, apart := false }
def DecideChecksSaid : Prop := decideChecksRow.holds Tryz.pinned (OpenSpec.ofChange decideChecksSpec)

/-- ITS FALSE NEIGHBOUR: 'it returns false'. Refute it at one input. -/
def decideChecksWrong : ChangeSpec := { name := "decideChecks", fn := fun _ => fun
  | [d1, d2] => { results := [.lit (.bool false)], args := [d1, d2] }
  | _ => none }
def DecideChecksWrongFalsely : Prop := decideChecksRow.holds Tryz.pinned (OpenSpec.ofChange decideChecksWrong)

/-- 'attorneylaw17.DecideTrue': WHATEVER THE INPUT: true; the input reads as it did. -/
def decideTrueSpec : ChangeSpec := { name := "decideTrue", fn := fun _ => fun
  | [d] => { results := [.lit (.bool true)], args := [d] }
  | _ => none }
def decideTrueRow : OpenClaim := { program := "ythdfplafihmejaagreat", sum := "9fc3909c4553aefe6ad34983279e497a7b05173dbe601770f9a50f5242aa1768", func := "attorney/attorneylaw17.DecideTrue", spec := "decideTrue", unfollowed := true, recurses := true, apart := false }
def DecideTrueSaid : Prop := decideTrueRow.holds Tryz.pinned (OpenSpec.ofChange decideTrueSpec)

/-- ITS FALSE NEIGHBOUR: 'it returns false'. Refute it at one input. -/
def decideTrueWrong : ChangeSpec := { name := "decideTrue", fn := fun _ => fun
  | [d] => { results := [.lit (.bool false)], args := [d] }
  | _ => none }
def DecideTrueWrongFalsely : Prop := decideTrueRow.holds Tryz.pinned (OpenSpec.ofChange decideTrueWrong)

/-- 'attorneylaw17.DecideWhy': WHATEVER THE INPUT: true; the input reads as it did. -/
def decideWhySpec : ChangeSpec := { name := "decideWhy", fn := fun _ => fun
  | [d1, d2] => { results := [.lit (.bool true)], args := [d1, d2] }
  | _ => none }
def decideWhyRow : OpenClaim := { program := "ythdfplafihmejaagreat", sum := "9fc3909c4553aefe6ad34983279e497a7b05173dbe601770f9a50f5242aa1768", func := "attorney/attorneylaw17.DecideWhy", spec := "decideWhy", unfollowed := true, recurses := true, apart := false }
def DecideWhySaid : Prop := decideWhyRow.holds Tryz.pinned (OpenSpec.ofChange decideWhySpec)

/-- ITS FALSE NEIGHBOUR: 'it returns false'. Refute it at one input. -/
def decideWhyWrong : ChangeSpec := { name := "decideWhy", fn := fun _ => fun
  | [d1, d2] => { results := [.lit (.bool false)], args := [d1, d2] }
  | _ => none }
def DecideWhyWrongFalsely : Prop := decideWhyRow.holds Tryz.pinned (OpenSpec.ofChange decideWhyWrong)

/-- 'attorneylaw17.DecideOrder': WHATEVER THE INPUT: true; the input reads as it did. -/
def decideOrderSpec : ChangeSpec := { name := "decideOrder", fn := fun _ => fun
  | [d1, d2] => { results := [.lit (.bool true)], args := [d1, d2] }
  | _ => none }
def decideOrderRow : OpenClaim := { program := "ythdfplafihmejaagreat", sum := "9fc3909c4553aefe6ad34983279e497a7b05173dbe601770f9a50f5242aa1768", func := "attorney/attorneylaw17.DecideOrder", spec := "decideOrder", unfollowed := true, recurses := true, apart := false }
def DecideOrderSaid : Prop := decideOrderRow.holds Tryz.pinned (OpenSpec.ofChange decideOrderSpec)

/-- ITS FALSE NEIGHBOUR: 'it returns false'. Refute it at one input. -/
def decideOrderWrong : ChangeSpec := { name := "decideOrder", fn := fun _ => fun
  | [d1, d2] => { results := [.lit (.bool false)], args := [d1, d2] }
  | _ => none }
def DecideOrderWrongFalsely : Prop := decideOrderRow.holds Tryz.pinned (OpenSpec.ofChange decideOrderWrong)

/-- 'attorneylaw17.DecideModels': WHATEVER THE INPUT: true; the input reads as it did. -/
def decideModelsSpec : ChangeSpec := { name := "decideModels", fn := fun _ => fun
  | [d1, d2] => { results := [.lit (.bool true)], args := [d1, d2] }
  | _ => none }
def decideModelsRow : OpenClaim := { program := "ythdfplafihmejaagreat", sum := "9fc3909c4553aefe6ad34983279e497a7b05173dbe601770f9a50f5242aa1768", func := "attorney/attorneylaw17.DecideModels", spec := "decideModels", unfollowed := true, recurses := true, apart := false }
def DecideModelsSaid : Prop := decideModelsRow.holds Tryz.pinned (OpenSpec.ofChange decideModelsSpec)

/-- ITS FALSE NEIGHBOUR: 'it returns false'. Refute it at one input. -/
def decideModelsWrong : ChangeSpec := { name := "decideModels", fn := fun _ => fun
  | [d1, d2] => { results := [.lit (.bool false)], args := [d1, d2] }
  | _ => none }
def DecideModelsWrongFalsely : Prop := decideModelsRow.holds Tryz.pinned (OpenSpec.ofChange decideModelsWrong)

/- THE SECOND FORM. 'bulk': how many values and letters a reading holds, each counted each time it is reached (what is shared counts as often as it is met; a slice's spare places count too). A statement '..UptoSaid' is the law's where the arguments, and the package variables that the reading takes, are together of bulk at most 1048576: NARROWER than '..Said'. Prove '..Said' where nothing that the law and all that it calls make is longer than what came in: it says more and counts as full. Else prove '..UptoSaid'. A law counts once. -/
mutual
def uptoBulk {H : Type} : DataW H → Nat
  | .lit (.string bytes) => bytes.length + 1
  | .lit _ => 1
  | .nil => 1
  | .ptr d => uptoBulk d + 1
  | .slice elems spare => uptoBulkAll elems + uptoBulkAll spare + 1
  | .agg parts => uptoBulkAll parts + 1
  | .iface _ d => uptoBulk d + 1
  | .map entries => uptoBulkEntries entries + 1
  | .held _ => 1
def uptoBulkAll {H : Type} : List (DataW H) → Nat
  | [] => 0
  | d :: r => uptoBulk d + uptoBulkAll r
def uptoBulkEntries {H : Type} : List (Lit × DataW H) → Nat
  | [] => 0
  | x :: r => uptoBulkEntry x + uptoBulkEntries r
def uptoBulkEntry {H : Type} : Lit × DataW H → Nat
  | (.string bytes, d) => bytes.length + uptoBulk d + 1
  | (_, d) => uptoBulk d + 1
 end
def uptoSmall : (H : Type) → List (DataW H) → Bool := fun _ ds => decide (uptoBulkAll ds ≤ 1048576)
def OpenSpec.upto (s : _root_.Go.ChangeSpec) : _root_.Go.OpenSpec := { _root_.Go.OpenSpec.ofChange s with cond := some uptoSmall }

/-- 'attorneylaw17.DecideTells', WHERE WHAT IT READS IS OF BULK AT MOST 1048576: true; the input reads as it did. -/
def decideTellsUptoRow : OpenClaim := { program := "ythdfplafihmejaagreat", sum := "9fc3909c4553aefe6ad34983279e497a7b05173dbe601770f9a50f5242aa1768", func := "attorney/attorneylaw17.DecideTells", spec := "decideTells", unfollowed := true, recurses := true, apart := false, narrowed := true }
def DecideTellsUptoSaid : Prop := decideTellsUptoRow.holds Tryz.pinned (OpenSpec.upto decideTellsSpec)

/-- 'attorneylaw17.DecideChecks', WHERE WHAT IT READS IS OF BULK AT MOST 1048576: true; the input reads as it did. -/
def decideChecksUptoRow : OpenClaim := { program := "ythdfplafihmejaagreat", sum := "9fc3909c4553aefe6ad34983279e497a7b05173dbe601770f9a50f5242aa1768", func := "attorney/attorneylaw17.DecideChecks", spec := "decideChecks", unfollowed := true, recurses := true, apart := false, narrowed := true }
def DecideChecksUptoSaid : Prop := decideChecksUptoRow.holds Tryz.pinned (OpenSpec.upto decideChecksSpec)

/-- 'attorneylaw17.DecideTrue', WHERE WHAT IT READS IS OF BULK AT MOST 1048576: true; the input reads as it did. -/
def decideTrueUptoRow : OpenClaim := { program := "ythdfplafihmejaagreat", sum := "9fc3909c4553aefe6ad34983279e497a7b05173dbe601770f9a50f5242aa1768", func := "attorney/attorneylaw17.DecideTrue", spec := "decideTrue", unfollowed := true, recurses := true, apart := false, narrowed := true }
def DecideTrueUptoSaid : Prop := decideTrueUptoRow.holds Tryz.pinned (OpenSpec.upto decideTrueSpec)

/-- 'attorneylaw17.DecideWhy', WHERE WHAT IT READS IS OF BULK AT MOST 1048576: true; the input reads as it did. -/
def decideWhyUptoRow : OpenClaim := { program := "ythdfplafihmejaagreat", sum := "9fc3909c4553aefe6ad34983279e497a7b05173dbe601770f9a50f5242aa1768", func := "attorney/attorneylaw17.DecideWhy", spec := "decideWhy", unfollowed := true, recurses := true, apart := false, narrowed := true }
def DecideWhyUptoSaid : Prop := decideWhyUptoRow.holds Tryz.pinned (OpenSpec.upto decideWhySpec)

/-- 'attorneylaw17.DecideOrder', WHERE WHAT IT READS IS OF BULK AT MOST 1048576: true; the input reads as it did. -/
def decideOrderUptoRow : OpenClaim := { program := "ythdfplafihmejaagreat", sum := "9fc3909c4553aefe6ad34983279e497a7b05173dbe601770f9a50f5242aa1768", func := "attorney/attorneylaw17.DecideOrder", spec := "decideOrder", unfollowed := true, recurses := true, apart := false, narrowed := true }
def DecideOrderUptoSaid : Prop := decideOrderUptoRow.holds Tryz.pinned (OpenSpec.upto decideOrderSpec)

/-- 'attorneylaw17.DecideModels', WHERE WHAT IT READS IS OF BULK AT MOST 1048576: true; the input reads as it did. -/
def decideModelsUptoRow : OpenClaim := { program := "ythdfplafihmejaagreat", sum := "9fc3909c4553aefe6ad34983279e497a7b05173dbe601770f9a50f5242aa1768", func := "attorney/attorneylaw17.DecideModels", spec := "decideModels", unfollowed := true, recurses := true, apart := false, narrowed := true }
def DecideModelsUptoSaid : Prop := decideModelsUptoRow.holds Tryz.pinned (OpenSpec.upto decideModelsSpec)

end Rows
end Go.Proofs.YthdfplafihmejaaGreat
