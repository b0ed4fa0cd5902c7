/-
  No cell of these rows narrows 'for every input' (looked for: loops, veiled, ifaces, maps, wideKeys, modest, calm, conditions, laid).
  DERIVED. THE GIVEN ROWS OF THIS SEAT. 6 by the template 'for every input the law returns true; each argument reads behind the call as it read before'; 0 by the template 'total and deterministic' (their statements: YtblannomcfiffaaTotals.lean).
  GIVEN WITH THE SEED: the statements are not yours to turn. If you find one false, say at which input.
  Laid BY PROGRAM, IN A SANDBOX (cutbox-rows.mjs): the forced cells as the released guide's own fill.sh prints them over the translation e3877f78f3c20d25… (all of the seat's roots in one cut). By AI agents, Wed Nov 11 2026. No macro, syntax, notation, axiom, sorry.
-/
import Derived.Test.YtblannomcfiffaaChecked
import GoSem.Claim
import GoSem.ClaimJoined
import GoSem.ClaimMapViews
import Derived.JoinedTies
import Derived.KernelRfl
namespace Go.Proofs.Ytblannomcfiffaa
/- THE CELL 'sum', in the pinned program and in every row, IS THE sha256 OF THE DUMP (.gsa) THAT YtblannomcfiffaaProg.lean LOADS. Nothing in Lean hashes anything: it is a label: what it is worth is what the hold of that sum in a sandbox is worth. -/
noncomputable def Try.pinned : Pinned := { name := "ytblannomcfiffaa", sum := "e3877f78f3c20d25dd57484e87e1c81681f844cde948dde304d9cbc5237df9d1", checked := Try.checked }
namespace Rows
def none {H : Type} : Left H := { results := [], args := [] }

/-- 'attorneylaw11.ReachTells': WHATEVER THE INPUT: true; the input reads as it did. -/
def reachTellsSpec : ChangeSpec := { name := "reachTells", fn := fun _ => fun
  | [d1, d2, d3, d4] => { results := [.lit (.bool true)], args := [d1, d2, d3, d4] }
  | _ => none }
def reachTellsRow : OpenClaim := { program := "ytblannomcfiffaa", sum := "e3877f78f3c20d25dd57484e87e1c81681f844cde948dde304d9cbc5237df9d1", func := "attorney/attorneylaw11.ReachTells", spec := "reachTells", unfollowed := true, recurses := true, apart := false }
def ReachTellsSaid : Prop := reachTellsRow.holds Try.pinned (OpenSpec.ofChange reachTellsSpec)

/-- ITS FALSE NEIGHBOUR: 'it returns false'. Refute it at one input. -/
def reachTellsWrong : ChangeSpec := { name := "reachTells", fn := fun _ => fun
  | [d1, d2, d3, d4] => { results := [.lit (.bool false)], args := [d1, d2, d3, d4] }
  | _ => none }
def ReachTellsWrongFalsely : Prop := reachTellsRow.holds Try.pinned (OpenSpec.ofChange reachTellsWrong)

/-- 'attorneylaw11.ReachWalks': WHATEVER THE INPUT: true; the input reads as it did. -/
def reachWalksSpec : ChangeSpec := { name := "reachWalks", fn := fun _ => fun
  | [d1, d2, d3] => { results := [.lit (.bool true)], args := [d1, d2, d3] }
  | _ => none }
def reachWalksRow : OpenClaim := { program := "ytblannomcfiffaa", sum := "e3877f78f3c20d25dd57484e87e1c81681f844cde948dde304d9cbc5237df9d1", func := "attorney/attorneylaw11.ReachWalks", spec := "reachWalks", unfollowed := true, recurses := true, apart := false }
def ReachWalksSaid : Prop := reachWalksRow.holds Try.pinned (OpenSpec.ofChange reachWalksSpec)

/-- ITS FALSE NEIGHBOUR: 'it returns false'. Refute it at one input. -/
def reachWalksWrong : ChangeSpec := { name := "reachWalks", fn := fun _ => fun
  | [d1, d2, d3] => { results := [.lit (.bool false)], args := [d1, d2, d3] }
  | _ => none }
def ReachWalksWrongFalsely : Prop := reachWalksRow.holds Try.pinned (OpenSpec.ofChange reachWalksWrong)

/-- 'attorneylaw11.ReachPath': WHATEVER THE INPUT: true; the input reads as it did. -/
def reachPathSpec : ChangeSpec := { name := "reachPath", fn := fun _ => fun
  | [d1, d2, d3, d4] => { results := [.lit (.bool true)], args := [d1, d2, d3, d4] }
  | _ => none }
def reachPathRow : OpenClaim := { program := "ytblannomcfiffaa", sum := "e3877f78f3c20d25dd57484e87e1c81681f844cde948dde304d9cbc5237df9d1", func := "attorney/attorneylaw11.ReachPath", spec := "reachPath", unfollowed := true, recurses := true, apart := false }
def ReachPathSaid : Prop := reachPathRow.holds Try.pinned (OpenSpec.ofChange reachPathSpec)

/-- ITS FALSE NEIGHBOUR: 'it returns false'. Refute it at one input. -/
def reachPathWrong : ChangeSpec := { name := "reachPath", fn := fun _ => fun
  | [d1, d2, d3, d4] => { results := [.lit (.bool false)], args := [d1, d2, d3, d4] }
  | _ => none }
def ReachPathWrongFalsely : Prop := reachPathRow.holds Try.pinned (OpenSpec.ofChange reachPathWrong)

/-- 'attorneylaw11.ReachOn': WHATEVER THE INPUT: true; the input reads as it did. -/
def reachOnSpec : ChangeSpec := { name := "reachOn", fn := fun _ => fun
  | [d1, d2, d3] => { results := [.lit (.bool true)], args := [d1, d2, d3] }
  | _ => none }
def reachOnRow : OpenClaim := { program := "ytblannomcfiffaa", sum := "e3877f78f3c20d25dd57484e87e1c81681f844cde948dde304d9cbc5237df9d1", func := "attorney/attorneylaw11.ReachOn", spec := "reachOn", unfollowed := true, recurses := true, apart := false }
def ReachOnSaid : Prop := reachOnRow.holds Try.pinned (OpenSpec.ofChange reachOnSpec)

/-- ITS FALSE NEIGHBOUR: 'it returns false'. Refute it at one input. -/
def reachOnWrong : ChangeSpec := { name := "reachOn", fn := fun _ => fun
  | [d1, d2, d3] => { results := [.lit (.bool false)], args := [d1, d2, d3] }
  | _ => none }
def ReachOnWrongFalsely : Prop := reachOnRow.holds Try.pinned (OpenSpec.ofChange reachOnWrong)

/-- 'attorneylaw11.ReachMore': WHATEVER THE INPUT: true; the input reads as it did. -/
def reachMoreSpec : ChangeSpec := { name := "reachMore", fn := fun _ => fun
  | [d1, d2, d3, d4] => { results := [.lit (.bool true)], args := [d1, d2, d3, d4] }
  | _ => none }
def reachMoreRow : OpenClaim := { program := "ytblannomcfiffaa", sum := "e3877f78f3c20d25dd57484e87e1c81681f844cde948dde304d9cbc5237df9d1", func := "attorney/attorneylaw11.ReachMore", spec := "reachMore", unfollowed := true, recurses := true, apart := false }
def ReachMoreSaid : Prop := reachMoreRow.holds Try.pinned (OpenSpec.ofChange reachMoreSpec)

/-- ITS FALSE NEIGHBOUR: 'it returns false'. Refute it at one input. -/
def reachMoreWrong : ChangeSpec := { name := "reachMore", fn := fun _ => fun
  | [d1, d2, d3, d4] => { results := [.lit (.bool false)], args := [d1, d2, d3, d4] }
  | _ => none }
def ReachMoreWrongFalsely : Prop := reachMoreRow.holds Try.pinned (OpenSpec.ofChange reachMoreWrong)

/-- 'attorneylaw11.ReachAround': WHATEVER THE INPUT: true; the input reads as it did. -/
def reachAroundSpec : ChangeSpec := { name := "reachAround", fn := fun _ => fun
  | [d1, d2, d3, d4, d5] => { results := [.lit (.bool true)], args := [d1, d2, d3, d4, d5] }
  | _ => none }
def reachAroundRow : OpenClaim := { program := "ytblannomcfiffaa", sum := "e3877f78f3c20d25dd57484e87e1c81681f844cde948dde304d9cbc5237df9d1", func := "attorney/attorneylaw11.ReachAround", spec := "reachAround", unfollowed := true, recurses := true, apart := false }
def ReachAroundSaid : Prop := reachAroundRow.holds Try.pinned (OpenSpec.ofChange reachAroundSpec)

/-- ITS FALSE NEIGHBOUR: 'it returns false'. Refute it at one input. -/
def reachAroundWrong : ChangeSpec := { name := "reachAround", fn := fun _ => fun
  | [d1, d2, d3, d4, d5] => { results := [.lit (.bool false)], args := [d1, d2, d3, d4, d5] }
  | _ => none }
def ReachAroundWrongFalsely : Prop := reachAroundRow.holds Try.pinned (OpenSpec.ofChange reachAroundWrong)

/- THE SECOND FORM. 'bulk': how many values and letters a reading holds, each counted each time it is reached (what is shared counts as often as it is met; a slice's spare places count too). A statement '..UptoSaid' is the law's where the arguments, and the package variables that the reading takes, are together of bulk at most 1048576: NARROWER than '..Said'. Prove '..Said' where nothing that the law and all that it calls make is longer than what came in: it says more and counts as full. Else prove '..UptoSaid'. A law counts once. -/
mutual
def uptoBulk {H : Type} : DataW H → Nat
  | .lit (.string bytes) => bytes.length + 1
  | .lit _ => 1
  | .nil => 1
  | .ptr d => uptoBulk d + 1
  | .slice elems spare => uptoBulkAll elems + uptoBulkAll spare + 1
  | .agg parts => uptoBulkAll parts + 1
  | .iface _ d => uptoBulk d + 1
  | .map entries => uptoBulkEntries entries + 1
  | .held _ => 1
def uptoBulkAll {H : Type} : List (DataW H) → Nat
  | [] => 0
  | d :: r => uptoBulk d + uptoBulkAll r
def uptoBulkEntries {H : Type} : List (Lit × DataW H) → Nat
  | [] => 0
  | x :: r => uptoBulkEntry x + uptoBulkEntries r
def uptoBulkEntry {H : Type} : Lit × DataW H → Nat
  | (.string bytes, d) => bytes.length + uptoBulk d + 1
  | (_, d) => uptoBulk d + 1
 end
def uptoSmall : (H : Type) → List (DataW H) → Bool := fun _ ds => decide (uptoBulkAll ds ≤ 1048576)
def OpenSpec.upto (s : _root_.Go.ChangeSpec) : _root_.Go.OpenSpec := { _root_.Go.OpenSpec.ofChange s with cond := some uptoSmall }

/-- 'attorneylaw11.ReachTells', WHERE WHAT IT READS IS OF BULK AT MOST 1048576: true; the input reads as it did. -/
def reachTellsUptoRow : OpenClaim := { program := "ytblannomcfiffaa", sum := "e3877f78f3c20d25dd57484e87e1c81681f844cde948dde304d9cbc5237df9d1", func := "attorney/attorneylaw11.ReachTells", spec := "reachTells", unfollowed := true, recurses := true, apart := false, narrowed := true }
def ReachTellsUptoSaid : Prop := reachTellsUptoRow.holds Try.pinned (OpenSpec.upto reachTellsSpec)

/-- 'attorneylaw11.ReachWalks', WHERE WHAT IT READS IS OF BULK AT MOST 1048576: true; the input reads as it did. -/
def reachWalksUptoRow : OpenClaim := { program := "ytblannomcfiffaa", sum := "e3877f78f3c20d25dd57484e87e1c81681f844cde948dde304d9cbc5237df9d1", func := "attorney/attorneylaw11.ReachWalks", spec := "reachWalks", unfollowed := true, recurses := true, apart := false, narrowed := true }
def ReachWalksUptoSaid : Prop := reachWalksUptoRow.holds Try.pinned (OpenSpec.upto reachWalksSpec)

/-- 'attorneylaw11.ReachPath', WHERE WHAT IT READS IS OF BULK AT MOST 1048576: true; the input reads as it did. -/
def reachPathUptoRow : OpenClaim := { program := "ytblannomcfiffaa", sum := "e3877f78f3c20d25dd57484e87e1c81681f844cde948dde304d9cbc5237df9d1", func := "attorney/attorneylaw11.ReachPath", spec := "reachPath", unfollowed := true, recurses := true, apart := false, narrowed := true }
def ReachPathUptoSaid : Prop := reachPathUptoRow.holds Try.pinned (OpenSpec.upto reachPathSpec)

/-- 'attorneylaw11.ReachOn', WHERE WHAT IT READS IS OF BULK AT MOST 1048576: true; the input reads as it did. -/
def reachOnUptoRow : OpenClaim := { program := "ytblannomcfiffaa", sum := "e3877f78f3c20d25dd57484e87e1c81681f844cde948dde304d9cbc5237df9d1", func := "attorney/attorneylaw11.ReachOn", spec := "reachOn", unfollowed := true, recurses := true, apart := false, narrowed := true }
def ReachOnUptoSaid : Prop := reachOnUptoRow.holds Try.pinned (OpenSpec.upto reachOnSpec)

/-- 'attorneylaw11.ReachMore', WHERE WHAT IT READS IS OF BULK AT MOST 1048576: true; the input reads as it did. -/
def reachMoreUptoRow : OpenClaim := { program := "ytblannomcfiffaa", sum := "e3877f78f3c20d25dd57484e87e1c81681f844cde948dde304d9cbc5237df9d1", func := "attorney/attorneylaw11.ReachMore", spec := "reachMore", unfollowed := true, recurses := true, apart := false, narrowed := true }
def ReachMoreUptoSaid : Prop := reachMoreUptoRow.holds Try.pinned (OpenSpec.upto reachMoreSpec)

/-- 'attorneylaw11.ReachAround', WHERE WHAT IT READS IS OF BULK AT MOST 1048576: true; the input reads as it did. -/
def reachAroundUptoRow : OpenClaim := { program := "ytblannomcfiffaa", sum := "e3877f78f3c20d25dd57484e87e1c81681f844cde948dde304d9cbc5237df9d1", func := "attorney/attorneylaw11.ReachAround", spec := "reachAround", unfollowed := true, recurses := true, apart := false, narrowed := true }
def ReachAroundUptoSaid : Prop := reachAroundUptoRow.holds Try.pinned (OpenSpec.upto reachAroundSpec)

end Rows
end Go.Proofs.Ytblannomcfiffaa
