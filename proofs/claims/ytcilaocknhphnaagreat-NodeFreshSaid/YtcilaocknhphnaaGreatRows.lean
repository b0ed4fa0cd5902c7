/-
  No cell of these rows narrows 'for every input' (looked for: loops, veiled, ifaces, maps, wideKeys, modest, calm, conditions, laid).
  DERIVED. THE GIVEN ROWS OF THIS SEAT. 7 by the template 'for every input the law returns true; each argument reads behind the call as it read before'; 0 by the template 'total and deterministic' (their statements: YtcilaocknhphnaaGreatTotals.lean).
  GIVEN WITH THE SEED: the statements are not yours to turn. If you find one false, say at which input.
  Laid BY PROGRAM, IN A SANDBOX (cutbox-rows.mjs): the forced cells as the released guide's own fill.sh prints them over the translation 9b0ecde0cce670fe… (all of the seat's roots in one cut). By AI agents, Wed Nov 11 2026. No macro, syntax, notation, axiom, sorry.
-/
import Derived.Test.YtcilaocknhphnaaGreatChecked
import GoSem.Claim
import GoSem.ClaimJoined
import GoSem.ClaimMapViews
import Derived.JoinedTies
import Derived.KernelRfl
namespace Go.Proofs.YtcilaocknhphnaaGreat
/- THE CELL 'sum', in the pinned program and in every row, IS THE sha256 OF THE DUMP (.gsa) THAT YtcilaocknhphnaaGreatProg.lean LOADS. Nothing in Lean hashes anything: it is a label: what it is worth is what the hold of that sum in a sandbox is worth. -/
noncomputable def Tryz.pinned : Pinned := { name := "ytcilaocknhphnaagreat", sum := "9b0ecde0cce670fe39a0a16adbf4d660817f7012a33578906b43af54be587ff4", checked := Tryz.checked }
namespace Rows
def none {H : Type} : Left H := { results := [], args := [] }

/-- 'attorneylaw23.NodeOnce': WHATEVER THE INPUT: true; the input reads as it did. -/
def nodeOnceSpec : ChangeSpec := { name := "nodeOnce", fn := fun _ => fun
  | [d1, d2] => { results := [.lit (.bool true)], args := [d1, d2] }
  | _ => none }
def nodeOnceRow : OpenClaim := { program := "ytcilaocknhphnaagreat", sum := "9b0ecde0cce670fe39a0a16adbf4d660817f7012a33578906b43af54be587ff4", func := "attorney/attorneylaw23.NodeOnce", spec := "nodeOnce", unfollowed := true, recurses := true, plainKeys := false, apart := false }
def NodeOnceSaid : Prop := nodeOnceRow.holds Tryz.pinned (OpenSpec.ofChange nodeOnceSpec)

/-- ITS FALSE NEIGHBOUR: 'it returns false'. Refute it at one input. -/
def nodeOnceWrong : ChangeSpec := { name := "nodeOnce", fn := fun _ => fun
  | [d1, d2] => { results := [.lit (.bool false)], args := [d1, d2] }
  | _ => none }
def NodeOnceWrongFalsely : Prop := nodeOnceRow.holds Tryz.pinned (OpenSpec.ofChange nodeOnceWrong)

/-- 'attorneylaw23.NodeRoots': WHATEVER THE INPUT: true; the input reads as it did. -/
def nodeRootsSpec : ChangeSpec := { name := "nodeRoots", fn := fun _ => fun
  | [d1, d2] => { results := [.lit (.bool true)], args := [d1, d2] }
  | _ => none }
def nodeRootsRow : OpenClaim := { program := "ytcilaocknhphnaagreat", sum := "9b0ecde0cce670fe39a0a16adbf4d660817f7012a33578906b43af54be587ff4", func := "attorney/attorneylaw23.NodeRoots", spec := "nodeRoots", unfollowed := true, recurses := true, plainKeys := false, apart := false }
def NodeRootsSaid : Prop := nodeRootsRow.holds Tryz.pinned (OpenSpec.ofChange nodeRootsSpec)

/-- ITS FALSE NEIGHBOUR: 'it returns false'. Refute it at one input. -/
def nodeRootsWrong : ChangeSpec := { name := "nodeRoots", fn := fun _ => fun
  | [d1, d2] => { results := [.lit (.bool false)], args := [d1, d2] }
  | _ => none }
def NodeRootsWrongFalsely : Prop := nodeRootsRow.holds Tryz.pinned (OpenSpec.ofChange nodeRootsWrong)

/-- 'attorneylaw23.NodeOwner': WHATEVER THE INPUT: true; the input reads as it did. -/
def nodeOwnerSpec : ChangeSpec := { name := "nodeOwner", fn := fun _ => fun
  | [d] => { results := [.lit (.bool true)], args := [d] }
  | _ => none }
def nodeOwnerRow : OpenClaim := { program := "ytcilaocknhphnaagreat", sum := "9b0ecde0cce670fe39a0a16adbf4d660817f7012a33578906b43af54be587ff4", func := "attorney/attorneylaw23.NodeOwner", spec := "nodeOwner", unfollowed := true, recurses := true, plainKeys := false, apart := false }
def NodeOwnerSaid : Prop := nodeOwnerRow.holds Tryz.pinned (OpenSpec.ofChange nodeOwnerSpec)

/-- ITS FALSE NEIGHBOUR: 'it returns false'. Refute it at one input. -/
def nodeOwnerWrong : ChangeSpec := { name := "nodeOwner", fn := fun _ => fun
  | [d] => { results := [.lit (.bool false)], args := [d] }
  | _ => none }
def NodeOwnerWrongFalsely : Prop := nodeOwnerRow.holds Tryz.pinned (OpenSpec.ofChange nodeOwnerWrong)

/-- 'attorneylaw23.NodeBoots': WHATEVER THE INPUT: true; the input reads as it did. -/
def nodeBootsSpec : ChangeSpec := { name := "nodeBoots", fn := fun _ => fun
  | [d1, d2] => { results := [.lit (.bool true)], args := [d1, d2] }
  | _ => none }
def nodeBootsRow : OpenClaim := { program := "ytcilaocknhphnaagreat", sum := "9b0ecde0cce670fe39a0a16adbf4d660817f7012a33578906b43af54be587ff4", func := "attorney/attorneylaw23.NodeBoots", spec := "nodeBoots", unfollowed := true, recurses := true, plainKeys := false, apart := false }
def NodeBootsSaid : Prop := nodeBootsRow.holds Tryz.pinned (OpenSpec.ofChange nodeBootsSpec)

/-- ITS FALSE NEIGHBOUR: 'it returns false'. Refute it at one input. -/
def nodeBootsWrong : ChangeSpec := { name := "nodeBoots", fn := fun _ => fun
  | [d1, d2] => { results := [.lit (.bool false)], args := [d1, d2] }
  | _ => none }
def NodeBootsWrongFalsely : Prop := nodeBootsRow.holds Tryz.pinned (OpenSpec.ofChange nodeBootsWrong)

/-- 'attorneylaw23.NodeHears': WHATEVER THE INPUT: true; the input reads as it did. -/
def nodeHearsSpec : ChangeSpec := { name := "nodeHears", fn := fun _ => fun
  | [d1, d2, d3] => { results := [.lit (.bool true)], args := [d1, d2, d3] }
  | _ => none }
def nodeHearsRow : OpenClaim := { program := "ytcilaocknhphnaagreat", sum := "9b0ecde0cce670fe39a0a16adbf4d660817f7012a33578906b43af54be587ff4", func := "attorney/attorneylaw23.NodeHears", spec := "nodeHears", unfollowed := true, recurses := true, plainKeys := false, apart := false }
def NodeHearsSaid : Prop := nodeHearsRow.holds Tryz.pinned (OpenSpec.ofChange nodeHearsSpec)

/-- ITS FALSE NEIGHBOUR: 'it returns false'. Refute it at one input. -/
def nodeHearsWrong : ChangeSpec := { name := "nodeHears", fn := fun _ => fun
  | [d1, d2, d3] => { results := [.lit (.bool false)], args := [d1, d2, d3] }
  | _ => none }
def NodeHearsWrongFalsely : Prop := nodeHearsRow.holds Tryz.pinned (OpenSpec.ofChange nodeHearsWrong)

/-- 'attorneylaw23.NodeFresh': WHATEVER THE INPUT: true; the input reads as it did. -/
def nodeFreshSpec : ChangeSpec := { name := "nodeFresh", fn := fun _ => fun
  | [d1, d2, d3, d4] => { results := [.lit (.bool true)], args := [d1, d2, d3, d4] }
  | _ => none }
def nodeFreshRow : OpenClaim := { program := "ytcilaocknhphnaagreat", sum := "9b0ecde0cce670fe39a0a16adbf4d660817f7012a33578906b43af54be587ff4", func := "attorney/attorneylaw23.NodeFresh", spec := "nodeFresh", unfollowed := true, recurses := true, plainKeys := false, apart := false }
def NodeFreshSaid : Prop := nodeFreshRow.holds Tryz.pinned (OpenSpec.ofChange nodeFreshSpec)

/-- ITS FALSE NEIGHBOUR: 'it returns false'. Refute it at one input. -/
def nodeFreshWrong : ChangeSpec := { name := "nodeFresh", fn := fun _ => fun
  | [d1, d2, d3, d4] => { results := [.lit (.bool false)], args := [d1, d2, d3, d4] }
  | _ => none }
def NodeFreshWrongFalsely : Prop := nodeFreshRow.holds Tryz.pinned (OpenSpec.ofChange nodeFreshWrong)

/-- 'attorneylaw23.NodeDoes': WHATEVER THE INPUT: true; the input reads as it did. -/
def nodeDoesSpec : ChangeSpec := { name := "nodeDoes", fn := fun _ => fun
  | [d1, d2, d3, d4, d5] => { results := [.lit (.bool true)], args := [d1, d2, d3, d4, d5] }
  | _ => none }
def nodeDoesRow : OpenClaim := { program := "ytcilaocknhphnaagreat", sum := "9b0ecde0cce670fe39a0a16adbf4d660817f7012a33578906b43af54be587ff4", func := "attorney/attorneylaw23.NodeDoes", spec := "nodeDoes", unfollowed := true, recurses := true, plainKeys := false, apart := false }
def NodeDoesSaid : Prop := nodeDoesRow.holds Tryz.pinned (OpenSpec.ofChange nodeDoesSpec)

/-- ITS FALSE NEIGHBOUR: 'it returns false'. Refute it at one input. -/
def nodeDoesWrong : ChangeSpec := { name := "nodeDoes", fn := fun _ => fun
  | [d1, d2, d3, d4, d5] => { results := [.lit (.bool false)], args := [d1, d2, d3, d4, d5] }
  | _ => none }
def NodeDoesWrongFalsely : Prop := nodeDoesRow.holds Tryz.pinned (OpenSpec.ofChange nodeDoesWrong)

/- THE SECOND FORM. 'bulk': how many values and letters a reading holds, each counted each time it is reached (what is shared counts as often as it is met; a slice's spare places count too). A statement '..UptoSaid' is the law's where the arguments, and the package variables that the reading takes, are together of bulk at most 1048576: NARROWER than '..Said'. Prove '..Said' where nothing that the law and all that it calls make is longer than what came in: it says more and counts as full. Else prove '..UptoSaid'. A law counts once. -/
mutual
def uptoBulk {H : Type} : DataW H → Nat
  | .lit (.string bytes) => bytes.length + 1
  | .lit _ => 1
  | .nil => 1
  | .ptr d => uptoBulk d + 1
  | .slice elems spare => uptoBulkAll elems + uptoBulkAll spare + 1
  | .agg parts => uptoBulkAll parts + 1
  | .iface _ d => uptoBulk d + 1
  | .map entries => uptoBulkEntries entries + 1
  | .held _ => 1
def uptoBulkAll {H : Type} : List (DataW H) → Nat
  | [] => 0
  | d :: r => uptoBulk d + uptoBulkAll r
def uptoBulkEntries {H : Type} : List (Lit × DataW H) → Nat
  | [] => 0
  | x :: r => uptoBulkEntry x + uptoBulkEntries r
def uptoBulkEntry {H : Type} : Lit × DataW H → Nat
  | (.string bytes, d) => bytes.length + uptoBulk d + 1
  | (_, d) => uptoBulk d + 1
 end
def uptoSmall : (H : Type) → List (DataW H) → Bool := fun _ ds => decide (uptoBulkAll ds ≤ 1048576)
def OpenSpec.upto (s : _root_.Go.ChangeSpec) : _root_.Go.OpenSpec := { _root_.Go.OpenSpec.ofChange s with cond := some uptoSmall }

/-- 'attorneylaw23.NodeOnce', WHERE WHAT IT READS IS OF BULK AT MOST 1048576: true; the input reads as it did. -/
def nodeOnceUptoRow : OpenClaim := { program := "ytcilaocknhphnaagreat", sum := "9b0ecde0cce670fe39a0a16adbf4d660817f7012a33578906b43af54be587ff4", func := "attorney/attorneylaw23.NodeOnce", spec := "nodeOnce", unfollowed := true, recurses := true, plainKeys := false, apart := false, narrowed := true }
def NodeOnceUptoSaid : Prop := nodeOnceUptoRow.holds Tryz.pinned (OpenSpec.upto nodeOnceSpec)

/-- 'attorneylaw23.NodeRoots', WHERE WHAT IT READS IS OF BULK AT MOST 1048576: true; the input reads as it did. -/
def nodeRootsUptoRow : OpenClaim := { program := "ytcilaocknhphnaagreat", sum := "9b0ecde0cce670fe39a0a16adbf4d660817f7012a33578906b43af54be587ff4", func := "attorney/attorneylaw23.NodeRoots", spec := "nodeRoots", unfollowed := true, recurses := true, plainKeys := false, apart := false, narrowed := true }
def NodeRootsUptoSaid : Prop := nodeRootsUptoRow.holds Tryz.pinned (OpenSpec.upto nodeRootsSpec)

/-- 'attorneylaw23.NodeOwner', WHERE WHAT IT READS IS OF BULK AT MOST 1048576: true; the input reads as it did. -/
def nodeOwnerUptoRow : OpenClaim := { program := "ytcilaocknhphnaagreat", sum := "9b0ecde0cce670fe39a0a16adbf4d660817f7012a33578906b43af54be587ff4", func := "attorney/attorneylaw23.NodeOwner", spec := "nodeOwner", unfollowed := true, recurses := true, plainKeys := false, apart := false, narrowed := true }
def NodeOwnerUptoSaid : Prop := nodeOwnerUptoRow.holds Tryz.pinned (OpenSpec.upto nodeOwnerSpec)

/-- 'attorneylaw23.NodeBoots', WHERE WHAT IT READS IS OF BULK AT MOST 1048576: true; the input reads as it did. -/
def nodeBootsUptoRow : OpenClaim := { program := "ytcilaocknhphnaagreat", sum := "9b0ecde0cce670fe39a0a16adbf4d660817f7012a33578906b43af54be587ff4", func := "attorney/attorneylaw23.NodeBoots", spec := "nodeBoots", unfollowed := true, recurses := true, plainKeys := false, apart := false, narrowed := true }
def NodeBootsUptoSaid : Prop := nodeBootsUptoRow.holds Tryz.pinned (OpenSpec.upto nodeBootsSpec)

/-- 'attorneylaw23.NodeHears', WHERE WHAT IT READS IS OF BULK AT MOST 1048576: true; the input reads as it did. -/
def nodeHearsUptoRow : OpenClaim := { program := "ytcilaocknhphnaagreat", sum := "9b0ecde0cce670fe39a0a16adbf4d660817f7012a33578906b43af54be587ff4", func := "attorney/attorneylaw23.NodeHears", spec := "nodeHears", unfollowed := true, recurses := true, plainKeys := false, apart := false, narrowed := true }
def NodeHearsUptoSaid : Prop := nodeHearsUptoRow.holds Tryz.pinned (OpenSpec.upto nodeHearsSpec)

/-- 'attorneylaw23.NodeFresh', WHERE WHAT IT READS IS OF BULK AT MOST 1048576: true; the input reads as it did. -/
def nodeFreshUptoRow : OpenClaim := { program := "ytcilaocknhphnaagreat", sum := "9b0ecde0cce670fe39a0a16adbf4d660817f7012a33578906b43af54be587ff4", func := "attorney/attorneylaw23.NodeFresh", spec := "nodeFresh", unfollowed := true, recurses := true, plainKeys := false, apart := false, narrowed := true }
def NodeFreshUptoSaid : Prop := nodeFreshUptoRow.holds Tryz.pinned (OpenSpec.upto nodeFreshSpec)

/-- 'attorneylaw23.NodeDoes', WHERE WHAT IT READS IS OF BULK AT MOST 1048576: true; the input reads as it did. -/
def nodeDoesUptoRow : OpenClaim := { program := "ytcilaocknhphnaagreat", sum := "9b0ecde0cce670fe39a0a16adbf4d660817f7012a33578906b43af54be587ff4", func := "attorney/attorneylaw23.NodeDoes", spec := "nodeDoes", unfollowed := true, recurses := true, plainKeys := false, apart := false, narrowed := true }
def NodeDoesUptoSaid : Prop := nodeDoesUptoRow.holds Tryz.pinned (OpenSpec.upto nodeDoesSpec)

end Rows
end Go.Proofs.YtcilaocknhphnaaGreat
