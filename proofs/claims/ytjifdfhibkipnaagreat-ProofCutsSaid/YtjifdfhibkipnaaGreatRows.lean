/-
  No cell of these rows narrows 'for every input' (looked for: loops, veiled, ifaces, maps, wideKeys, modest, calm, conditions, laid).
  DERIVED. THE GIVEN ROWS OF THIS SEAT. 7 by the template 'for every input the law returns true; each argument reads behind the call as it read before'; 0 by the template 'total and deterministic' (their statements: YtjifdfhibkipnaaGreatTotals.lean).
  GIVEN WITH THE SEED: the statements are not yours to turn. If you find one false, say at which input.
  Laid BY PROGRAM, IN A SANDBOX (cutbox-rows.mjs): the forced cells as the released guide's own fill.sh prints them over the translation fc9417fe1f9f02c4… (all of the seat's roots in one cut). By AI agents, Wed Nov 11 2026. No macro, syntax, notation, axiom, sorry.
-/
import Derived.Test.YtjifdfhibkipnaaGreatChecked
import GoSem.Claim
import GoSem.ClaimJoined
import GoSem.ClaimMapViews
import Derived.JoinedTies
import Derived.KernelRfl
namespace Go.Proofs.YtjifdfhibkipnaaGreat
/- THE CELL 'sum', in the pinned program and in every row, IS THE sha256 OF THE DUMP (.gsa) THAT YtjifdfhibkipnaaGreatProg.lean LOADS. Nothing in Lean hashes anything: it is a label: what it is worth is what the hold of that sum in a sandbox is worth. -/
noncomputable def Tryz.pinned : Pinned := { name := "ytjifdfhibkipnaagreat", sum := "fc9417fe1f9f02c408239309d5374393061d873767cd70a36b48554d827ea855", checked := Tryz.checked }
namespace Rows
def none {H : Type} : Left H := { results := [], args := [] }

/-- 'attorneylaw13.ProofMakes': WHATEVER THE INPUT: true; the input reads as it did. -/
def proofMakesSpec : ChangeSpec := { name := "proofMakes", fn := fun _ => fun
  | [d1, d2, d3, d4, d5] => { results := [.lit (.bool true)], args := [d1, d2, d3, d4, d5] }
  | _ => none }
def proofMakesRow : OpenClaim := { program := "ytjifdfhibkipnaagreat", sum := "fc9417fe1f9f02c408239309d5374393061d873767cd70a36b48554d827ea855", func := "attorney/attorneylaw13.ProofMakes", spec := "proofMakes", unfollowed := true, recurses := true, apart := false }
def ProofMakesSaid : Prop := proofMakesRow.holds Tryz.pinned (OpenSpec.ofChange proofMakesSpec)

/-- ITS FALSE NEIGHBOUR: 'it returns false'. Refute it at one input. -/
def proofMakesWrong : ChangeSpec := { name := "proofMakes", fn := fun _ => fun
  | [d1, d2, d3, d4, d5] => { results := [.lit (.bool false)], args := [d1, d2, d3, d4, d5] }
  | _ => none }
def ProofMakesWrongFalsely : Prop := proofMakesRow.holds Tryz.pinned (OpenSpec.ofChange proofMakesWrong)

/-- 'attorneylaw13.ProofChecks': WHATEVER THE INPUT: true; the input reads as it did. -/
def proofChecksSpec : ChangeSpec := { name := "proofChecks", fn := fun _ => fun
  | [d1, d2, d3, d4, d5] => { results := [.lit (.bool true)], args := [d1, d2, d3, d4, d5] }
  | _ => none }
def proofChecksRow : OpenClaim := { program := "ytjifdfhibkipnaagreat", sum := "fc9417fe1f9f02c408239309d5374393061d873767cd70a36b48554d827ea855", func := "attorney/attorneylaw13.ProofChecks", spec := "proofChecks", unfollowed := true, recurses := true, apart := false }
def ProofChecksSaid : Prop := proofChecksRow.holds Tryz.pinned (OpenSpec.ofChange proofChecksSpec)

/-- ITS FALSE NEIGHBOUR: 'it returns false'. Refute it at one input. -/
def proofChecksWrong : ChangeSpec := { name := "proofChecks", fn := fun _ => fun
  | [d1, d2, d3, d4, d5] => { results := [.lit (.bool false)], args := [d1, d2, d3, d4, d5] }
  | _ => none }
def ProofChecksWrongFalsely : Prop := proofChecksRow.holds Tryz.pinned (OpenSpec.ofChange proofChecksWrong)

/-- 'attorneylaw13.ProofCuts': WHATEVER THE INPUT: true; the input reads as it did. -/
def proofCutsSpec : ChangeSpec := { name := "proofCuts", fn := fun _ => fun
  | [d1, d2, d3] => { results := [.lit (.bool true)], args := [d1, d2, d3] }
  | _ => none }
def proofCutsRow : OpenClaim := { program := "ytjifdfhibkipnaagreat", sum := "fc9417fe1f9f02c408239309d5374393061d873767cd70a36b48554d827ea855", func := "attorney/attorneylaw13.ProofCuts", spec := "proofCuts", unfollowed := true, recurses := true, apart := false }
def ProofCutsSaid : Prop := proofCutsRow.holds Tryz.pinned (OpenSpec.ofChange proofCutsSpec)

/-- ITS FALSE NEIGHBOUR: 'it returns false'. Refute it at one input. -/
def proofCutsWrong : ChangeSpec := { name := "proofCuts", fn := fun _ => fun
  | [d1, d2, d3] => { results := [.lit (.bool false)], args := [d1, d2, d3] }
  | _ => none }
def ProofCutsWrongFalsely : Prop := proofCutsRow.holds Tryz.pinned (OpenSpec.ofChange proofCutsWrong)

/-- 'attorneylaw13.ProofRight': WHATEVER THE INPUT: true; the input reads as it did. -/
def proofRightSpec : ChangeSpec := { name := "proofRight", fn := fun _ => fun
  | [d1, d2, d3, d4, d5] => { results := [.lit (.bool true)], args := [d1, d2, d3, d4, d5] }
  | _ => none }
def proofRightRow : OpenClaim := { program := "ytjifdfhibkipnaagreat", sum := "fc9417fe1f9f02c408239309d5374393061d873767cd70a36b48554d827ea855", func := "attorney/attorneylaw13.ProofRight", spec := "proofRight", unfollowed := true, recurses := true, apart := false }
def ProofRightSaid : Prop := proofRightRow.holds Tryz.pinned (OpenSpec.ofChange proofRightSpec)

/-- ITS FALSE NEIGHBOUR: 'it returns false'. Refute it at one input. -/
def proofRightWrong : ChangeSpec := { name := "proofRight", fn := fun _ => fun
  | [d1, d2, d3, d4, d5] => { results := [.lit (.bool false)], args := [d1, d2, d3, d4, d5] }
  | _ => none }
def ProofRightWrongFalsely : Prop := proofRightRow.holds Tryz.pinned (OpenSpec.ofChange proofRightWrong)

/-- 'attorneylaw13.ProofSound': WHATEVER THE INPUT: true; the input reads as it did. -/
def proofSoundSpec : ChangeSpec := { name := "proofSound", fn := fun _ => fun
  | [d1, d2, d3, d4, d5, d6] => { results := [.lit (.bool true)], args := [d1, d2, d3, d4, d5, d6] }
  | _ => none }
def proofSoundRow : OpenClaim := { program := "ytjifdfhibkipnaagreat", sum := "fc9417fe1f9f02c408239309d5374393061d873767cd70a36b48554d827ea855", func := "attorney/attorneylaw13.ProofSound", spec := "proofSound", unfollowed := true, recurses := true, apart := false }
def ProofSoundSaid : Prop := proofSoundRow.holds Tryz.pinned (OpenSpec.ofChange proofSoundSpec)

/-- ITS FALSE NEIGHBOUR: 'it returns false'. Refute it at one input. -/
def proofSoundWrong : ChangeSpec := { name := "proofSound", fn := fun _ => fun
  | [d1, d2, d3, d4, d5, d6] => { results := [.lit (.bool false)], args := [d1, d2, d3, d4, d5, d6] }
  | _ => none }
def ProofSoundWrongFalsely : Prop := proofSoundRow.holds Tryz.pinned (OpenSpec.ofChange proofSoundWrong)

/-- 'attorneylaw13.ProofCutRight': WHATEVER THE INPUT: true; the input reads as it did. -/
def proofCutRightSpec : ChangeSpec := { name := "proofCutRight", fn := fun _ => fun
  | [d1, d2, d3, d4, d5] => { results := [.lit (.bool true)], args := [d1, d2, d3, d4, d5] }
  | _ => none }
def proofCutRightRow : OpenClaim := { program := "ytjifdfhibkipnaagreat", sum := "fc9417fe1f9f02c408239309d5374393061d873767cd70a36b48554d827ea855", func := "attorney/attorneylaw13.ProofCutRight", spec := "proofCutRight", unfollowed := true, recurses := true, apart := false }
def ProofCutRightSaid : Prop := proofCutRightRow.holds Tryz.pinned (OpenSpec.ofChange proofCutRightSpec)

/-- ITS FALSE NEIGHBOUR: 'it returns false'. Refute it at one input. -/
def proofCutRightWrong : ChangeSpec := { name := "proofCutRight", fn := fun _ => fun
  | [d1, d2, d3, d4, d5] => { results := [.lit (.bool false)], args := [d1, d2, d3, d4, d5] }
  | _ => none }
def ProofCutRightWrongFalsely : Prop := proofCutRightRow.holds Tryz.pinned (OpenSpec.ofChange proofCutRightWrong)

/-- 'attorneylaw13.ProofOwn': WHATEVER THE INPUT: true; the input reads as it did. -/
def proofOwnSpec : ChangeSpec := { name := "proofOwn", fn := fun _ => fun
  | [d1, d2, d3, d4] => { results := [.lit (.bool true)], args := [d1, d2, d3, d4] }
  | _ => none }
def proofOwnRow : OpenClaim := { program := "ytjifdfhibkipnaagreat", sum := "fc9417fe1f9f02c408239309d5374393061d873767cd70a36b48554d827ea855", func := "attorney/attorneylaw13.ProofOwn", spec := "proofOwn", unfollowed := true, recurses := true, apart := false }
def ProofOwnSaid : Prop := proofOwnRow.holds Tryz.pinned (OpenSpec.ofChange proofOwnSpec)

/-- ITS FALSE NEIGHBOUR: 'it returns false'. Refute it at one input. -/
def proofOwnWrong : ChangeSpec := { name := "proofOwn", fn := fun _ => fun
  | [d1, d2, d3, d4] => { results := [.lit (.bool false)], args := [d1, d2, d3, d4] }
  | _ => none }
def ProofOwnWrongFalsely : Prop := proofOwnRow.holds Tryz.pinned (OpenSpec.ofChange proofOwnWrong)

/- THE SECOND FORM. 'bulk': how many values and letters a reading holds, each counted each time it is reached (what is shared counts as often as it is met; a slice's spare places count too). A statement '..UptoSaid' is the law's where the arguments, and the package variables that the reading takes, are together of bulk at most 1048576: NARROWER than '..Said'. Prove '..Said' where nothing that the law and all that it calls make is longer than what came in: it says more and counts as full. Else prove '..UptoSaid'. A law counts once. -/
mutual
def uptoBulk {H : Type} : DataW H → Nat
  | .lit (.string bytes) => bytes.length + 1
  | .lit _ => 1
  | .nil => 1
  | .ptr d => uptoBulk d + 1
  | .slice elems spare => uptoBulkAll elems + uptoBulkAll spare + 1
  | .agg parts => uptoBulkAll parts + 1
  | .iface _ d => uptoBulk d + 1
  | .map entries => uptoBulkEntries entries + 1
  | .held _ => 1
def uptoBulkAll {H : Type} : List (DataW H) → Nat
  | [] => 0
  | d :: r => uptoBulk d + uptoBulkAll r
def uptoBulkEntries {H : Type} : List (Lit × DataW H) → Nat
  | [] => 0
  | x :: r => uptoBulkEntry x + uptoBulkEntries r
def uptoBulkEntry {H : Type} : Lit × DataW H → Nat
  | (.string bytes, d) => bytes.length + uptoBulk d + 1
  | (_, d) => uptoBulk d + 1
 end
def uptoSmall : (H : Type) → List (DataW H) → Bool := fun _ ds => decide (uptoBulkAll ds ≤ 1048576)
def OpenSpec.upto (s : _root_.Go.ChangeSpec) : _root_.Go.OpenSpec := { _root_.Go.OpenSpec.ofChange s with cond := some uptoSmall }

/-- 'attorneylaw13.ProofMakes', WHERE WHAT IT READS IS OF BULK AT MOST 1048576: true; the input reads as it did. -/
def proofMakesUptoRow : OpenClaim := { program := "ytjifdfhibkipnaagreat", sum := "fc9417fe1f9f02c408239309d5374393061d873767cd70a36b48554d827ea855", func := "attorney/attorneylaw13.ProofMakes", spec := "proofMakes", unfollowed := true, recurses := true, apart := false, narrowed := true }
def ProofMakesUptoSaid : Prop := proofMakesUptoRow.holds Tryz.pinned (OpenSpec.upto proofMakesSpec)

/-- 'attorneylaw13.ProofChecks', WHERE WHAT IT READS IS OF BULK AT MOST 1048576: true; the input reads as it did. -/
def proofChecksUptoRow : OpenClaim := { program := "ytjifdfhibkipnaagreat", sum := "fc9417fe1f9f02c408239309d5374393061d873767cd70a36b48554d827ea855", func := "attorney/attorneylaw13.ProofChecks", spec := "proofChecks", unfollowed := true, recurses := true, apart := false, narrowed := true }
def ProofChecksUptoSaid : Prop := proofChecksUptoRow.holds Tryz.pinned (OpenSpec.upto proofChecksSpec)

/-- 'attorneylaw13.ProofCuts', WHERE WHAT IT READS IS OF BULK AT MOST 1048576: true; the input reads as it did. -/
def proofCutsUptoRow : OpenClaim := { program := "ytjifdfhibkipnaagreat", sum := "fc9417fe1f9f02c408239309d5374393061d873767cd70a36b48554d827ea855", func := "attorney/attorneylaw13.ProofCuts", spec := "proofCuts", unfollowed := true, recurses := true, apart := false, narrowed := true }
def ProofCutsUptoSaid : Prop := proofCutsUptoRow.holds Tryz.pinned (OpenSpec.upto proofCutsSpec)

/-- 'attorneylaw13.ProofRight', WHERE WHAT IT READS IS OF BULK AT MOST 1048576: true; the input reads as it did. -/
def proofRightUptoRow : OpenClaim := { program := "ytjifdfhibkipnaagreat", sum := "fc9417fe1f9f02c408239309d5374393061d873767cd70a36b48554d827ea855", func := "attorney/attorneylaw13.ProofRight", spec := "proofRight", unfollowed := true, recurses := true, apart := false, narrowed := true }
def ProofRightUptoSaid : Prop := proofRightUptoRow.holds Tryz.pinned (OpenSpec.upto proofRightSpec)

/-- 'attorneylaw13.ProofSound', WHERE WHAT IT READS IS OF BULK AT MOST 1048576: true; the input reads as it did. -/
def proofSoundUptoRow : OpenClaim := { program := "ytjifdfhibkipnaagreat", sum := "fc9417fe1f9f02c408239309d5374393061d873767cd70a36b48554d827ea855", func := "attorney/attorneylaw13.ProofSound", spec := "proofSound", unfollowed := true, recurses := true, apart := false, narrowed := true }
def ProofSoundUptoSaid : Prop := proofSoundUptoRow.holds Tryz.pinned (OpenSpec.upto proofSoundSpec)

/-- 'attorneylaw13.ProofCutRight', WHERE WHAT IT READS IS OF BULK AT MOST 1048576: true; the input reads as it did. -/
def proofCutRightUptoRow : OpenClaim := { program := "ytjifdfhibkipnaagreat", sum := "fc9417fe1f9f02c408239309d5374393061d873767cd70a36b48554d827ea855", func := "attorney/attorneylaw13.ProofCutRight", spec := "proofCutRight", unfollowed := true, recurses := true, apart := false, narrowed := true }
def ProofCutRightUptoSaid : Prop := proofCutRightUptoRow.holds Tryz.pinned (OpenSpec.upto proofCutRightSpec)

/-- 'attorneylaw13.ProofOwn', WHERE WHAT IT READS IS OF BULK AT MOST 1048576: true; the input reads as it did. -/
def proofOwnUptoRow : OpenClaim := { program := "ytjifdfhibkipnaagreat", sum := "fc9417fe1f9f02c408239309d5374393061d873767cd70a36b48554d827ea855", func := "attorney/attorneylaw13.ProofOwn", spec := "proofOwn", unfollowed := true, recurses := true, apart := false, narrowed := true }
def ProofOwnUptoSaid : Prop := proofOwnUptoRow.holds Tryz.pinned (OpenSpec.upto proofOwnSpec)

end Rows
end Go.Proofs.YtjifdfhibkipnaaGreat
