/-
  No cell of these rows narrows 'for every input' (looked for: loops, veiled, ifaces, maps, wideKeys, modest, calm, conditions, laid).
  DERIVED. THE GIVEN ROWS OF THIS SEAT. 5 by the template 'for every input the law returns true; each argument reads behind the call as it read before'; 0 by the template 'total and deterministic' (their statements: YtbjdndialiddpaaTotals.lean).
  GIVEN WITH THE SEED: the statements are not yours to turn. If you find one false, say at which input.
  Laid BY PROGRAM, IN A SANDBOX (cutbox-rows.mjs): the forced cells as the released guide's own fill.sh prints them over the translation 4dd2889562555848… (all of the seat's roots in one cut). By AI agents, Wed Nov 11 2026. No macro, syntax, notation, axiom, sorry.
-/
import Derived.Test.YtbjdndialiddpaaChecked
import GoSem.Claim
import GoSem.ClaimJoined
import GoSem.ClaimMapViews
import Derived.JoinedTies
import Derived.KernelRfl
namespace Go.Proofs.Ytbjdndialiddpaa
/- THE CELL 'sum', in the pinned program and in every row, IS THE sha256 OF THE DUMP (.gsa) THAT YtbjdndialiddpaaProg.lean LOADS. Nothing in Lean hashes anything: it is a label: what it is worth is what the hold of that sum in a sandbox is worth. -/
noncomputable def Try.pinned : Pinned := { name := "ytbjdndialiddpaa", sum := "4dd28895625558481ccb87cf7632d2701797419ad2e76781c6780eb8ffc2883d", checked := Try.checked }
namespace Rows
def none {H : Type} : Left H := { results := [], args := [] }

/-- 'attorneylaw16.AclDoes': WHATEVER THE INPUT: true; the input reads as it did. -/
def aclDoesSpec : ChangeSpec := { name := "aclDoes", fn := fun _ => fun
  | [d1, d2] => { results := [.lit (.bool true)], args := [d1, d2] }
  | _ => none }
def aclDoesRow : OpenClaim := { program := "ytbjdndialiddpaa", sum := "4dd28895625558481ccb87cf7632d2701797419ad2e76781c6780eb8ffc2883d", func := "attorney/attorneylaw16.AclDoes", spec := "aclDoes", unfollowed := true, recurses := true, apart := false }
def AclDoesSaid : Prop := aclDoesRow.holds Try.pinned (OpenSpec.ofChange aclDoesSpec)

/-- ITS FALSE NEIGHBOUR: 'it returns false'. Refute it at one input. -/
def aclDoesWrong : ChangeSpec := { name := "aclDoes", fn := fun _ => fun
  | [d1, d2] => { results := [.lit (.bool false)], args := [d1, d2] }
  | _ => none }
def AclDoesWrongFalsely : Prop := aclDoesRow.holds Try.pinned (OpenSpec.ofChange aclDoesWrong)

/-- 'attorneylaw16.AclAnswers': WHATEVER THE INPUT: true; the input reads as it did. -/
def aclAnswersSpec : ChangeSpec := { name := "aclAnswers", fn := fun _ => fun
  | [d1, d2, d3, d4, d5] => { results := [.lit (.bool true)], args := [d1, d2, d3, d4, d5] }
  | _ => none }
def aclAnswersRow : OpenClaim := { program := "ytbjdndialiddpaa", sum := "4dd28895625558481ccb87cf7632d2701797419ad2e76781c6780eb8ffc2883d", func := "attorney/attorneylaw16.AclAnswers", spec := "aclAnswers", unfollowed := true, recurses := true, apart := false }
def AclAnswersSaid : Prop := aclAnswersRow.holds Try.pinned (OpenSpec.ofChange aclAnswersSpec)

/-- ITS FALSE NEIGHBOUR: 'it returns false'. Refute it at one input. -/
def aclAnswersWrong : ChangeSpec := { name := "aclAnswers", fn := fun _ => fun
  | [d1, d2, d3, d4, d5] => { results := [.lit (.bool false)], args := [d1, d2, d3, d4, d5] }
  | _ => none }
def AclAnswersWrongFalsely : Prop := aclAnswersRow.holds Try.pinned (OpenSpec.ofChange aclAnswersWrong)

/-- 'attorneylaw16.AclGrants': WHATEVER THE INPUT: true; the input reads as it did. -/
def aclGrantsSpec : ChangeSpec := { name := "aclGrants", fn := fun _ => fun
  | [d1, d2, d3, d4, d5] => { results := [.lit (.bool true)], args := [d1, d2, d3, d4, d5] }
  | _ => none }
def aclGrantsRow : OpenClaim := { program := "ytbjdndialiddpaa", sum := "4dd28895625558481ccb87cf7632d2701797419ad2e76781c6780eb8ffc2883d", func := "attorney/attorneylaw16.AclGrants", spec := "aclGrants", unfollowed := true, recurses := true, apart := false }
def AclGrantsSaid : Prop := aclGrantsRow.holds Try.pinned (OpenSpec.ofChange aclGrantsSpec)

/-- ITS FALSE NEIGHBOUR: 'it returns false'. Refute it at one input. -/
def aclGrantsWrong : ChangeSpec := { name := "aclGrants", fn := fun _ => fun
  | [d1, d2, d3, d4, d5] => { results := [.lit (.bool false)], args := [d1, d2, d3, d4, d5] }
  | _ => none }
def AclGrantsWrongFalsely : Prop := aclGrantsRow.holds Try.pinned (OpenSpec.ofChange aclGrantsWrong)

/-- 'attorneylaw16.AclMore': WHATEVER THE INPUT: true; the input reads as it did. -/
def aclMoreSpec : ChangeSpec := { name := "aclMore", fn := fun _ => fun
  | [d1, d2, d3, d4, d5, d6, d7, d8] => { results := [.lit (.bool true)], args := [d1, d2, d3, d4, d5, d6, d7, d8] }
  | _ => none }
def aclMoreRow : OpenClaim := { program := "ytbjdndialiddpaa", sum := "4dd28895625558481ccb87cf7632d2701797419ad2e76781c6780eb8ffc2883d", func := "attorney/attorneylaw16.AclMore", spec := "aclMore", unfollowed := true, recurses := true, apart := false }
def AclMoreSaid : Prop := aclMoreRow.holds Try.pinned (OpenSpec.ofChange aclMoreSpec)

/-- ITS FALSE NEIGHBOUR: 'it returns false'. Refute it at one input. -/
def aclMoreWrong : ChangeSpec := { name := "aclMore", fn := fun _ => fun
  | [d1, d2, d3, d4, d5, d6, d7, d8] => { results := [.lit (.bool false)], args := [d1, d2, d3, d4, d5, d6, d7, d8] }
  | _ => none }
def AclMoreWrongFalsely : Prop := aclMoreRow.holds Try.pinned (OpenSpec.ofChange aclMoreWrong)

/-- 'attorneylaw16.AclEdits': WHATEVER THE INPUT: true; the input reads as it did. -/
def aclEditsSpec : ChangeSpec := { name := "aclEdits", fn := fun _ => fun
  | [d1, d2] => { results := [.lit (.bool true)], args := [d1, d2] }
  | _ => none }
def aclEditsRow : OpenClaim := { program := "ytbjdndialiddpaa", sum := "4dd28895625558481ccb87cf7632d2701797419ad2e76781c6780eb8ffc2883d", func := "attorney/attorneylaw16.AclEdits", spec := "aclEdits", unfollowed := true, recurses := true, apart := false }
def AclEditsSaid : Prop := aclEditsRow.holds Try.pinned (OpenSpec.ofChange aclEditsSpec)

/-- ITS FALSE NEIGHBOUR: 'it returns false'. Refute it at one input. -/
def aclEditsWrong : ChangeSpec := { name := "aclEdits", fn := fun _ => fun
  | [d1, d2] => { results := [.lit (.bool false)], args := [d1, d2] }
  | _ => none }
def AclEditsWrongFalsely : Prop := aclEditsRow.holds Try.pinned (OpenSpec.ofChange aclEditsWrong)

/- THE SECOND FORM. 'bulk': how many values and letters a reading holds, each counted each time it is reached (what is shared counts as often as it is met; a slice's spare places count too). A statement '..UptoSaid' is the law's where the arguments, and the package variables that the reading takes, are together of bulk at most 1048576: NARROWER than '..Said'. Prove '..Said' where nothing that the law and all that it calls make is longer than what came in: it says more and counts as full. Else prove '..UptoSaid'. A law counts once. -/
mutual
def uptoBulk {H : Type} : DataW H → Nat
  | .lit (.string bytes) => bytes.length + 1
  | .lit _ => 1
  | .nil => 1
  | .ptr d => uptoBulk d + 1
  | .slice elems spare => uptoBulkAll elems + uptoBulkAll spare + 1
  | .agg parts => uptoBulkAll parts + 1
  | .iface _ d => uptoBulk d + 1
  | .map entries => uptoBulkEntries entries + 1
  | .held _ => 1
def uptoBulkAll {H : Type} : List (DataW H) → Nat
  | [] => 0
  | d :: r => uptoBulk d + uptoBulkAll r
def uptoBulkEntries {H : Type} : List (Lit × DataW H) → Nat
  | [] => 0
  | x :: r => uptoBulkEntry x + uptoBulkEntries r
def uptoBulkEntry {H : Type} : Lit × DataW H → Nat
  | (.string bytes, d) => bytes.length + uptoBulk d + 1
  | (_, d) => uptoBulk d + 1
 end
def uptoSmall : (H : Type) → List (DataW H) → Bool := fun _ ds => decide (uptoBulkAll ds ≤ 1048576)
def OpenSpec.upto (s : _root_.Go.ChangeSpec) : _root_.Go.OpenSpec := { _root_.Go.OpenSpec.ofChange s with cond := some uptoSmall }

/-- 'attorneylaw16.AclDoes', WHERE WHAT IT READS IS OF BULK AT MOST 1048576: true; the input reads as it did. -/
def aclDoesUptoRow : OpenClaim := { program := "ytbjdndialiddpaa", sum := "4dd28895625558481ccb87cf7632d2701797419ad2e76781c6780eb8ffc2883d", func := "attorney/attorneylaw16.AclDoes", spec := "aclDoes", unfollowed := true, recurses := true, apart := false, narrowed := true }
def AclDoesUptoSaid : Prop := aclDoesUptoRow.holds Try.pinned (OpenSpec.upto aclDoesSpec)

/-- 'attorneylaw16.AclAnswers', WHERE WHAT IT READS IS OF BULK AT MOST 1048576: true; the input reads as it did. -/
def aclAnswersUptoRow : OpenClaim := { program := "ytbjdndialiddpaa", sum := "4dd28895625558481ccb87cf7632d2701797419ad2e76781c6780eb8ffc2883d", func := "attorney/attorneylaw16.AclAnswers", spec := "aclAnswers", unfollowed := true, recurses := true, apart := false, narrowed := true }
def AclAnswersUptoSaid : Prop := aclAnswersUptoRow.holds Try.pinned (OpenSpec.upto aclAnswersSpec)

/-- 'attorneylaw16.AclGrants', WHERE WHAT IT READS IS OF BULK AT MOST 1048576: true; the input reads as it did. -/
def aclGrantsUptoRow : OpenClaim := { program := "ytbjdndialiddpaa", sum := "4dd28895625558481ccb87cf7632d2701797419ad2e76781c6780eb8ffc2883d", func := "attorney/attorneylaw16.AclGrants", spec := "aclGrants", unfollowed := true, recurses := true, apart := false, narrowed := true }
def AclGrantsUptoSaid : Prop := aclGrantsUptoRow.holds Try.pinned (OpenSpec.upto aclGrantsSpec)

/-- 'attorneylaw16.AclMore', WHERE WHAT IT READS IS OF BULK AT MOST 1048576: true; the input reads as it did. -/
def aclMoreUptoRow : OpenClaim := { program := "ytbjdndialiddpaa", sum := "4dd28895625558481ccb87cf7632d2701797419ad2e76781c6780eb8ffc2883d", func := "attorney/attorneylaw16.AclMore", spec := "aclMore", unfollowed := true, recurses := true, apart := false, narrowed := true }
def AclMoreUptoSaid : Prop := aclMoreUptoRow.holds Try.pinned (OpenSpec.upto aclMoreSpec)

/-- 'attorneylaw16.AclEdits', WHERE WHAT IT READS IS OF BULK AT MOST 1048576: true; the input reads as it did. -/
def aclEditsUptoRow : OpenClaim := { program := "ytbjdndialiddpaa", sum := "4dd28895625558481ccb87cf7632d2701797419ad2e76781c6780eb8ffc2883d", func := "attorney/attorneylaw16.AclEdits", spec := "aclEdits", unfollowed := true, recurses := true, apart := false, narrowed := true }
def AclEditsUptoSaid : Prop := aclEditsUptoRow.holds Try.pinned (OpenSpec.upto aclEditsSpec)

end Rows
end Go.Proofs.Ytbjdndialiddpaa
