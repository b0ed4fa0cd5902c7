/-
  No cell of these rows narrows 'for every input' (looked for: loops, veiled, ifaces, maps, wideKeys, modest, calm, conditions, laid).
  DERIVED. THE GIVEN ROWS OF THIS SEAT. 5 by the template 'for every input the law returns true; each argument reads behind the call as it read before'; 0 by the template 'total and deterministic' (their statements: YtiidagdapckgjaaTotals.lean).
  GIVEN WITH THE SEED: the statements are not yours to turn. If you find one false, say at which input.
  Laid BY PROGRAM, IN A SANDBOX (cutbox-rows.mjs): the forced cells as the released guide's own fill.sh prints them over the translation 32dc8c79cdfd48b6… (all of the seat's roots in one cut). By AI agents, Wed Nov 11 2026. No macro, syntax, notation, axiom, sorry.
-/
import Derived.Test.YtiidagdapckgjaaChecked
import GoSem.Claim
import GoSem.ClaimJoined
import GoSem.ClaimMapViews
import Derived.JoinedTies
import Derived.KernelRfl
namespace Go.Proofs.Ytiidagdapckgjaa
/- THE CELL 'sum', in the pinned program and in every row, IS THE sha256 OF THE DUMP (.gsa) THAT YtiidagdapckgjaaProg.lean LOADS. Nothing in Lean hashes anything: it is a label: what it is worth is what the hold of that sum in a sandbox is worth. -/
noncomputable def Try.pinned : Pinned := { name := "ytiidagdapckgjaa", sum := "32dc8c79cdfd48b6b8d3dd5fb1f6c030cef33182cc0b3b97b447cde8596d6fb0", checked := Try.checked }
namespace Rows
def none {H : Type} : Left H := { results := [], args := [] }

/-- 'attorneylaw10.MatchTells': WHATEVER THE INPUT: true; the input reads as it did. -/
def matchTellsSpec : ChangeSpec := { name := "matchTells", fn := fun _ => fun
  | [d1, d2] => { results := [.lit (.bool true)], args := [d1, d2] }
  | _ => none }
def matchTellsRow : OpenClaim := { program := "ytiidagdapckgjaa", sum := "32dc8c79cdfd48b6b8d3dd5fb1f6c030cef33182cc0b3b97b447cde8596d6fb0", func := "attorney/attorneylaw10.MatchTells", spec := "matchTells", recurses := true, plainKeys := false, apart := false }
def MatchTellsSaid : Prop := matchTellsRow.holds Try.pinned (OpenSpec.ofChange matchTellsSpec)

/-- ITS FALSE NEIGHBOUR: 'it returns false'. Refute it at one input. -/
def matchTellsWrong : ChangeSpec := { name := "matchTells", fn := fun _ => fun
  | [d1, d2] => { results := [.lit (.bool false)], args := [d1, d2] }
  | _ => none }
def MatchTellsWrongFalsely : Prop := matchTellsRow.holds Try.pinned (OpenSpec.ofChange matchTellsWrong)

/-- 'attorneylaw10.MatchStands': WHATEVER THE INPUT: true; the input reads as it did. -/
def matchStandsSpec : ChangeSpec := { name := "matchStands", fn := fun _ => fun
  | [d1, d2] => { results := [.lit (.bool true)], args := [d1, d2] }
  | _ => none }
def matchStandsRow : OpenClaim := { program := "ytiidagdapckgjaa", sum := "32dc8c79cdfd48b6b8d3dd5fb1f6c030cef33182cc0b3b97b447cde8596d6fb0", func := "attorney/attorneylaw10.MatchStands", spec := "matchStands", recurses := true, plainKeys := false, apart := false }
def MatchStandsSaid : Prop := matchStandsRow.holds Try.pinned (OpenSpec.ofChange matchStandsSpec)

/-- ITS FALSE NEIGHBOUR: 'it returns false'. Refute it at one input. -/
def matchStandsWrong : ChangeSpec := { name := "matchStands", fn := fun _ => fun
  | [d1, d2] => { results := [.lit (.bool false)], args := [d1, d2] }
  | _ => none }
def MatchStandsWrongFalsely : Prop := matchStandsRow.holds Try.pinned (OpenSpec.ofChange matchStandsWrong)

/-- 'attorneylaw10.MatchJoins': WHATEVER THE INPUT: true; the input reads as it did. -/
def matchJoinsSpec : ChangeSpec := { name := "matchJoins", fn := fun _ => fun
  | [d1, d2, d3, d4] => { results := [.lit (.bool true)], args := [d1, d2, d3, d4] }
  | _ => none }
def matchJoinsRow : OpenClaim := { program := "ytiidagdapckgjaa", sum := "32dc8c79cdfd48b6b8d3dd5fb1f6c030cef33182cc0b3b97b447cde8596d6fb0", func := "attorney/attorneylaw10.MatchJoins", spec := "matchJoins", recurses := true, plainKeys := false, apart := false }
def MatchJoinsSaid : Prop := matchJoinsRow.holds Try.pinned (OpenSpec.ofChange matchJoinsSpec)

/-- ITS FALSE NEIGHBOUR: 'it returns false'. Refute it at one input. -/
def matchJoinsWrong : ChangeSpec := { name := "matchJoins", fn := fun _ => fun
  | [d1, d2, d3, d4] => { results := [.lit (.bool false)], args := [d1, d2, d3, d4] }
  | _ => none }
def MatchJoinsWrongFalsely : Prop := matchJoinsRow.holds Try.pinned (OpenSpec.ofChange matchJoinsWrong)

/-- 'attorneylaw10.MatchTwice': WHATEVER THE INPUT: true; the input reads as it did. -/
def matchTwiceSpec : ChangeSpec := { name := "matchTwice", fn := fun _ => fun
  | [d1, d2, d3] => { results := [.lit (.bool true)], args := [d1, d2, d3] }
  | _ => none }
def matchTwiceRow : OpenClaim := { program := "ytiidagdapckgjaa", sum := "32dc8c79cdfd48b6b8d3dd5fb1f6c030cef33182cc0b3b97b447cde8596d6fb0", func := "attorney/attorneylaw10.MatchTwice", spec := "matchTwice", recurses := true, plainKeys := false, apart := false }
def MatchTwiceSaid : Prop := matchTwiceRow.holds Try.pinned (OpenSpec.ofChange matchTwiceSpec)

/-- ITS FALSE NEIGHBOUR: 'it returns false'. Refute it at one input. -/
def matchTwiceWrong : ChangeSpec := { name := "matchTwice", fn := fun _ => fun
  | [d1, d2, d3] => { results := [.lit (.bool false)], args := [d1, d2, d3] }
  | _ => none }
def MatchTwiceWrongFalsely : Prop := matchTwiceRow.holds Try.pinned (OpenSpec.ofChange matchTwiceWrong)

/-- 'attorneylaw10.MatchOwn': WHATEVER THE INPUT: true; the input reads as it did. -/
def matchOwnSpec : ChangeSpec := { name := "matchOwn", fn := fun _ => fun
  | [d1, d2] => { results := [.lit (.bool true)], args := [d1, d2] }
  | _ => none }
def matchOwnRow : OpenClaim := { program := "ytiidagdapckgjaa", sum := "32dc8c79cdfd48b6b8d3dd5fb1f6c030cef33182cc0b3b97b447cde8596d6fb0", func := "attorney/attorneylaw10.MatchOwn", spec := "matchOwn", recurses := true, plainKeys := false, apart := false }
def MatchOwnSaid : Prop := matchOwnRow.holds Try.pinned (OpenSpec.ofChange matchOwnSpec)

/-- ITS FALSE NEIGHBOUR: 'it returns false'. Refute it at one input. -/
def matchOwnWrong : ChangeSpec := { name := "matchOwn", fn := fun _ => fun
  | [d1, d2] => { results := [.lit (.bool false)], args := [d1, d2] }
  | _ => none }
def MatchOwnWrongFalsely : Prop := matchOwnRow.holds Try.pinned (OpenSpec.ofChange matchOwnWrong)

/- THE SECOND FORM. 'bulk': how many values and letters a reading holds, each counted each time it is reached (what is shared counts as often as it is met; a slice's spare places count too). A statement '..UptoSaid' is the law's where the arguments, and the package variables that the reading takes, are together of bulk at most 1048576: NARROWER than '..Said'. Prove '..Said' where nothing that the law and all that it calls make is longer than what came in: it says more and counts as full. Else prove '..UptoSaid'. A law counts once. -/
mutual
def uptoBulk {H : Type} : DataW H → Nat
  | .lit (.string bytes) => bytes.length + 1
  | .lit _ => 1
  | .nil => 1
  | .ptr d => uptoBulk d + 1
  | .slice elems spare => uptoBulkAll elems + uptoBulkAll spare + 1
  | .agg parts => uptoBulkAll parts + 1
  | .iface _ d => uptoBulk d + 1
  | .map entries => uptoBulkEntries entries + 1
  | .held _ => 1
def uptoBulkAll {H : Type} : List (DataW H) → Nat
  | [] => 0
  | d :: r => uptoBulk d + uptoBulkAll r
def uptoBulkEntries {H : Type} : List (Lit × DataW H) → Nat
  | [] => 0
  | x :: r => uptoBulkEntry x + uptoBulkEntries r
def uptoBulkEntry {H : Type} : Lit × DataW H → Nat
  | (.string bytes, d) => bytes.length + uptoBulk d + 1
  | (_, d) => uptoBulk d + 1
 end
def uptoSmall : (H : Type) → List (DataW H) → Bool := fun _ ds => decide (uptoBulkAll ds ≤ 1048576)
def OpenSpec.upto (s : _root_.Go.ChangeSpec) : _root_.Go.OpenSpec := { _root_.Go.OpenSpec.ofChange s with cond := some uptoSmall }

/-- 'attorneylaw10.MatchTells', WHERE WHAT IT READS IS OF BULK AT MOST 1048576: true; the input reads as it did. -/
def matchTellsUptoRow : OpenClaim := { program := "ytiidagdapckgjaa", sum := "32dc8c79cdfd48b6b8d3dd5fb1f6c030cef33182cc0b3b97b447cde8596d6fb0", func := "attorney/attorneylaw10.MatchTells", spec := "matchTells", recurses := true, plainKeys := false, apart := false, narrowed := true }
def MatchTellsUptoSaid : Prop := matchTellsUptoRow.holds Try.pinned (OpenSpec.upto matchTellsSpec)

/-- 'attorneylaw10.MatchStands', WHERE WHAT IT READS IS OF BULK AT MOST 1048576: true; the input reads as it did. -/
def matchStandsUptoRow : OpenClaim := { program := "ytiidagdapckgjaa", sum := "32dc8c79cdfd48b6b8d3dd5fb1f6c030cef33182cc0b3b97b447cde8596d6fb0", func := "attorney/attorneylaw10.MatchStands", spec := "matchStands", recurses := true, plainKeys := false, apart := false, narrowed := true }
def MatchStandsUptoSaid : Prop := matchStandsUptoRow.holds Try.pinned (OpenSpec.upto matchStandsSpec)

/-- 'attorneylaw10.MatchJoins', WHERE WHAT IT READS IS OF BULK AT MOST 1048576: true; the input reads as it did. -/
def matchJoinsUptoRow : OpenClaim := { program := "ytiidagdapckgjaa", sum := "32dc8c79cdfd48b6b8d3dd5fb1f6c030cef33182cc0b3b97b447cde8596d6fb0", func := "attorney/attorneylaw10.MatchJoins", spec := "matchJoins", recurses := true, plainKeys := false, apart := false, narrowed := true }
def MatchJoinsUptoSaid : Prop := matchJoinsUptoRow.holds Try.pinned (OpenSpec.upto matchJoinsSpec)

/-- 'attorneylaw10.MatchTwice', WHERE WHAT IT READS IS OF BULK AT MOST 1048576: true; the input reads as it did. -/
def matchTwiceUptoRow : OpenClaim := { program := "ytiidagdapckgjaa", sum := "32dc8c79cdfd48b6b8d3dd5fb1f6c030cef33182cc0b3b97b447cde8596d6fb0", func := "attorney/attorneylaw10.MatchTwice", spec := "matchTwice", recurses := true, plainKeys := false, apart := false, narrowed := true }
def MatchTwiceUptoSaid : Prop := matchTwiceUptoRow.holds Try.pinned (OpenSpec.upto matchTwiceSpec)

/-- 'attorneylaw10.MatchOwn', WHERE WHAT IT READS IS OF BULK AT MOST 1048576: true; the input reads as it did. -/
def matchOwnUptoRow : OpenClaim := { program := "ytiidagdapckgjaa", sum := "32dc8c79cdfd48b6b8d3dd5fb1f6c030cef33182cc0b3b97b447cde8596d6fb0", func := "attorney/attorneylaw10.MatchOwn", spec := "matchOwn", recurses := true, plainKeys := false, apart := false, narrowed := true }
def MatchOwnUptoSaid : Prop := matchOwnUptoRow.holds Try.pinned (OpenSpec.upto matchOwnSpec)

end Rows
end Go.Proofs.Ytiidagdapckgjaa
