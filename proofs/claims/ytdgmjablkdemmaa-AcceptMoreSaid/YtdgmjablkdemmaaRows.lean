/-
  No cell of these rows narrows 'for every input' (looked for: loops, veiled, ifaces, maps, wideKeys, modest, calm, conditions, laid).
  DERIVED. THE GIVEN ROWS OF THIS SEAT. 8 by the template 'for every input the law returns true; each argument reads behind the call as it read before'; 0 by the template 'total and deterministic' (their statements: YtdgmjablkdemmaaTotals.lean).
  GIVEN WITH THE SEED: the statements are not yours to turn. If you find one false, say at which input.
  Laid BY PROGRAM, IN A SANDBOX (cutbox-rows.mjs): the forced cells as the released guide's own fill.sh prints them over the translation 9900e725735c209d… (all of the seat's roots in one cut). By AI agents, Wed Nov 11 2026. No macro, syntax, notation, axiom, sorry.
-/
import Derived.Test.YtdgmjablkdemmaaChecked
import GoSem.Claim
import GoSem.ClaimJoined
import GoSem.ClaimMapViews
import Derived.JoinedTies
import Derived.KernelRfl
namespace Go.Proofs.Ytdgmjablkdemmaa
/- THE CELL 'sum', in the pinned program and in every row, IS THE sha256 OF THE DUMP (.gsa) THAT YtdgmjablkdemmaaProg.lean LOADS. Nothing in Lean hashes anything: it is a label: what it is worth is what the hold of that sum in a sandbox is worth. -/
noncomputable def Try.pinned : Pinned := { name := "ytdgmjablkdemmaa", sum := "9900e725735c209d651db9fa4a4963e405b6c23058cdae9975ed8d201698c1ee", checked := Try.checked }
namespace Rows
def none {H : Type} : Left H := { results := [], args := [] }

/-- 'attorneylaw15.StoreBorders': WHATEVER THE INPUT: true; the input reads as it did. -/
def storeBordersSpec : ChangeSpec := { name := "storeBorders", fn := fun _ => fun
  | [d1, d2, d3, d4] => { results := [.lit (.bool true)], args := [d1, d2, d3, d4] }
  | _ => none }
def storeBordersRow : OpenClaim := { program := "ytdgmjablkdemmaa", sum := "9900e725735c209d651db9fa4a4963e405b6c23058cdae9975ed8d201698c1ee", func := "attorney/attorneylaw15.StoreBorders", spec := "storeBorders", unfollowed := true, recurses := true, apart := false }
def StoreBordersSaid : Prop := storeBordersRow.holds Try.pinned (OpenSpec.ofChange storeBordersSpec)

/-- ITS FALSE NEIGHBOUR: 'it returns false'. Refute it at one input. -/
def storeBordersWrong : ChangeSpec := { name := "storeBorders", fn := fun _ => fun
  | [d1, d2, d3, d4] => { results := [.lit (.bool false)], args := [d1, d2, d3, d4] }
  | _ => none }
def StoreBordersWrongFalsely : Prop := storeBordersRow.holds Try.pinned (OpenSpec.ofChange storeBordersWrong)

/-- 'attorneylaw15.StoreSwept': WHATEVER THE INPUT: true; the input reads as it did. -/
def storeSweptSpec : ChangeSpec := { name := "storeSwept", fn := fun _ => fun
  | [d1, d2, d3, d4] => { results := [.lit (.bool true)], args := [d1, d2, d3, d4] }
  | _ => none }
def storeSweptRow : OpenClaim := { program := "ytdgmjablkdemmaa", sum := "9900e725735c209d651db9fa4a4963e405b6c23058cdae9975ed8d201698c1ee", func := "attorney/attorneylaw15.StoreSwept", spec := "storeSwept", unfollowed := true, recurses := true, apart := false }
def StoreSweptSaid : Prop := storeSweptRow.holds Try.pinned (OpenSpec.ofChange storeSweptSpec)

/-- ITS FALSE NEIGHBOUR: 'it returns false'. Refute it at one input. -/
def storeSweptWrong : ChangeSpec := { name := "storeSwept", fn := fun _ => fun
  | [d1, d2, d3, d4] => { results := [.lit (.bool false)], args := [d1, d2, d3, d4] }
  | _ => none }
def StoreSweptWrongFalsely : Prop := storeSweptRow.holds Try.pinned (OpenSpec.ofChange storeSweptWrong)

/-- 'attorneylaw15.StoreOnce': WHATEVER THE INPUT: true; the input reads as it did. -/
def storeOnceSpec : ChangeSpec := { name := "storeOnce", fn := fun _ => fun
  | [d1, d2] => { results := [.lit (.bool true)], args := [d1, d2] }
  | _ => none }
def storeOnceRow : OpenClaim := { program := "ytdgmjablkdemmaa", sum := "9900e725735c209d651db9fa4a4963e405b6c23058cdae9975ed8d201698c1ee", func := "attorney/attorneylaw15.StoreOnce", spec := "storeOnce", unfollowed := true, recurses := true, apart := false }
def StoreOnceSaid : Prop := storeOnceRow.holds Try.pinned (OpenSpec.ofChange storeOnceSpec)

/-- ITS FALSE NEIGHBOUR: 'it returns false'. Refute it at one input. -/
def storeOnceWrong : ChangeSpec := { name := "storeOnce", fn := fun _ => fun
  | [d1, d2] => { results := [.lit (.bool false)], args := [d1, d2] }
  | _ => none }
def StoreOnceWrongFalsely : Prop := storeOnceRow.holds Try.pinned (OpenSpec.ofChange storeOnceWrong)

/-- 'attorneylaw15.StoreRoom': WHATEVER THE INPUT: true; the input reads as it did. -/
def storeRoomSpec : ChangeSpec := { name := "storeRoom", fn := fun _ => fun
  | [d1, d2] => { results := [.lit (.bool true)], args := [d1, d2] }
  | _ => none }
def storeRoomRow : OpenClaim := { program := "ytdgmjablkdemmaa", sum := "9900e725735c209d651db9fa4a4963e405b6c23058cdae9975ed8d201698c1ee", func := "attorney/attorneylaw15.StoreRoom", spec := "storeRoom", unfollowed := true, recurses := true, apart := false }
def StoreRoomSaid : Prop := storeRoomRow.holds Try.pinned (OpenSpec.ofChange storeRoomSpec)

/-- ITS FALSE NEIGHBOUR: 'it returns false'. Refute it at one input. -/
def storeRoomWrong : ChangeSpec := { name := "storeRoom", fn := fun _ => fun
  | [d1, d2] => { results := [.lit (.bool false)], args := [d1, d2] }
  | _ => none }
def StoreRoomWrongFalsely : Prop := storeRoomRow.holds Try.pinned (OpenSpec.ofChange storeRoomWrong)

/-- 'attorneylaw12.AcceptBacked': WHATEVER THE INPUT: true; the input reads as it did. -/
def acceptBackedSpec : ChangeSpec := { name := "acceptBacked", fn := fun _ => fun
  | [d1, d2, d3] => { results := [.lit (.bool true)], args := [d1, d2, d3] }
  | _ => none }
def acceptBackedRow : OpenClaim := { program := "ytdgmjablkdemmaa", sum := "9900e725735c209d651db9fa4a4963e405b6c23058cdae9975ed8d201698c1ee", func := "attorney/attorneylaw12.AcceptBacked", spec := "acceptBacked", unfollowed := true, recurses := true, apart := false }
def AcceptBackedSaid : Prop := acceptBackedRow.holds Try.pinned (OpenSpec.ofChange acceptBackedSpec)

/-- ITS FALSE NEIGHBOUR: 'it returns false'. Refute it at one input. -/
def acceptBackedWrong : ChangeSpec := { name := "acceptBacked", fn := fun _ => fun
  | [d1, d2, d3] => { results := [.lit (.bool false)], args := [d1, d2, d3] }
  | _ => none }
def AcceptBackedWrongFalsely : Prop := acceptBackedRow.holds Try.pinned (OpenSpec.ofChange acceptBackedWrong)

/-- 'attorneylaw12.AcceptOrder': WHATEVER THE INPUT: true; the input reads as it did. -/
def acceptOrderSpec : ChangeSpec := { name := "acceptOrder", fn := fun _ => fun
  | [d1, d2, d3, d4] => { results := [.lit (.bool true)], args := [d1, d2, d3, d4] }
  | _ => none }
def acceptOrderRow : OpenClaim := { program := "ytdgmjablkdemmaa", sum := "9900e725735c209d651db9fa4a4963e405b6c23058cdae9975ed8d201698c1ee", func := "attorney/attorneylaw12.AcceptOrder", spec := "acceptOrder", unfollowed := true, recurses := true, apart := false }
def AcceptOrderSaid : Prop := acceptOrderRow.holds Try.pinned (OpenSpec.ofChange acceptOrderSpec)

/-- ITS FALSE NEIGHBOUR: 'it returns false'. Refute it at one input. -/
def acceptOrderWrong : ChangeSpec := { name := "acceptOrder", fn := fun _ => fun
  | [d1, d2, d3, d4] => { results := [.lit (.bool false)], args := [d1, d2, d3, d4] }
  | _ => none }
def AcceptOrderWrongFalsely : Prop := acceptOrderRow.holds Try.pinned (OpenSpec.ofChange acceptOrderWrong)

/-- 'attorneylaw12.AcceptMore': WHATEVER THE INPUT: true; the input reads as it did. -/
def acceptMoreSpec : ChangeSpec := { name := "acceptMore", fn := fun _ => fun
  | [d1, d2, d3, d4, d5] => { results := [.lit (.bool true)], args := [d1, d2, d3, d4, d5] }
  | _ => none }
def acceptMoreRow : OpenClaim := { program := "ytdgmjablkdemmaa", sum := "9900e725735c209d651db9fa4a4963e405b6c23058cdae9975ed8d201698c1ee", func := "attorney/attorneylaw12.AcceptMore", spec := "acceptMore", unfollowed := true, recurses := true, apart := false }
def AcceptMoreSaid : Prop := acceptMoreRow.holds Try.pinned (OpenSpec.ofChange acceptMoreSpec)

/-- ITS FALSE NEIGHBOUR: 'it returns false'. Refute it at one input. -/
def acceptMoreWrong : ChangeSpec := { name := "acceptMore", fn := fun _ => fun
  | [d1, d2, d3, d4, d5] => { results := [.lit (.bool false)], args := [d1, d2, d3, d4, d5] }
  | _ => none }
def AcceptMoreWrongFalsely : Prop := acceptMoreRow.holds Try.pinned (OpenSpec.ofChange acceptMoreWrong)

/-- 'attorneylaw12.AcceptTwice': WHATEVER THE INPUT: true; the input reads as it did. -/
def acceptTwiceSpec : ChangeSpec := { name := "acceptTwice", fn := fun _ => fun
  | [d1, d2, d3, d4] => { results := [.lit (.bool true)], args := [d1, d2, d3, d4] }
  | _ => none }
def acceptTwiceRow : OpenClaim := { program := "ytdgmjablkdemmaa", sum := "9900e725735c209d651db9fa4a4963e405b6c23058cdae9975ed8d201698c1ee", func := "attorney/attorneylaw12.AcceptTwice", spec := "acceptTwice", unfollowed := true, recurses := true, apart := false }
def AcceptTwiceSaid : Prop := acceptTwiceRow.holds Try.pinned (OpenSpec.ofChange acceptTwiceSpec)

/-- ITS FALSE NEIGHBOUR: 'it returns false'. Refute it at one input. -/
def acceptTwiceWrong : ChangeSpec := { name := "acceptTwice", fn := fun _ => fun
  | [d1, d2, d3, d4] => { results := [.lit (.bool false)], args := [d1, d2, d3, d4] }
  | _ => none }
def AcceptTwiceWrongFalsely : Prop := acceptTwiceRow.holds Try.pinned (OpenSpec.ofChange acceptTwiceWrong)

/- THE SECOND FORM. 'bulk': how many values and letters a reading holds, each counted each time it is reached (what is shared counts as often as it is met; a slice's spare places count too). A statement '..UptoSaid' is the law's where the arguments, and the package variables that the reading takes, are together of bulk at most 1048576: NARROWER than '..Said'. Prove '..Said' where nothing that the law and all that it calls make is longer than what came in: it says more and counts as full. Else prove '..UptoSaid'. A law counts once. -/
mutual
def uptoBulk {H : Type} : DataW H → Nat
  | .lit (.string bytes) => bytes.length + 1
  | .lit _ => 1
  | .nil => 1
  | .ptr d => uptoBulk d + 1
  | .slice elems spare => uptoBulkAll elems + uptoBulkAll spare + 1
  | .agg parts => uptoBulkAll parts + 1
  | .iface _ d => uptoBulk d + 1
  | .map entries => uptoBulkEntries entries + 1
  | .held _ => 1
def uptoBulkAll {H : Type} : List (DataW H) → Nat
  | [] => 0
  | d :: r => uptoBulk d + uptoBulkAll r
def uptoBulkEntries {H : Type} : List (Lit × DataW H) → Nat
  | [] => 0
  | x :: r => uptoBulkEntry x + uptoBulkEntries r
def uptoBulkEntry {H : Type} : Lit × DataW H → Nat
  | (.string bytes, d) => bytes.length + uptoBulk d + 1
  | (_, d) => uptoBulk d + 1
 end
def uptoSmall : (H : Type) → List (DataW H) → Bool := fun _ ds => decide (uptoBulkAll ds ≤ 1048576)
def OpenSpec.upto (s : _root_.Go.ChangeSpec) : _root_.Go.OpenSpec := { _root_.Go.OpenSpec.ofChange s with cond := some uptoSmall }

/-- 'attorneylaw15.StoreBorders', WHERE WHAT IT READS IS OF BULK AT MOST 1048576: true; the input reads as it did. -/
def storeBordersUptoRow : OpenClaim := { program := "ytdgmjablkdemmaa", sum := "9900e725735c209d651db9fa4a4963e405b6c23058cdae9975ed8d201698c1ee", func := "attorney/attorneylaw15.StoreBorders", spec := "storeBorders", unfollowed := true, recurses := true, apart := false, narrowed := true }
def StoreBordersUptoSaid : Prop := storeBordersUptoRow.holds Try.pinned (OpenSpec.upto storeBordersSpec)

/-- 'attorneylaw15.StoreSwept', WHERE WHAT IT READS IS OF BULK AT MOST 1048576: true; the input reads as it did. -/
def storeSweptUptoRow : OpenClaim := { program := "ytdgmjablkdemmaa", sum := "9900e725735c209d651db9fa4a4963e405b6c23058cdae9975ed8d201698c1ee", func := "attorney/attorneylaw15.StoreSwept", spec := "storeSwept", unfollowed := true, recurses := true, apart := false, narrowed := true }
def StoreSweptUptoSaid : Prop := storeSweptUptoRow.holds Try.pinned (OpenSpec.upto storeSweptSpec)

/-- 'attorneylaw15.StoreOnce', WHERE WHAT IT READS IS OF BULK AT MOST 1048576: true; the input reads as it did. -/
def storeOnceUptoRow : OpenClaim := { program := "ytdgmjablkdemmaa", sum := "9900e725735c209d651db9fa4a4963e405b6c23058cdae9975ed8d201698c1ee", func := "attorney/attorneylaw15.StoreOnce", spec := "storeOnce", unfollowed := true, recurses := true, apart := false, narrowed := true }
def StoreOnceUptoSaid : Prop := storeOnceUptoRow.holds Try.pinned (OpenSpec.upto storeOnceSpec)

/-- 'attorneylaw15.StoreRoom', WHERE WHAT IT READS IS OF BULK AT MOST 1048576: true; the input reads as it did. -/
def storeRoomUptoRow : OpenClaim := { program := "ytdgmjablkdemmaa", sum := "9900e725735c209d651db9fa4a4963e405b6c23058cdae9975ed8d201698c1ee", func := "attorney/attorneylaw15.StoreRoom", spec := "storeRoom", unfollowed := true, recurses := true, apart := false, narrowed := true }
def StoreRoomUptoSaid : Prop := storeRoomUptoRow.holds Try.pinned (OpenSpec.upto storeRoomSpec)

/-- 'attorneylaw12.AcceptBacked', WHERE WHAT IT READS IS OF BULK AT MOST 1048576: true; the input reads as it did. -/
def acceptBackedUptoRow : OpenClaim := { program := "ytdgmjablkdemmaa", sum := "9900e725735c209d651db9fa4a4963e405b6c23058cdae9975ed8d201698c1ee", func := "attorney/attorneylaw12.AcceptBacked", spec := "acceptBacked", unfollowed := true, recurses := true, apart := false, narrowed := true }
def AcceptBackedUptoSaid : Prop := acceptBackedUptoRow.holds Try.pinned (OpenSpec.upto acceptBackedSpec)

/-- 'attorneylaw12.AcceptOrder', WHERE WHAT IT READS IS OF BULK AT MOST 1048576: true; the input reads as it did. -/
def acceptOrderUptoRow : OpenClaim := { program := "ytdgmjablkdemmaa", sum := "9900e725735c209d651db9fa4a4963e405b6c23058cdae9975ed8d201698c1ee", func := "attorney/attorneylaw12.AcceptOrder", spec := "acceptOrder", unfollowed := true, recurses := true, apart := false, narrowed := true }
def AcceptOrderUptoSaid : Prop := acceptOrderUptoRow.holds Try.pinned (OpenSpec.upto acceptOrderSpec)

/-- 'attorneylaw12.AcceptMore', WHERE WHAT IT READS IS OF BULK AT MOST 1048576: true; the input reads as it did. -/
def acceptMoreUptoRow : OpenClaim := { program := "ytdgmjablkdemmaa", sum := "9900e725735c209d651db9fa4a4963e405b6c23058cdae9975ed8d201698c1ee", func := "attorney/attorneylaw12.AcceptMore", spec := "acceptMore", unfollowed := true, recurses := true, apart := false, narrowed := true }
def AcceptMoreUptoSaid : Prop := acceptMoreUptoRow.holds Try.pinned (OpenSpec.upto acceptMoreSpec)

/-- 'attorneylaw12.AcceptTwice', WHERE WHAT IT READS IS OF BULK AT MOST 1048576: true; the input reads as it did. -/
def acceptTwiceUptoRow : OpenClaim := { program := "ytdgmjablkdemmaa", sum := "9900e725735c209d651db9fa4a4963e405b6c23058cdae9975ed8d201698c1ee", func := "attorney/attorneylaw12.AcceptTwice", spec := "acceptTwice", unfollowed := true, recurses := true, apart := false, narrowed := true }
def AcceptTwiceUptoSaid : Prop := acceptTwiceUptoRow.holds Try.pinned (OpenSpec.upto acceptTwiceSpec)

end Rows
end Go.Proofs.Ytdgmjablkdemmaa
