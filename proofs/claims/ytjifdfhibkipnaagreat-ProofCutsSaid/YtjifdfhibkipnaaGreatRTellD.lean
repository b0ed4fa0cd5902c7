/-
  What reach.Leads tells, in plain Lean.
-/
import Derived.Test.YtjifdfhibkipnaaGreatRHelp
namespace Go.Proofs.YtjifdfhibkipnaaGreat
def tellB (R : List BRul) (s t : ByteArray) (b : Int) : Bool := if rowErr R s b = 0 then decide (t.data.toList ∈ wordsR (rowD R s b)) else false
end Go.Proofs.YtjifdfhibkipnaaGreat
