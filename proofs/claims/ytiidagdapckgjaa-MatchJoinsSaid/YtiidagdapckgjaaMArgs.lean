/-
  What the arguments' readings say, in the words of the walks: words, and slices of words.
-/
import Derived.Test.YtiidagdapckgjaaRows
import Derived.Test.YtiidagdapckgjaaMAwake
import Derived.ProofKit
import Derived.OpenShut
import Derived.ShutString
import Derived.ChangeOld
import Derived.Deep.Slices
namespace Go.Proofs.Ytiidagdapckgjaa
open Go.ChangeShapes Go.WideShapes Go.ChangeAt Go.RowKit

theorem Try.own : ownKnob Try.prog.godebug = none := by kernel_rfl
theorem Try.laidOut : laidOutB Try.prog = true := by kernel_rfl
/-- A slice of words that came in. -/
structure WordsArg (w : World) (v : Value) (l : List ByteArray) : Prop where
  at_ : WordsAt w v (· < w.heap.size) l
  nil : ∀ n c, v = .slice none n c → n = 0 ∧ c = 0

section
variable {P : Program} {W : World} {H : Type} {enc : TypeId × Value → H}
theorem wordsArg_of {t e : TypeId} (ht : P.underlying t = some (.slice e)) (he : P.underlying e = some .string) (hc : P.cellsOf e = 1) {a : Option Addr} {n c : Nat} {d : DataW H} {ps : List MemPlace}
    (h : DataW.Trod enc P W 0 (fun _ => true) true t (.slice a n c) d ps) : ∃ l, WordsArg W (.slice a n c) l := by
  obtain ⟨fuel, hf⟩ := h
  rcases open_strings ht he hc hf with ⟨hcs, _⟩ | ⟨x, len, cap, ss, hcs, _, hl, hm, hz, _, hcell, hws⟩
  · simp [Value.cells] at hcs
    obtain ⟨rfl, rfl, rfl⟩ := hcs
    exact ⟨[], ⟨none, 0, rfl, by simp, fun j x hj => by simp at hj⟩, fun n c e => by cases e; exact ⟨rfl, rfl⟩⟩
  · simp [Value.cells] at hcs
    obtain ⟨rfl, rfl, rfl⟩ := hcs
    simp at hz
    refine ⟨ss.take n, ⟨some x, c, by simp; omega, by simp; omega, fun j s hj => ?_⟩, fun n c e => by cases e⟩
    have hjn : j < n := by
      have := (List.getElem?_eq_some_iff.1 hj).1
      simp at this; omega
    have h1 := hcell j (by omega)
    have h10 := hcell 0 (by omega)
    obtain ⟨b, off, spot⟩ := x
    have hs : spot = none := by simpa [Addr.add] using World.cell?_spot h10
    subst hs
    rw [addr_add] at h1
    refine ⟨b, off, rfl, World.block_lt_of_cell? W _ h1, ?_, hws s (List.mem_of_mem_take (List.mem_of_getElem? hj))⟩
    rw [h1]
    rw [List.getElem?_take, if_pos hjn] at hj
    rw [List.getD_eq_getElem?_getD, hj]; rfl
end
end Go.Proofs.Ytiidagdapckgjaa
