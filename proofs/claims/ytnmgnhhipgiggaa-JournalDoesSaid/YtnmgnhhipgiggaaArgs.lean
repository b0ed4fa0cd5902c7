/-
  What the arguments' readings say, in the words of the walks.
-/
import Derived.Test.YtnmgnhhipgiggaaRows
import Derived.Test.YtnmgnhhipgiggaaJSame
import Derived.ProofKit
import Derived.OpenShut
import Derived.ShutString
import Derived.ChangeOld
import Derived.Deep.Slices
namespace Go.Proofs.Ytnmgnhhipgiggaa
open Go.ChangeShapes Go.WideShapes Go.ChangeAt Go.RowKit

theorem Try.own : ownKnob Try.prog.godebug = none := by kernel_rfl
theorem Try.laidOut : laidOutB Try.prog = true := by kernel_rfl

section
variable {P : Program} {W : World} {H : Type} {enc : TypeId × Value → H}
theorem strsAt_of {t e : TypeId} (ht : P.underlying t = some (.slice e)) (he : P.underlying e = some .string) (hc : P.cellsOf e = 1) {a : Option Addr} {n c : Nat} {d : DataW H} {ps : List MemPlace}
    (h : DataW.Trod enc P W 0 (fun _ => true) true t (.slice a n c) d ps) : ∃ l, StrsAt W (.slice a n c) (· < W.heap.size) l := by
  obtain ⟨fuel, hf⟩ := h
  rcases open_strings ht he hc hf with ⟨hcs, _⟩ | ⟨x, len, cap, ss, hcs, _, hl, hm, hz, _, hcell, hws⟩
  · simp [Value.cells] at hcs
    obtain ⟨rfl, rfl, rfl⟩ := hcs
    exact ⟨[], none, 0, rfl, by simp, by simp, fun j hj => by simp at hj⟩
  · simp [Value.cells] at hcs
    obtain ⟨rfl, rfl, rfl⟩ := hcs
    simp at hz
    refine ⟨ss.take n, some x, c, by simp; omega, by simp; omega, fun s hs => hws s (List.mem_of_mem_take hs), fun j hj => ?_⟩
    simp at hj
    have h1 := hcell j (by omega)
    have h10 := hcell 0 (by omega)
    obtain ⟨b, off, spot⟩ := x
    have hs : spot = none := by simpa [Addr.add] using World.cell?_spot h10
    subst hs
    rw [addr_add] at h1
    refine ⟨b, off, rfl, World.block_lt_of_cell? W _ h1, ?_⟩
    rw [h1]
    congr 2
    rw [List.getD_eq_getElem?_getD, List.getD_eq_getElem?_getD, List.getElem?_take, if_pos (by omega)]
theorem boolsAt_of {t e : TypeId} (ht : P.underlying t = some (.slice e)) (he : P.underlying e = some .bool) (hc : P.cellsOf e = 1) {a : Option Addr} {n c : Nat} {fuel : Nat} {x : DataW H × List MemPlace}
    (hf : DataW.trod enc P W 0 (fun _ => true) true fuel t [.slice a n c] = some x) : ∃ l, BoolsAt W (.slice a n c) (· < W.heap.size) l := by
  rcases Deep.open_slice1 ht hc hf with ⟨hcs, _⟩ | ⟨x, len, cap, m, k, V, D, Pl, hcs, _, hl, hm, hmm, _, hel⟩
  · simp at hcs
    obtain ⟨rfl, rfl, rfl⟩ := hcs
    exact ⟨[], boolsAt_nil _ _⟩
  · simp at hcs
    obtain ⟨rfl, rfl, rfl⟩ := hcs
    simp at hmm
    obtain rfl : c = m := hmm.symm
    have hb : ∀ i, i < c → ∃ b, V i = .bool b := by
      intro i hi
      have h2 := (hel i hi).2
      obtain ⟨b, hb, _⟩ := DataW.trod_bool he h2
      simp at hb; exact ⟨b, hb⟩
    obtain ⟨f, hfb⟩ := Deep.choose_lt hb
    refine ⟨(List.range n).map f, some x, c, by simp, by simp; omega, fun j hj => ?_⟩
    simp at hj
    have h1 := (hel j (by omega)).1
    have h10 := (hel 0 (by omega)).1
    obtain ⟨b, off, spot⟩ := x
    have hs : spot = none := by simpa [Addr.add] using World.cell?_spot h10
    subst hs
    rw [addr_add] at h1
    refine ⟨b, off, rfl, World.block_lt_of_cell? W _ h1, ?_⟩
    rw [h1, hfb j (by omega)]
    congr 2
    rw [List.getD_eq_getElem?_getD, List.getElem?_map, List.getElem?_range hj]; rfl
end
end Go.Proofs.Ytnmgnhhipgiggaa
