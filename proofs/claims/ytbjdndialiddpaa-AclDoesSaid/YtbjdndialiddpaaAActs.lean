/-
  What the arguments' readings say: acts of layer 16.
-/
import Derived.Test.YtbjdndialiddpaaAArgs
namespace Go.Proofs.Ytbjdndialiddpaa
open Go.ChangeShapes Go.WideShapes Go.ChangeAt Go.RowKit

theorem Try.cellsAct : Try.prog.cellsOf 38 = 3 := by kernel_rfl
section
variable {W : World} {H : Type} {enc : TypeId × Value → H}
set_option maxRecDepth 100000 in
theorem act_of {fuel : Nat} {cs : List Value} {x : DataW H × List MemPlace} (h : DataW.trod enc Try.prog W 0 (fun _ => true) true fuel 38 cs = some x) :
    ∃ r : Int × BEnt × Value, cs = [.int .i64 r.1, .int .i64 r.2.1.1, r.2.2] ∧ SetAt W r.2.2 (· < W.heap.size) r.2.1.2 := by
  obtain ⟨y0, y1, n, e, hl, t0, t1⟩ := trod_two Try.underlying38 h
  rw [Try.cellsAct] at hl
  match cs, hl with
  | [c0, c1, c2], _ =>
    simp only [Try.cellsInt, Try.cellsEntry, List.drop_zero, List.drop_succ_cons, List.take_succ_cons, List.take_zero] at t0 t1
    obtain ⟨s, e0, f0, hs⟩ := DataW.trod_int Try.underlying3 t0
    obtain ⟨r, e1, hu⟩ := entry_of t1
    simp at e0 e1
    obtain ⟨rfl, rfl⟩ := e1
    subst e0
    exact ⟨(s, r.1, r.2), rfl, hu⟩
theorem actsArg_of {a : Option Addr} {n c : Nat} {d : DataW H} {ps : List MemPlace}
    (h : DataW.Trod enc Try.prog W 0 (fun _ => true) true 23 (.slice a n c) d ps) : ∃ A, ActsAt W (.slice a n c) (· < W.heap.size) A := by
  obtain ⟨fuel, hf⟩ := h
  have hf' : DataW.trod enc Try.prog W 0 (fun _ => true) true fuel 23 [.slice a n c] = some (d, ps) := hf
  rcases Deep.open_slice Try.underlying23 hf' with ⟨hcs, _⟩ | ⟨x, len, cap, m, k, D, Pl, hcs, _, hl, hm, hmm, hd, hel⟩
  · simp at hcs
    obtain ⟨rfl, rfl, rfl⟩ := hcs
    exact ⟨[], none, 0, rfl, by simp, fun j x hj => by simp at hj⟩
  · simp at hcs
    obtain ⟨rfl, rfl, rfl⟩ := hcs
    simp at hmm
    obtain rfl : c = m := hmm.symm
    rw [Try.cellsAct] at hel
    have hv : ∀ i, i < c → ∃ v : Int × BEnt × Value, W.cells? 0 (x.add (i * 3)) 3 = some [.int .i64 v.1, .int .i64 v.2.1.1, v.2.2] ∧ SetAt W v.2.2 (· < W.heap.size) v.2.1.2 := by
      intro i hi
      obtain ⟨cs, h1, h2⟩ := hel i hi
      obtain ⟨v, rfl, q⟩ := act_of h2
      exact ⟨v, h1, q⟩
    have : Inhabited (Int × BEnt × Value) := ⟨(0, (0, []), undef)⟩
    obtain ⟨f, hf2⟩ := Deep.choose_lt hv
    refine ⟨(List.range n).map fun i => ((f i).1, (f i).2.1), some x, c, by simp, by simp; omega, fun j y hj => ?_⟩
    rw [List.getElem?_map] at hj
    have hjn : j < n := by
      rcases Nat.lt_or_ge j n with h | h
      · exact h
      · rw [List.getElem?_eq_none (by simpa using h)] at hj; simp at hj
    rw [List.getElem?_range hjn] at hj
    simp at hj
    subst hj
    obtain ⟨h1, h2⟩ := hf2 j (by omega)
    have g := (World.cells?_some h1).2.2
    have g0 := (World.cells?_some (hf2 0 (by omega)).1).2.2 0 (by decide)
    obtain ⟨b, off, spot⟩ := x
    have hs : spot = none := by simpa [Addr.add] using World.cell?_spot g0
    subst hs
    simp only [addr_add] at g
    have c0 := g 0 (by decide)
    have c1 := g 1 (by decide)
    have c2 := g 2 (by decide)
    obtain ⟨sa, sc, e3⟩ := h2.shape
    have e4 : W.cell? ⟨b, off + j * 3 + 2, none⟩ = some (f j).2.2 := c2
    rw [e3] at e4 h2
    exact ⟨b, off, sa, sc, rfl, World.block_lt_of_cell? W _ c0, c0, c1, e4, h2⟩
end
end Go.Proofs.Ytbjdndialiddpaa
