/-
  A list of acts, as it is read.
-/
import Derived.Test.YtnmgnhhipgiggaaArgs
import Derived.Test.YtnmgnhhipgiggaaJDead
import Derived.Lib.SmallJoins
namespace Go.Proofs.Ytnmgnhhipgiggaa
open Go.ChangeShapes Go.WideShapes Go.ChangeAt Go.RowKit

theorem Try.cells3 : Try.prog.cellsOf 3 = 1 := by kernel_rfl
theorem Try.cells9 : Try.prog.cellsOf 9 = 1 := by kernel_rfl
theorem Try.cells35 : Try.prog.cellsOf 35 = 1 := by kernel_rfl
theorem Try.cells37 : Try.prog.cellsOf 37 = 4 := by kernel_rfl

theorem act_of {W : World} {H : Type} {enc : TypeId × Value → H} {fuel : Nat} {cs : List Value} {x : DataW H × List MemPlace} (h : DataW.trod enc Try.prog W 0 (fun _ => true) true fuel 37 cs = some x) :
    ∃ v : ActV, cs = [.int .i64 v.kind, .string v.s, .int .i64 v.n, v.kv] ∧ v.s.size ≤ maxLen ∧ v.n ≤ 9223372036854775807 ∧ BoolsAt W v.kv (· < W.heap.size) v.keep := by
  obtain ⟨y0, y1, y2, y3, n, _, hl, t0, t1, t2, t3⟩ := Joins.trod_struct4 Try.underlying37 h
  rw [Try.cells37] at hl
  match cs, hl with
  | [c0, c1, c2, c3], _ =>
    simp only [Try.cells3, Try.cells9, Try.cells35, List.drop_zero, List.drop_succ_cons, List.take_succ_cons, List.take_zero] at t0 t1 t2 t3
    obtain ⟨k, e0, _, _⟩ := DataW.trod_int Try.underlying3 t0
    obtain ⟨s, e1, _, hs⟩ := DataW.trod_string Try.underlying9 t1
    obtain ⟨m, e2, _, hm⟩ := DataW.trod_int Try.underlying3 t2
    obtain ⟨a, l, c, e3⟩ := Joins.slice_form Try.underlying35 t3
    simp at e0 e1 e2 e3
    subst e0 e1 e2 e3
    obtain ⟨keep, hk⟩ := boolsAt_of Try.underlying35 Try.underlying4 (by kernel_rfl) t3
    exact ⟨⟨k, s, m, _, keep⟩, rfl, hs, (bounds_i64 hm).2, hk⟩

theorem actsAt_of {W : World} {H : Type} {enc : TypeId × Value → H} {a : Option Addr} {n c : Nat} {d : DataW H} {ps : List MemPlace}
    (h : DataW.Trod enc Try.prog W 0 (fun _ => true) true 22 (.slice a n c) d ps) : ∃ l, ActsAt W (.slice a n c) (· < W.heap.size) l := by
  obtain ⟨fuel, hf⟩ := h
  have hf' : DataW.trod enc Try.prog W 0 (fun _ => true) true fuel 22 [.slice a n c] = some (d, ps) := hf
  rcases Deep.open_slice Try.underlying22 hf' with ⟨hcs, _⟩ | ⟨x, len, cap, m, k, D, Pl, hcs, _, hl, hm, hmm, _, hel⟩
  · simp at hcs
    obtain ⟨rfl, rfl, rfl⟩ := hcs
    exact ⟨[], none, 0, rfl, by simp, fun j x hj => by simp at hj⟩
  · simp at hcs
    obtain ⟨rfl, rfl, rfl⟩ := hcs
    simp at hmm
    obtain rfl : c = m := hmm.symm
    rw [Try.cells37] at hel
    have hv : ∀ i, i < c → ∃ v : ActV, W.cells? 0 (x.add (i * 4)) 4 = some [.int .i64 v.kind, .string v.s, .int .i64 v.n, v.kv] ∧ v.s.size ≤ maxLen ∧ v.n ≤ 9223372036854775807 ∧ BoolsAt W v.kv (· < W.heap.size) v.keep := by
      intro i hi
      obtain ⟨cs, h1, h2⟩ := hel i hi
      obtain ⟨v, rfl, q⟩ := act_of h2
      exact ⟨v, h1, q⟩
    have : Inhabited ActV := ⟨⟨0, ByteArray.empty, 0, undef, []⟩⟩
    obtain ⟨f, hf2⟩ := Deep.choose_lt hv
    refine ⟨(List.range n).map f, some x, c, by simp, by simp; omega, fun j y hj => ?_⟩
    rw [List.getElem?_map] at hj
    have hjn : j < n := by
      rcases Nat.lt_or_ge j n with h | h
      · exact h
      · rw [List.getElem?_eq_none (by simpa using h)] at hj; simp at hj
    rw [List.getElem?_range hjn] at hj
    simp at hj
    subst hj
    obtain ⟨h1, h2, h3, h4⟩ := hf2 j (by omega)
    have g := (World.cells?_some h1).2.2
    have g0 := (World.cells?_some (hf2 0 (by omega)).1).2.2 0 (by decide)
    obtain ⟨b, off, spot⟩ := x
    have hs : spot = none := by simpa [Addr.add] using World.cell?_spot g0
    subst hs
    simp only [addr_add] at g
    have c0 := g 0 (by decide)
    have c1 := g 1 (by decide)
    have c2 := g 2 (by decide)
    have c3 := g 3 (by decide)
    exact ⟨b, off, rfl, World.block_lt_of_cell? W _ c0, c0, c1, c2, c3, h2, h3, h4⟩
end Go.Proofs.Ytnmgnhhipgiggaa
