/-
  What the arguments' readings say, in the words of the walks: sets, entries, acts.
-/
import Derived.Test.YtbjdndialiddpaaALaw2
namespace Go.Proofs.Ytbjdndialiddpaa
open Go.ChangeShapes Go.WideShapes Go.ChangeAt Go.RowKit

theorem Try.cellsEntry : Try.prog.cellsOf 36 = 2 := by kernel_rfl
theorem Try.cellsSet : Try.prog.cellsOf 34 = 1 := by kernel_rfl
section
variable {W : World} {H : Type} {enc : TypeId × Value → H}
theorem setCell_of {fuel : Nat} {cs : List Value} {x : DataW H × List MemPlace} (h : DataW.trod enc Try.prog W 0 (fun _ => true) true fuel 34 cs = some x) :
    ∃ v l, cs = [v] ∧ SetAt W v (· < W.heap.size) l := by
  rcases open_strings Try.underlying34 Try.underlying40 Try.cellsWord h with ⟨hcs, _⟩ | ⟨a, len, cap, ss, hcs, _, hl, hm, hz, _, hcell, hws⟩
  · exact ⟨_, [], hcs, ⟨none, 0, rfl, by simp, fun j x hj => by simp at hj⟩, fun n c e => by cases e; exact ⟨rfl, rfl⟩⟩
  · simp at hz
    have hl2 : (ss.take len).length = len := by simp; omega
    refine ⟨_, ss.take len, hcs, ⟨some a, cap, by rw [hl2], by rw [hl2]; omega, fun j s hj => ?_⟩, fun n c e => by cases e⟩
    have hjn : j < len := by
      have := (List.getElem?_eq_some_iff.1 hj).1
      omega
    have h1 := hcell j (by omega)
    have h10 := hcell 0 (by omega)
    obtain ⟨b, off, spot⟩ := a
    have hs : spot = none := by simpa [Addr.add] using World.cell?_spot h10
    subst hs
    rw [addr_add] at h1
    refine ⟨b, off, rfl, World.block_lt_of_cell? W _ h1, ?_, hws s (List.mem_of_mem_take (List.mem_of_getElem? hj))⟩
    rw [h1]
    rw [List.getElem?_take, if_pos hjn] at hj
    rw [List.getD_eq_getElem?_getD, hj]; rfl
theorem setArg_of {a : Option Addr} {m c : Nat} {d : DataW H} {ps : List MemPlace} (h : DataW.Trod enc Try.prog W 0 (fun _ => true) true 34 (.slice a m c) d ps) : ∃ l, SetAt W (.slice a m c) (· < W.heap.size) l := by
  obtain ⟨fuel, hf⟩ := h
  obtain ⟨u, l, e, hs⟩ := setCell_of (cs := [.slice a m c]) hf
  cases e
  exact ⟨l, hs⟩
set_option maxRecDepth 100000 in
theorem entry_of {fuel : Nat} {cs : List Value} {x : DataW H × List MemPlace} (h : DataW.trod enc Try.prog W 0 (fun _ => true) true fuel 36 cs = some x) :
    ∃ r : BEnt × Value, cs = [.int .i64 r.1.1, r.2] ∧ SetAt W r.2 (· < W.heap.size) r.1.2 := by
  obtain ⟨y0, y1, n, e, hl, t0, t1⟩ := trod_two Try.underlying36 h
  rw [Try.cellsEntry] at hl
  match cs, hl with
  | [c0, c1], _ =>
    simp only [Try.cellsInt, Try.cellsSet, List.drop_zero, List.drop_succ_cons, List.take_succ_cons, List.take_zero] at t0 t1
    obtain ⟨s, e0, f0, hs⟩ := DataW.trod_int Try.underlying3 t0
    obtain ⟨u, l, e1, hu⟩ := setCell_of t1
    simp at e0 e1
    subst e0 e1
    exact ⟨((s, l), c1), rfl, hu⟩
theorem entsArg_of {a : Option Addr} {n c : Nat} {d : DataW H} {ps : List MemPlace}
    (h : DataW.Trod enc Try.prog W 0 (fun _ => true) true 22 (.slice a n c) d ps) : ∃ L, EntsAt W (.slice a n c) (· < W.heap.size) L := by
  obtain ⟨fuel, hf⟩ := h
  have hf' : DataW.trod enc Try.prog W 0 (fun _ => true) true fuel 22 [.slice a n c] = some (d, ps) := hf
  rcases Deep.open_slice Try.underlying22 hf' with ⟨hcs, _⟩ | ⟨x, len, cap, m, k, D, Pl, hcs, _, hl, hm, hmm, hd, hel⟩
  · simp at hcs
    obtain ⟨rfl, rfl, rfl⟩ := hcs
    exact ⟨[], entsAt_nil _ _⟩
  · simp at hcs
    obtain ⟨rfl, rfl, rfl⟩ := hcs
    simp at hmm
    obtain rfl : c = m := hmm.symm
    rw [Try.cellsEntry] at hel
    have hv : ∀ i, i < c → ∃ v : BEnt × Value, W.cells? 0 (x.add (i * 2)) 2 = some [.int .i64 v.1.1, v.2] ∧ SetAt W v.2 (· < W.heap.size) v.1.2 := by
      intro i hi
      obtain ⟨cs, h1, h2⟩ := hel i hi
      obtain ⟨v, rfl, q⟩ := entry_of h2
      exact ⟨v, h1, q⟩
    have : Inhabited (BEnt × Value) := ⟨((0, []), undef)⟩
    obtain ⟨f, hf2⟩ := Deep.choose_lt hv
    have key : ∀ {α : Type} (g : Nat → α) (j : Nat) y, ((List.range n).map g)[j]? = some y → j < n ∧ y = g j := fun g j y hj => by
      rw [List.getElem?_map] at hj
      have hjn : j < n := by
        rcases Nat.lt_or_ge j n with h | h
        · exact h
        · rw [List.getElem?_eq_none (by simpa using h)] at hj; simp at hj
      rw [List.getElem?_range hjn] at hj
      simp at hj
      exact ⟨hjn, hj.symm⟩
    refine ⟨(List.range n).map fun i => (f i).1, (List.range n).map fun i => ((f i).1.1, (f i).2), some x, c, by simp, by simpa using hl, hm, (fun e => by cases e), ⟨by simp, fun j e y h1 h2 => ?_⟩, fun j u hj => ?_⟩
    · obtain ⟨h3, rfl⟩ := key _ j e h1
      obtain ⟨_, rfl⟩ := key _ j y h2
      exact ⟨rfl, (hf2 j (by omega)).2⟩
    · obtain ⟨k, r, hk, hq⟩ := ecells_at hj
      obtain ⟨hkn, rfl⟩ := key _ k r hk
      obtain ⟨h1, _⟩ := hf2 k (by omega)
      have g := (World.cells?_some h1).2.2
      have g0 := (World.cells?_some (hf2 0 (by omega)).1).2.2 0 (by decide)
      obtain ⟨b, off, spot⟩ := x
      have hs : spot = none := by simpa [Addr.add] using World.cell?_spot g0
      subst hs
      simp only [addr_add] at g
      have c0 := g 0 (by decide)
      have c1 := g 1 (by decide)
      refine ⟨b, off, rfl, World.block_lt_of_cell? W _ c0, ?_⟩
      rcases hq with ⟨rfl, rfl⟩ | ⟨rfl, rfl⟩
      · exact c0
      · rw [← Nat.add_assoc]; exact c1
end
/-- Acts, to be read. -/
def ActsAt (w : World) (v : Value) (G : Nat → Prop) (A : List (Int × BEnt)) : Prop :=
  ∃ la cap, v = .slice la A.length cap ∧ A.length ≤ maxLen ∧ ∀ (j : Nat) x, A[j]? = some x → ∃ g o sa sc, la = some ⟨g, o, none⟩ ∧ G g ∧ w.cell? ⟨g, o + j * 3, none⟩ = some (.int .i64 x.1) ∧ w.cell? ⟨g, o + j * 3 + 1, none⟩ = some (.int .i64 x.2.1) ∧ w.cell? ⟨g, o + j * 3 + 2, none⟩ = some (.slice sa x.2.2.length sc) ∧ SetAt w (.slice sa x.2.2.length sc) G x.2.2
theorem ActsAt.chg {S : Nat → Prop} {w w' : World} {v : Value} {G : Nat → Prop} {A : List (Int × BEnt)} (h : ActsAt w v G A) (hc : Chg S w w') (hs : ∀ k, G k → ¬ S k) : ActsAt w' v G A := by
  obtain ⟨la, cap, h1, h2, h3⟩ := h
  exact ⟨la, cap, h1, h2, fun j x hj => by
    obtain ⟨g, o, sa, sc, q1, q2, q3, q4, q5, q6⟩ := h3 j x hj
    exact ⟨g, o, sa, sc, q1, q2, cell_chg hc (hs g q2) q3, cell_chg hc (hs g q2) q4, cell_chg hc (hs g q2) q5, q6.chg hc hs⟩⟩
end Go.Proofs.Ytbjdndialiddpaa
