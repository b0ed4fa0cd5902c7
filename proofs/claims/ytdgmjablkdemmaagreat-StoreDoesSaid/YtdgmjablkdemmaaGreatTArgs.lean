/-
  What the arguments' readings say: certificates, acts of layer 15.
-/
import Derived.Test.YtdgmjablkdemmaaGreatTCerts
import Derived.Test.YtdgmjablkdemmaaGreatRArgs
import Derived.Test.YtdgmjablkdemmaaGreatCArg
namespace Go.Proofs.YtdgmjablkdemmaaGreat
open Go.ChangeShapes Go.WideShapes Go.ChangeAt Go.RowKit

/-- An act, to be read. -/
structure BAct where
  kind : Int
  c : BCert
  t : Int
def ActsAt (w : World) (v : Value) (G : Nat → Prop) (A : List BAct) : Prop :=
  ∃ la cap, v = .slice la A.length cap ∧ A.length ≤ maxLen ∧ ∀ (j : Nat) x, A[j]? = some x → ∃ g o sa sc, la = some ⟨g, o, none⟩ ∧ G g ∧ w.cell? ⟨g, o + j * 9, none⟩ = some (.int .i64 x.kind) ∧
    w.cell? ⟨g, o + j * 9 + 1, none⟩ = some (.int .i64 x.c.kind) ∧ w.cell? ⟨g, o + j * 9 + 2, none⟩ = some (.int .u16 (x.c.sg : Int)) ∧ w.cell? ⟨g, o + j * 9 + 3, none⟩ = some (.string x.c.sp) ∧ w.cell? ⟨g, o + j * 9 + 4, none⟩ = some (.slice sa x.c.fr.length sc) ∧
    w.cell? ⟨g, o + j * 9 + 5, none⟩ = some (.int .i64 x.c.f) ∧ w.cell? ⟨g, o + j * 9 + 6, none⟩ = some (.int .i64 x.c.t) ∧ w.cell? ⟨g, o + j * 9 + 7, none⟩ = some (.int .i64 x.c.n) ∧ w.cell? ⟨g, o + j * 9 + 8, none⟩ = some (.int .i64 x.t) ∧ CertAt w (.slice sa x.c.fr.length sc) G x.c
theorem ActsAt.chg {S : Nat → Prop} {w w' : World} {v : Value} {G : Nat → Prop} {A : List BAct} (h : ActsAt w v G A) (hc : Chg S w w') (hs : ∀ k, G k → ¬ S k) : ActsAt w' v G A := by
  obtain ⟨la, cap, h1, h2, h3⟩ := h
  exact ⟨la, cap, h1, h2, fun j x hj => by
    obtain ⟨g, o, sa, sc, q1, q2, q3, q4, q5, q6, q7, q8, q9, q10, q11, q12⟩ := h3 j x hj
    have n := hs g q2
    exact ⟨g, o, sa, sc, q1, q2, cell_chg hc n q3, cell_chg hc n q4, cell_chg hc n q5, cell_chg hc n q6, cell_chg hc n q7, cell_chg hc n q8, cell_chg hc n q9, cell_chg hc n q10, cell_chg hc n q11, q12.chg hc hs⟩⟩
theorem Tryz.cellsAct15 : Tryz.prog.cellsOf 36 = 9 := by kernel_rfl
section
variable {W : World} {H : Type} {enc : TypeId × Value → H}
set_option maxRecDepth 100000 in
theorem act15_of {fuel : Nat} {cs : List Value} {x : DataW H × List MemPlace} (h : DataW.trod enc Tryz.prog W 0 (fun _ => true) true fuel 36 cs = some x) :
    ∃ r : BAct × Value, cs = [.int .i64 r.1.kind, .int .i64 r.1.c.kind, .int .u16 (r.1.c.sg : Int), .string r.1.c.sp, r.2, .int .i64 r.1.c.f, .int .i64 r.1.c.t, .int .i64 r.1.c.n, .int .i64 r.1.t] ∧ CertAt W r.2 (· < W.heap.size) r.1.c := by
  obtain ⟨xs, n, _, rfl, hl, hlen, hf⟩ := DataW.trod_struct Tryz.underlying36 h
  rw [Tryz.cellsAct15] at hl
  match cs, hl with
  | [c0, c1, c2, c3, c4, c5, c6, c7, c8], _ =>
    match xs, hlen with
    | [y0, y1, y2], _ =>
    have t0 : DataW.trod enc Tryz.prog W 0 (fun _ => true) true n 3 [c0] = some y0 := hf 0 _ rfl
    have t1 : DataW.trod enc Tryz.prog W 0 (fun _ => true) true n 34 [c1, c2, c3, c4, c5, c6, c7] = some y1 := hf 1 _ rfl
    have t2 : DataW.trod enc Tryz.prog W 0 (fun _ => true) true n 2 [c8] = some y2 := hf 2 _ rfl
    obtain ⟨k, e0, _, _⟩ := DataW.trod_int Tryz.underlying3 t0
    obtain ⟨c, sv, e1, hc⟩ := cert_of t1
    obtain ⟨u, e2, _, _⟩ := DataW.trod_int Tryz.underlying2 t2
    simp at e0 e1 e2
    obtain ⟨rfl, rfl, rfl, rfl, rfl, rfl, rfl⟩ := e1
    subst e0 e2
    exact ⟨(⟨k, c, u⟩, _), rfl, hc⟩
theorem actsArg_of {a : Option Addr} {n c : Nat} {d : DataW H} {ps : List MemPlace}
    (h : DataW.Trod enc Tryz.prog W 0 (fun _ => true) true 22 (.slice a n c) d ps) : ∃ A, ActsAt W (.slice a n c) (· < W.heap.size) A := by
  obtain ⟨fuel, hf⟩ := h
  have hf' : DataW.trod enc Tryz.prog W 0 (fun _ => true) true fuel 22 [.slice a n c] = some (d, ps) := hf
  rcases Deep.open_slice Tryz.underlying22 hf' with ⟨hcs, _⟩ | ⟨x, len, cap, m, k, D, Pl, hcs, _, hl, hm, hmm, hd, hel⟩
  · simp at hcs
    obtain ⟨rfl, rfl, rfl⟩ := hcs
    exact ⟨[], none, 0, rfl, by simp, fun j x hj => by simp at hj⟩
  · simp at hcs
    obtain ⟨rfl, rfl, rfl⟩ := hcs
    simp at hmm
    obtain rfl : c = m := hmm.symm
    rw [Tryz.cellsAct15] at hel
    have hv : ∀ i, i < c → ∃ v : BAct × Value, W.cells? 0 (x.add (i * 9)) 9 = some [.int .i64 v.1.kind, .int .i64 v.1.c.kind, .int .u16 (v.1.c.sg : Int), .string v.1.c.sp, v.2, .int .i64 v.1.c.f, .int .i64 v.1.c.t, .int .i64 v.1.c.n, .int .i64 v.1.t] ∧ CertAt W v.2 (· < W.heap.size) v.1.c := by
      intro i hi
      obtain ⟨cs, h1, h2⟩ := hel i hi
      obtain ⟨v, rfl, q⟩ := act15_of h2
      exact ⟨v, h1, q⟩
    have : Inhabited (BAct × Value) := ⟨(⟨0, zeroC, 0⟩, undef)⟩
    obtain ⟨f, hf2⟩ := Deep.choose_lt hv
    refine ⟨(List.range n).map fun i => (f i).1, some x, c, by simp, by simp; omega, fun j y hj => ?_⟩
    rw [List.getElem?_map] at hj
    have hjn : j < n := by
      rcases Nat.lt_or_ge j n with h | h
      · exact h
      · rw [List.getElem?_eq_none (by simpa using h)] at hj; simp at hj
    rw [List.getElem?_range hjn] at hj
    simp at hj
    subst hj
    obtain ⟨h1, h2⟩ := hf2 j (by omega)
    have g := (World.cells?_some h1).2.2
    have g0 := (World.cells?_some (hf2 0 (by omega)).1).2.2 0 (by decide)
    obtain ⟨b, off, spot⟩ := x
    have hs : spot = none := by simpa [Addr.add] using World.cell?_spot g0
    subst hs
    simp only [addr_add] at g
    have c0 := g 0 (by decide)
    have c1 := g 1 (by decide)
    have c2 := g 2 (by decide)
    have c3 := g 3 (by decide)
    have c4 := g 4 (by decide)
    have c5 := g 5 (by decide)
    have c6 := g 6 (by decide)
    have c7 := g 7 (by decide)
    have c8 := g 8 (by decide)
    obtain ⟨sa, sc, e3⟩ := h2.set.shape
    have e4 : W.cell? ⟨b, off + j * 9 + 4, none⟩ = some (f j).2 := c4
    rw [e3] at e4 h2
    exact ⟨b, off, sa, sc, rfl, World.block_lt_of_cell? W _ c0, c0, c1, c2, c3, e4, c5, c6, c7, c8, h2⟩
end
end Go.Proofs.YtdgmjablkdemmaaGreat
