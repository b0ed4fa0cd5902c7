/-
  What the arguments' readings say: one certificate.
  What the arguments' readings say: certificates.
  What the arguments' readings say: sets, entries.
-/
import Derived.Test.YthdfplafihmejaaGreatCLike
import Derived.Test.YthdfplafihmejaaGreatRHelp
import Derived.Test.YthdfplafihmejaaGreatURun
import Derived.Test.YthdfplafihmejaaGreatAEnt
namespace Go.Proofs.YthdfplafihmejaaGreat
open Go.ChangeShapes Go.WideShapes Go.ChangeAt Go.RowKit

theorem Tryz.cellsCert : Tryz.prog.cellsOf 64 = 7 := by kernel_rfl
section
variable {W : World} {H : Type} {enc : TypeId × Value → H}
theorem setCell_of {fuel : Nat} {cs : List Value} {x : DataW H × List MemPlace} (h : DataW.trod enc Tryz.prog W 0 (fun _ => true) true fuel 26 cs = some x) :
  ∃ v l, cs = [v] ∧ SetAt W v (· < W.heap.size) l := by
 rcases open_strings Tryz.underlying26 Tryz.underlying57 Tryz.cellsWord h with ⟨hcs, _⟩ | ⟨a, len, cap, ss, hcs, _, hl, hm, hz, _, hcell, hws⟩
 ·exact ⟨_, [], hcs, ⟨none, 0, rfl, by simp, fun j x hj => by simp at hj⟩, fun n c e => by cases e; exact ⟨rfl, rfl⟩⟩
 ·simp at hz
  have hl2 : (ss.take len).length = len := by simp; omega
  refine ⟨_, ss.take len, hcs, ⟨some a, cap, by rw [hl2], by rw [hl2]; omega, fun j s hj => ?_⟩, fun n c e => by cases e⟩
  have hjn : j < len := by
   have := (List.getElem?_eq_some_iff.1 hj).1
   omega
  have h1 := hcell j (by omega)
  have h10 := hcell 0 (by omega)
  obtain ⟨b, off, spot⟩ := a
  have hs : spot = none := by simpa [Addr.add] using World.cell?_spot h10
  subst hs
  rw [addr_add] at h1
  refine ⟨b, off, rfl, World.block_lt_of_cell? W _ h1, ?_, hws s (List.mem_of_mem_take (List.mem_of_getElem? hj))⟩
  rw [h1]
  rw [List.getElem?_take, if_pos hjn] at hj
  rw [List.getD_eq_getElem?_getD, hj]; rfl
set_option maxRecDepth 100000 in
theorem cert_of {fuel : Nat} {cs : List Value} {x : DataW H × List MemPlace} (h : DataW.trod enc Tryz.prog W 0 (fun _ => true) true fuel 64 cs = some x) :
  ∃ (c : BCert) (sv : Value), cs = [.int .i64 c.kind, .int .u16 (c.sg : Int), .string c.sp, sv, .int .i64 c.f, .int .i64 c.t, .int .i64 c.n] ∧ CertAt W sv (· < W.heap.size) c := by
 obtain ⟨xs, n, _, rfl, hl, hlen, hf⟩ := DataW.trod_struct Tryz.underlying64 h
 rw [Tryz.cellsCert] at hl
 match cs, hl with
 | [c0, c1, c2, c3, c4, c5, c6], _ =>
  match xs, hlen with
  | [y0, y1, y2, y3, y4, y5, y6], _ =>
  have t0 : DataW.trod enc Tryz.prog W 0 (fun _ => true) true n 3 [c0] = some y0 := hf 0 _ rfl
  have t1 : DataW.trod enc Tryz.prog W 0 (fun _ => true) true n 62 [c1] = some y1 := hf 1 _ rfl
  have t2 : DataW.trod enc Tryz.prog W 0 (fun _ => true) true n 57 [c2] = some y2 := hf 2 _ rfl
  have t3 : DataW.trod enc Tryz.prog W 0 (fun _ => true) true n 26 [c3] = some y3 := hf 3 _ rfl
  have t4 : DataW.trod enc Tryz.prog W 0 (fun _ => true) true n 2 [c4] = some y4 := hf 4 _ rfl
  have t5 : DataW.trod enc Tryz.prog W 0 (fun _ => true) true n 2 [c5] = some y5 := hf 5 _ rfl
  have t6 : DataW.trod enc Tryz.prog W 0 (fun _ => true) true n 2 [c6] = some y6 := hf 6 _ rfl
  obtain ⟨k, e0, _, _⟩ := DataW.trod_int Tryz.underlying3 t0
  obtain ⟨sg, e1, _, hsg⟩ := DataW.trod_int Tryz.underlying62 t1
  obtain ⟨sp, e2, _, hsp⟩ := DataW.trod_string Tryz.underlying57 t2
  obtain ⟨sv, l, e3, hs⟩ := setCell_of t3
  obtain ⟨f, e4, _, _⟩ := DataW.trod_int Tryz.underlying2 t4
  obtain ⟨u, e5, _, _⟩ := DataW.trod_int Tryz.underlying2 t5
  obtain ⟨n, e6, _, _⟩ := DataW.trod_int Tryz.underlying2 t6
  simp at e0 e1 e2 e3 e4 e5 e6
  subst e0 e1 e2 e3 e4 e5 e6
  have hsg2 : 0 ≤ sg ∧ sg ≤ 65535 := by
   simp only [Lit.wf, Bool.and_eq_true, decide_eq_true_eq] at hsg
   exact hsg
  refine ⟨⟨k, sg.toNat, sp, l, f, u, n⟩, c3, ?_, ⟨hs, hsp, by simp only; omega⟩⟩
  simp only
  rw [show ((sg.toNat : Nat) : Int) = sg from by omega]
end
end Go.Proofs.YthdfplafihmejaaGreat

namespace Go.Proofs.YthdfplafihmejaaGreat
open Go.ChangeShapes Go.WideShapes Go.ChangeAt Go.RowKit

theorem Tryz.bytesCert : Tryz.prog.bytesOf 64 = 80 := by kernel_rfl
def CertsFit (P : List (BCert × Value)) : Prop := P.length * 80 ≤ 140737488351232
/-- Certificates that came in. -/
structure CertsArg (w : World) (v : Value) (P : List (BCert × Value)) : Prop where
 at_ : CertsAt w v (· < w.heap.size) P
 nil : ∀ n c, v = .slice none n c → n = 0 ∧ c = 0
 fit : ∀ a n c, v = .slice a n c → n ≤ c
theorem certsArg_of {W : World} {H : Type} {enc : TypeId × Value → H} {a : Option Addr} {n c : Nat} {d : DataW H} {ps : List MemPlace}
  (h : DataW.Trod enc Tryz.prog W 0 (fun _ => true) true 23 (.slice a n c) d ps) : ∃ P, CertsArg W (.slice a n c) P ∧ ((∀ x ∈ d.weights Tryz.prog 23, x ≤ reachBytes) → CertsFit P) := by
 obtain ⟨fuel, hf⟩ := h
 have hf' : DataW.trod enc Tryz.prog W 0 (fun _ => true) true fuel 23 [.slice a n c] = some (d, ps) := hf
 rcases Deep.open_slice Tryz.underlying23 hf' with ⟨hcs, _⟩ | ⟨x, len, cap, m, k, D, Pl, hcs, _, hl, hm, hmm, hd, hel⟩
 ·simp at hcs
  obtain ⟨rfl, rfl, rfl⟩ := hcs
  exact ⟨[], ⟨⟨none, 0, rfl, by simp, fun j x hj => by simp at hj⟩, (fun n c e => by cases e; exact ⟨rfl, rfl⟩), fun a n c e => by cases e; exact Nat.le_refl _⟩, fun _ => by unfold CertsFit; simp⟩
 ·simp at hcs
  obtain ⟨rfl, rfl, rfl⟩ := hcs
  simp at hmm
  obtain rfl : c = m := hmm.symm
  rw [Tryz.cellsCert] at hel
  have hv : ∀ i, i < c → ∃ v : BCert × Value, W.cells? 0 (x.add (i * 7)) 7 = some [.int .i64 v.1.kind, .int .u16 (v.1.sg : Int), .string v.1.sp, v.2, .int .i64 v.1.f, .int .i64 v.1.t, .int .i64 v.1.n] ∧ CertAt W v.2 (· < W.heap.size) v.1 := by
   intro i hi
   obtain ⟨cs, h1, h2⟩ := hel i hi
   obtain ⟨v, sv, rfl, q⟩ := cert_of h2
   exact ⟨(v, sv), h1, q⟩
  have : Inhabited (BCert × Value) := ⟨(noC, undef)⟩
  obtain ⟨f, hf2⟩ := Deep.choose_lt hv
  have key : ∀ (j : Nat) y, ((List.range n).map f)[j]? = some y → j < n ∧ y = f j := fun j y hj => by
   rw [List.getElem?_map] at hj
   have hjn : j < n := by
    rcases Nat.lt_or_ge j n with h | h
    ·exact h
    ·rw [List.getElem?_eq_none (by simpa using h)] at hj; simp at hj
   rw [List.getElem?_range hjn] at hj
   simp at hj
   exact ⟨hjn, hj.symm⟩
  refine ⟨(List.range n).map f, ⟨⟨some x, c, by simp, by simp; omega, fun j y hj => ?_⟩, (fun n c e => by cases e), fun a n' c' e => by cases e; omega⟩, fun hw => ?_⟩
  ·obtain ⟨hjn, rfl⟩ := key j y hj
   obtain ⟨h1, h2⟩ := hf2 j (by omega)
   have g := (World.cells?_some h1).2.2
   have g0 := (World.cells?_some (hf2 0 (by omega)).1).2.2 0 (by decide)
   obtain ⟨b, off, spot⟩ := x
   have hs : spot = none := by simpa [Addr.add] using World.cell?_spot g0
   subst hs
   simp only [addr_add] at g
   have c0 := g 0 (by decide)
   have c1 := g 1 (by decide)
   have c2 := g 2 (by decide)
   have c3 := g 3 (by decide)
   have c4 := g 4 (by decide)
   have c5 := g 5 (by decide)
   have c6 := g 6 (by decide)
   obtain ⟨sa, sc, e3⟩ := h2.set.shape
   have e4 : W.cell? ⟨b, off + j * 7 + 3, none⟩ = some (f j).2 := c3
   rw [e3] at e4 h2
   exact ⟨b, off, sa, sc, rfl, World.block_lt_of_cell? W _ c0, e3, c0, c1, c2, e4, c4, c5, c6, h2⟩
  ·have hd2 : d = .slice ((List.range n).map D) ((List.range (c - n)).map fun j => D (n + j)) := congrArg Prod.fst hd
   subst hd2
   simp only [DataW.weights, Tryz.underlying23, List.mem_cons, List.mem_append] at hw
   have hr : reachBytes = 140737488351232 := rfl
   have q1 := hw _ (.inl rfl)
   rw [Tryz.bytesCert] at q1
   unfold CertsFit
   simp only [List.length_map, List.length_range] at q1 ⊢
   have : n * 80 ≤ (n + (c - n)) * 80 := Nat.mul_le_mul_right _ (by omega)
   omega
/-- One certificate that came in. -/
def CertArg (w : World) (v : Value) (p : BCert × Value) : Prop := v = certV p.1 p.2 ∧ ∃ sa sc, p.2 = .slice sa p.1.fr.length sc ∧ CertAt w (.slice sa p.1.fr.length sc) (· < w.heap.size) p.1
theorem certArg_of {W : World} {H : Type} {enc : TypeId × Value → H} {cs : Array Value} {d : DataW H} {ps : List MemPlace} (h : DataW.Trod enc Tryz.prog W 0 (fun _ => true) true 64 (.agg cs) d ps) : ∃ p, CertArg W (.agg cs) p := by
 obtain ⟨fuel, hf⟩ := h
 obtain ⟨c, sv, e, hc⟩ := cert_of hf
 have e' : cs.toList = [.int .i64 c.kind, .int .u16 (c.sg : Int), .string c.sp, sv, .int .i64 c.f, .int .i64 c.t, .int .i64 c.n] := e
 have e2 : cs = #[.int .i64 c.kind, .int .u16 (c.sg : Int), .string c.sp, sv, .int .i64 c.f, .int .i64 c.t, .int .i64 c.n] := Array.toList_inj.1 e'
 obtain ⟨sa, sc, e3⟩ := hc.set.shape
 refine ⟨(c, sv), by rw [e2]; rfl, sa, sc, e3, ?_⟩
 rw [← e3]; exact hc
end Go.Proofs.YthdfplafihmejaaGreat

namespace Go.Proofs.YthdfplafihmejaaGreat
open Go.ChangeShapes Go.WideShapes Go.ChangeAt Go.RowKit

theorem Tryz.cellsEntry : Tryz.prog.cellsOf 56 = 2 := by kernel_rfl
theorem Tryz.cellsSet : Tryz.prog.cellsOf 26 = 1 := by kernel_rfl
section
variable {W : World} {H : Type} {enc : TypeId × Value → H}
theorem setArg_of {a : Option Addr} {m c : Nat} {d : DataW H} {ps : List MemPlace} (h : DataW.Trod enc Tryz.prog W 0 (fun _ => true) true 26 (.slice a m c) d ps) : ∃ l, SetAt W (.slice a m c) (· < W.heap.size) l := by
 obtain ⟨fuel, hf⟩ := h
 obtain ⟨u, l, e, hs⟩ := setCell_of (cs := [.slice a m c]) hf
 cases e
 exact ⟨l, hs⟩
set_option maxRecDepth 100000 in
theorem entry_of {fuel : Nat} {cs : List Value} {x : DataW H × List MemPlace} (h : DataW.trod enc Tryz.prog W 0 (fun _ => true) true fuel 56 cs = some x) :
  ∃ r : BEnt × Value, cs = [.int .i64 r.1.1, r.2] ∧ SetAt W r.2 (· < W.heap.size) r.1.2 := by
 obtain ⟨y0, y1, n, e, hl, t0, t1⟩ := trod_two Tryz.underlying56 h
 rw [Tryz.cellsEntry] at hl
 match cs, hl with
 | [c0, c1], _ =>
  simp only [Tryz.cellsInt, Tryz.cellsSet, List.drop_zero, List.drop_succ_cons, List.take_succ_cons, List.take_zero] at t0 t1
  obtain ⟨s, e0, f0, hs⟩ := DataW.trod_int Tryz.underlying3 t0
  obtain ⟨u, l, e1, hu⟩ := setCell_of t1
  simp at e0 e1
  subst e0 e1
  exact ⟨((s, l), c1), rfl, hu⟩
theorem entsArg_of {a : Option Addr} {n c : Nat} {d : DataW H} {ps : List MemPlace}
  (h : DataW.Trod enc Tryz.prog W 0 (fun _ => true) true 24 (.slice a n c) d ps) : ∃ L, EntsAt W (.slice a n c) (· < W.heap.size) L := by
 obtain ⟨fuel, hf⟩ := h
 have hf' : DataW.trod enc Tryz.prog W 0 (fun _ => true) true fuel 24 [.slice a n c] = some (d, ps) := hf
 rcases Deep.open_slice Tryz.underlying24 hf' with ⟨hcs, _⟩ | ⟨x, len, cap, m, k, D, Pl, hcs, _, hl, hm, hmm, hd, hel⟩
 ·simp at hcs
  obtain ⟨rfl, rfl, rfl⟩ := hcs
  exact ⟨[], entsAt_nil _ _⟩
 ·simp at hcs
  obtain ⟨rfl, rfl, rfl⟩ := hcs
  simp at hmm
  obtain rfl : c = m := hmm.symm
  rw [Tryz.cellsEntry] at hel
  have hv : ∀ i, i < c → ∃ v : BEnt × Value, W.cells? 0 (x.add (i * 2)) 2 = some [.int .i64 v.1.1, v.2] ∧ SetAt W v.2 (· < W.heap.size) v.1.2 := by
   intro i hi
   obtain ⟨cs, h1, h2⟩ := hel i hi
   obtain ⟨v, rfl, q⟩ := entry_of h2
   exact ⟨v, h1, q⟩
  have : Inhabited (BEnt × Value) := ⟨((0, []), undef)⟩
  obtain ⟨f, hf2⟩ := Deep.choose_lt hv
  have key : ∀ {α : Type} (g : Nat → α) (j : Nat) y, ((List.range n).map g)[j]? = some y → j < n ∧ y = g j := fun g j y hj => by
   rw [List.getElem?_map] at hj
   have hjn : j < n := by
    rcases Nat.lt_or_ge j n with h | h
    ·exact h
    ·rw [List.getElem?_eq_none (by simpa using h)] at hj; simp at hj
   rw [List.getElem?_range hjn] at hj
   simp at hj
   exact ⟨hjn, hj.symm⟩
  refine ⟨(List.range n).map fun i => (f i).1, (List.range n).map fun i => ((f i).1.1, (f i).2), some x, c, by simp, by simpa using hl, hm, (fun e => by cases e), ⟨by simp, fun j e y h1 h2 => ?_⟩, fun j u hj => ?_⟩
  ·obtain ⟨h3, rfl⟩ := key _ j e h1
   obtain ⟨_, rfl⟩ := key _ j y h2
   exact ⟨rfl, (hf2 j (by omega)).2⟩
  ·obtain ⟨k, r, hk, hq⟩ := ecells_at hj
   obtain ⟨hkn, rfl⟩ := key _ k r hk
   obtain ⟨h1, _⟩ := hf2 k (by omega)
   have g := (World.cells?_some h1).2.2
   have g0 := (World.cells?_some (hf2 0 (by omega)).1).2.2 0 (by decide)
   obtain ⟨b, off, spot⟩ := x
   have hs : spot = none := by simpa [Addr.add] using World.cell?_spot g0
   subst hs
   simp only [addr_add] at g
   have c0 := g 0 (by decide)
   have c1 := g 1 (by decide)
   refine ⟨b, off, rfl, World.block_lt_of_cell? W _ c0, ?_⟩
   rcases hq with ⟨rfl, rfl⟩ | ⟨rfl, rfl⟩
   ·exact c0
   ·rw [← Nat.add_assoc]; exact c1
end
end Go.Proofs.YthdfplafihmejaaGreat
