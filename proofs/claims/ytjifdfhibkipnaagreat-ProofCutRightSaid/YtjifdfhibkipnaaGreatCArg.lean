/-
  What the arguments' readings say: one certificate.
-/
import Derived.Test.YtjifdfhibkipnaaGreatCLike
import Derived.Test.YtjifdfhibkipnaaGreatRArgs
namespace Go.Proofs.YtjifdfhibkipnaaGreat
open Go.ChangeShapes Go.WideShapes Go.ChangeAt Go.RowKit

theorem Tryz.cellsCert : Tryz.prog.cellsOf 60 = 7 := by kernel_rfl
section
variable {W : World} {H : Type} {enc : TypeId × Value → H}
theorem setCell_of {fuel : Nat} {cs : List Value} {x : DataW H × List MemPlace} (h : DataW.trod enc Tryz.prog W 0 (fun _ => true) true fuel 58 cs = some x) :
    ∃ v l, cs = [v] ∧ SetAt W v (· < W.heap.size) l := by
  rcases open_strings Tryz.underlying58 Tryz.underlying24 Tryz.cellsWord h with ⟨hcs, _⟩ | ⟨a, len, cap, ss, hcs, _, hl, hm, hz, _, hcell, hws⟩
  · exact ⟨_, [], hcs, ⟨none, 0, rfl, by simp, fun j x hj => by simp at hj⟩, fun n c e => by cases e; exact ⟨rfl, rfl⟩⟩
  · simp at hz
    have hl2 : (ss.take len).length = len := by simp; omega
    refine ⟨_, ss.take len, hcs, ⟨some a, cap, by rw [hl2], by rw [hl2]; omega, fun j s hj => ?_⟩, fun n c e => by cases e⟩
    have hjn : j < len := by
      have := (List.getElem?_eq_some_iff.1 hj).1
      omega
    have h1 := hcell j (by omega)
    have h10 := hcell 0 (by omega)
    obtain ⟨b, off, spot⟩ := a
    have hs : spot = none := by simpa [Addr.add] using World.cell?_spot h10
    subst hs
    rw [addr_add] at h1
    refine ⟨b, off, rfl, World.block_lt_of_cell? W _ h1, ?_, hws s (List.mem_of_mem_take (List.mem_of_getElem? hj))⟩
    rw [h1]
    rw [List.getElem?_take, if_pos hjn] at hj
    rw [List.getD_eq_getElem?_getD, hj]; rfl
set_option maxRecDepth 100000 in
theorem cert_of {fuel : Nat} {cs : List Value} {x : DataW H × List MemPlace} (h : DataW.trod enc Tryz.prog W 0 (fun _ => true) true fuel 60 cs = some x) :
    ∃ (c : BCert) (sv : Value), cs = [.int .i64 c.kind, .int .u16 (c.sg : Int), .string c.sp, sv, .int .i64 c.f, .int .i64 c.t, .int .i64 c.n] ∧ CertAt W sv (· < W.heap.size) c := by
  obtain ⟨xs, n, _, rfl, hl, hlen, hf⟩ := DataW.trod_struct Tryz.underlying60 h
  rw [Tryz.cellsCert] at hl
  match cs, hl with
  | [c0, c1, c2, c3, c4, c5, c6], _ =>
    match xs, hlen with
    | [y0, y1, y2, y3, y4, y5, y6], _ =>
    have t0 : DataW.trod enc Tryz.prog W 0 (fun _ => true) true n 3 [c0] = some y0 := hf 0 _ rfl
    have t1 : DataW.trod enc Tryz.prog W 0 (fun _ => true) true n 56 [c1] = some y1 := hf 1 _ rfl
    have t2 : DataW.trod enc Tryz.prog W 0 (fun _ => true) true n 24 [c2] = some y2 := hf 2 _ rfl
    have t3 : DataW.trod enc Tryz.prog W 0 (fun _ => true) true n 58 [c3] = some y3 := hf 3 _ rfl
    have t4 : DataW.trod enc Tryz.prog W 0 (fun _ => true) true n 2 [c4] = some y4 := hf 4 _ rfl
    have t5 : DataW.trod enc Tryz.prog W 0 (fun _ => true) true n 2 [c5] = some y5 := hf 5 _ rfl
    have t6 : DataW.trod enc Tryz.prog W 0 (fun _ => true) true n 2 [c6] = some y6 := hf 6 _ rfl
    obtain ⟨k, e0, _, _⟩ := DataW.trod_int Tryz.underlying3 t0
    obtain ⟨sg, e1, _, hsg⟩ := DataW.trod_int Tryz.underlying56 t1
    obtain ⟨sp, e2, _, hsp⟩ := DataW.trod_string Tryz.underlying24 t2
    obtain ⟨sv, l, e3, hs⟩ := setCell_of t3
    obtain ⟨f, e4, _, _⟩ := DataW.trod_int Tryz.underlying2 t4
    obtain ⟨u, e5, _, _⟩ := DataW.trod_int Tryz.underlying2 t5
    obtain ⟨n, e6, _, _⟩ := DataW.trod_int Tryz.underlying2 t6
    simp at e0 e1 e2 e3 e4 e5 e6
    subst e0 e1 e2 e3 e4 e5 e6
    have hsg2 : 0 ≤ sg ∧ sg ≤ 65535 := by
      simp only [Lit.wf, Bool.and_eq_true, decide_eq_true_eq] at hsg
      exact hsg
    refine ⟨⟨k, sg.toNat, sp, l, f, u, n⟩, c3, ?_, ⟨hs, hsp, by simp only; omega⟩⟩
    simp only
    rw [show ((sg.toNat : Nat) : Int) = sg from by omega]
end
end Go.Proofs.YtjifdfhibkipnaaGreat
