/-
  What the arguments' readings say, in the words of the walks: rules, steps.
-/
import Derived.Test.YtjifdfhibkipnaaGreatRTellR1
import Derived.Test.YtjifdfhibkipnaaGreatMRefs
import Derived.Lib.SmallJoins
import Derived.SizedLaws
namespace Go.Proofs.YtjifdfhibkipnaaGreat
open Go.RowKit Go.Maps
theorem of_one (w : World) (k : Nat) (z : Int) (hz : z = k) (x : ByteArray) (hk : k < 65536) (hx : (⟨(ofAtoms [k]).toArray⟩ : ByteArray) = x) : Calls Tryz.prog 28 #[.slice (some ⟨w.heap.size, 0, none⟩) 1 1] (w.alloc (.cells #[.int .u16 z] 56)) fun e w' => e = .returned (.string x) ∧ Chg (fun _ => False) w w' := by
  subst hz
  have e1 : (w.alloc (.cells #[.int .u16 (k : Int)] 56)).cell? ⟨w.heap.size, 0, none⟩ = some (.int .u16 (k : Int)) := cell_of (obj_alloc_new _ _) rfl
  have := rof_any (w.alloc (.cells #[.int .u16 (k : Int)] 56)) (some ⟨w.heap.size, 0, none⟩) 1 [k] (by simp) (by simp) (fun j x hj => by
    rcases j with _ | j
    · simp at hj; subst hj; exact ⟨hk, _, _, rfl, e1⟩
    · simp at hj)
  rw [hx] at this
  exact this.mono fun e w' ⟨he, hc⟩ => ⟨he, (chg_alloc _ w _).trans hc⟩
theorem stepsAt_own {w : World} {base : Nat} {v : Value} {l : List (Nat × Nat)} (h : w.ownsRow base 45 2 v l.length (hcells l)) : StepsAt w v (fun k => v.ownBlock = some k) (l.map fun h => ((h.1 : Int), (h.2 : Int))) := by
  have h0 := h
  obtain ⟨h1, ⟨rfl, h2⟩ | ⟨g, cap, cur, rfl, hg, hh, q1, q2, q3, q4⟩⟩ := h
  · refine ⟨none, 0, by rw [List.length_map, h2], by rw [List.length_map, h2]; unfold maxLen; omega, fun j x hj => ?_⟩
    have : j < l.length := by have := (List.getElem?_eq_some_iff.1 hj).1; rwa [List.length_map] at this
    omega
  · refine ⟨_, cap, by rw [List.length_map], by rw [List.length_map]; omega, fun j x hj => ?_⟩
    rw [List.getElem?_map] at hj
    cases hq : l[j]? with
    | none => rw [hq] at hj; cases hj
    | some y =>
      rw [hq] at hj
      cases hj
      have hj' : j < l.length := (List.getElem?_eq_some_iff.1 hq).1
      refine ⟨g, 0, rfl, rfl, ?_, ?_⟩
      · rw [Nat.zero_add, h0.cellAt (j := j * 2) (by omega), show j * 2 = 2 * j from by omega]
        exact (hcells_get l j y hq).1
      · rw [Nat.zero_add, h0.cellAt (j := j * 2 + 1) (by omega), show j * 2 + 1 = 2 * j + 1 from by omega]
        exact (hcells_get l j y hq).2
theorem StepsAt.imp {w : World} {v : Value} {G G' : Nat → Prop} {L : List (Int × Int)} (h : StepsAt w v G L) (hg : ∀ k, G k → G' k) : StepsAt w v G' L := by
  obtain ⟨la, cap, h1, h2, h3⟩ := h
  exact ⟨la, cap, h1, h2, fun j r hj => by obtain ⟨lb, lo, q1, q2, q3⟩ := h3 j r hj; exact ⟨lb, lo, q1, hg _ q2, q3⟩⟩
end Go.Proofs.YtjifdfhibkipnaaGreat

namespace Go.Proofs.YtjifdfhibkipnaaGreat
open Go.ChangeShapes Go.WideShapes Go.ChangeAt Go.RowKit

/-- Rules that came in. -/
structure RulesArg (w : World) (v : Value) (R : List BRul) : Prop where
  at_ : RulesAt w v (· < w.heap.size) R
  nil : ∀ n c, v = .slice none n c → n = 0 ∧ c = 0
def RulesFit (R : List BRul) : Prop := Fit47 R ∧ R.length * 32 ≤ 140737488355328
/-- Steps that came in. -/
structure StepsArg (w : World) (v : Value) (L : List (Int × Int)) : Prop where
  at_ : StepsAt w v (· < w.heap.size) L
  fit : ∀ x ∈ L, -9223372036854775808 ≤ x.1 ∧ x.1 ≤ 9223372036854775807
theorem weightsAll_mem {H : Type} {P : Program} {e : TypeId} : ∀ {l : List (DataW H)} {d : DataW H}, d ∈ l → ∀ n ∈ d.weights P e, n ∈ DataW.weightsAll P e l
  | a :: l, d, h, n, hn => by
    simp only [DataW.weightsAll, List.mem_append]
    rcases List.mem_cons.1 h with rfl | h
    · exact .inl hn
    · exact .inr (weightsAll_mem h n hn)
theorem trod_two {P : Program} {W : World} {H : Type} {enc : TypeId × Value → H} {t : TypeId} {f0 f1 : Field} {fuel : Nat} {cs : List Value} {x : DataW H × List MemPlace} {base : Nat} {spare : Nat → Bool} {held : Bool} (ht : P.underlying t = some (.struct #[f0, f1])) (h : DataW.trod enc P W base spare held fuel t cs = some x) :
    ∃ y0 y1 n, x.1 = .agg [y0.1, y1.1] ∧ cs.length = P.cellsOf t ∧ DataW.trod enc P W base spare held n f0.type ((cs.drop f0.offset).take (P.cellsOf f0.type)) = some y0 ∧ DataW.trod enc P W base spare held n f1.type ((cs.drop f1.offset).take (P.cellsOf f1.type)) = some y1 := by
  obtain ⟨xs, n, _, rfl, hl, hlen, hf⟩ := DataW.trod_struct ht h
  match xs, hlen with
  | [y0, y1], _ => exact ⟨y0, y1, n, rfl, hl, by simpa using hf 0 f0 rfl, by simpa using hf 1 f1 rfl⟩
theorem Tryz.cellsInt : Tryz.prog.cellsOf 3 = 1 := by kernel_rfl
theorem Tryz.cellsWord : Tryz.prog.cellsOf 24 = 1 := by kernel_rfl
theorem Tryz.cellsRule : Tryz.prog.cellsOf 69 = 2 := by kernel_rfl
theorem Tryz.cellsStep : Tryz.prog.cellsOf 45 = 2 := by kernel_rfl
theorem Tryz.bytesRule : Tryz.prog.bytesOf 69 = 32 := by kernel_rfl
set_option maxRecDepth 100000 in
theorem rule_of {W : World} {H : Type} {enc : TypeId × Value → H} {fuel : Nat} {cs : List Value} {x : DataW H × List MemPlace} (h : DataW.trod enc Tryz.prog W 0 (fun _ => true) true fuel 69 cs = some x) :
    ∃ r : BRul, cs = [.string r.1, .string r.2] ∧ r.1.size ≤ maxLen ∧ r.2.size ≤ maxLen ∧ x.1 = .agg [.lit (.string r.1.data.toList), .lit (.string r.2.data.toList)] := by
  obtain ⟨y0, y1, n, e, hl, t0, t1⟩ := trod_two Tryz.underlying69 h
  rw [Tryz.cellsRule] at hl
  match cs, hl with
  | [c0, c1], _ =>
    simp only [Tryz.cellsWord, List.drop_zero, List.drop_succ_cons, List.take_succ_cons, List.take_zero] at t0 t1
    obtain ⟨s, e0, f0, hs⟩ := DataW.trod_string Tryz.underlying24 t0
    obtain ⟨u, e1, f1, hu⟩ := DataW.trod_string Tryz.underlying24 t1
    simp at e0 e1
    subst e0 e1 f0 f1
    exact ⟨(s, u), rfl, hs, hu, e⟩
theorem rulesArg_of {W : World} {H : Type} {enc : TypeId × Value → H} {a : Option Addr} {n c : Nat} {d : DataW H} {ps : List MemPlace}
    (h : DataW.Trod enc Tryz.prog W 0 (fun _ => true) true 22 (.slice a n c) d ps) : ∃ l, RulesArg W (.slice a n c) l ∧ ((∀ x ∈ d.weights Tryz.prog 22, x ≤ reachBytes) → RulesFit l) := by
  obtain ⟨fuel, hf⟩ := h
  have hf' : DataW.trod enc Tryz.prog W 0 (fun _ => true) true fuel 22 [.slice a n c] = some (d, ps) := hf
  rcases Deep.open_slice Tryz.underlying22 hf' with ⟨hcs, _⟩ | ⟨x, len, cap, m, k, D, Pl, hcs, _, hl, hm, hmm, hd, hel⟩
  · simp at hcs
    obtain ⟨rfl, rfl, rfl⟩ := hcs
    exact ⟨[], ⟨⟨none, 0, rfl, by simp, fun j x hj => by simp at hj⟩, fun n c e => by cases e; exact ⟨rfl, rfl⟩⟩, fun _ => ⟨(fun r hr => by cases hr), by simp⟩⟩
  · simp at hcs
    obtain ⟨rfl, rfl, rfl⟩ := hcs
    simp at hmm
    obtain rfl : c = m := hmm.symm
    rw [Tryz.cellsRule] at hel
    have hv : ∀ i, i < c → ∃ v : BRul, W.cells? 0 (x.add (i * 2)) 2 = some [.string v.1, .string v.2] ∧ v.1.size ≤ maxLen ∧ v.2.size ≤ maxLen ∧ D i = .agg [.lit (.string v.1.data.toList), .lit (.string v.2.data.toList)] := by
      intro i hi
      obtain ⟨cs, h1, h2⟩ := hel i hi
      obtain ⟨v, rfl, q⟩ := rule_of h2
      exact ⟨v, h1, q⟩
    have : Inhabited BRul := ⟨(ByteArray.empty, ByteArray.empty)⟩
    obtain ⟨f, hf2⟩ := Deep.choose_lt hv
    have key : ∀ (j : Nat) y, ((List.range n).map f)[j]? = some y → j < n ∧ y = f j := fun j y hj => by
      rw [List.getElem?_map] at hj
      have hjn : j < n := by
        rcases Nat.lt_or_ge j n with h | h
        · exact h
        · rw [List.getElem?_eq_none (by simpa using h)] at hj; simp at hj
      rw [List.getElem?_range hjn] at hj
      simp at hj
      exact ⟨hjn, hj.symm⟩
    refine ⟨(List.range n).map f, ⟨⟨some x, c, by simp, by simp; omega, fun j y hj => ?_⟩, fun n c e => by cases e⟩, fun hw => ?_⟩
    · obtain ⟨hjn, rfl⟩ := key j y hj
      obtain ⟨h1, h2, h3, _⟩ := hf2 j (by omega)
      have g := (World.cells?_some h1).2.2
      have g0 := (World.cells?_some (hf2 0 (by omega)).1).2.2 0 (by decide)
      obtain ⟨b, off, spot⟩ := x
      have hs : spot = none := by simpa [Addr.add] using World.cell?_spot g0
      subst hs
      simp only [addr_add] at g
      have c0 := g 0 (by decide)
      have c1 := g 1 (by decide)
      exact ⟨b, off, rfl, World.block_lt_of_cell? W _ c0, c0, c1, h2, h3⟩
    · have hd2 : d = .slice ((List.range n).map D) ((List.range (c - n)).map fun j => D (n + j)) := congrArg Prod.fst hd
      subst hd2
      simp only [DataW.weights, Tryz.underlying22, List.mem_cons, List.mem_append] at hw
      have hr := reachBytes_lt
      refine ⟨fun r hr => ?_, ?_⟩
      · obtain ⟨j, hj⟩ := List.mem_iff_getElem?.1 hr
        obtain ⟨hjn, rfl⟩ := key j r hj
        obtain ⟨_, _, _, hD⟩ := hf2 j (by omega)
        have hm : D j ∈ (List.range n).map D := List.mem_map.2 ⟨j, List.mem_range.2 hjn, rfl⟩
        have hw2 := fun x hx => hw x (.inr (.inl (weightsAll_mem hm x hx)))
        rw [hD] at hw2
        simp only [DataW.weights, Tryz.underlying69] at hw2
        have q1 := hw2 (f j).1.data.toList.length (by simp [DataW.weightsEach, DataW.weights])
        have q2 := hw2 (f j).2.data.toList.length (by simp [DataW.weightsEach, DataW.weights])
        rw [size_list] at q1 q2
        omega
      · have := hw _ (.inl rfl)
        rw [Tryz.bytesRule] at this
        simp at this ⊢
        have h2 : n * 32 ≤ (n + (c - n)) * 32 := Nat.mul_le_mul_right _ (by omega)
        omega
set_option maxRecDepth 100000 in
theorem step_of {W : World} {H : Type} {enc : TypeId × Value → H} {fuel : Nat} {cs : List Value} {x : DataW H × List MemPlace} (h : DataW.trod enc Tryz.prog W 0 (fun _ => true) true fuel 45 cs = some x) :
    ∃ r : Int × Int, cs = [.int .i64 r.1, .int .i64 r.2] ∧ -9223372036854775808 ≤ r.1 ∧ r.1 ≤ 9223372036854775807 := by
  obtain ⟨y0, y1, n, e, hl, t0, t1⟩ := trod_two Tryz.underlying45 h
  rw [Tryz.cellsStep] at hl
  match cs, hl with
  | [c0, c1], _ =>
    simp only [Tryz.cellsInt, List.drop_zero, List.drop_succ_cons, List.take_succ_cons, List.take_zero] at t0 t1
    obtain ⟨s, e0, f0, hs⟩ := DataW.trod_int Tryz.underlying3 t0
    obtain ⟨u, e1, f1, hu⟩ := DataW.trod_int Tryz.underlying3 t1
    simp at e0 e1
    subst e0 e1
    exact ⟨(s, u), rfl, bounds_i64 hs⟩
theorem stepsArg_of {W : World} {H : Type} {enc : TypeId × Value → H} {a : Option Addr} {n c : Nat} {d : DataW H} {ps : List MemPlace}
    (h : DataW.Trod enc Tryz.prog W 0 (fun _ => true) true 28 (.slice a n c) d ps) : ∃ l, StepsArg W (.slice a n c) l := by
  obtain ⟨fuel, hf⟩ := h
  have hf' : DataW.trod enc Tryz.prog W 0 (fun _ => true) true fuel 28 [.slice a n c] = some (d, ps) := hf
  rcases Deep.open_slice Tryz.underlying28 hf' with ⟨hcs, _⟩ | ⟨x, len, cap, m, k, D, Pl, hcs, _, hl, hm, hmm, hd, hel⟩
  · simp at hcs
    obtain ⟨rfl, rfl, rfl⟩ := hcs
    exact ⟨[], ⟨none, 0, rfl, by simp, fun j x hj => by simp at hj⟩, fun x hx => by cases hx⟩
  · simp at hcs
    obtain ⟨rfl, rfl, rfl⟩ := hcs
    simp at hmm
    obtain rfl : c = m := hmm.symm
    rw [Tryz.cellsStep] at hel
    have hv : ∀ i, i < c → ∃ v : Int × Int, W.cells? 0 (x.add (i * 2)) 2 = some [.int .i64 v.1, .int .i64 v.2] ∧ -9223372036854775808 ≤ v.1 ∧ v.1 ≤ 9223372036854775807 := by
      intro i hi
      obtain ⟨cs, h1, h2⟩ := hel i hi
      obtain ⟨v, rfl, q⟩ := step_of h2
      exact ⟨v, h1, q⟩
    obtain ⟨f, hf2⟩ := Deep.choose_lt hv
    have key : ∀ (j : Nat) y, ((List.range n).map f)[j]? = some y → j < n ∧ y = f j := fun j y hj => by
      rw [List.getElem?_map] at hj
      have hjn : j < n := by
        rcases Nat.lt_or_ge j n with h | h
        · exact h
        · rw [List.getElem?_eq_none (by simpa using h)] at hj; simp at hj
      rw [List.getElem?_range hjn] at hj
      simp at hj
      exact ⟨hjn, hj.symm⟩
    refine ⟨(List.range n).map f, ⟨some x, c, by simp, by simp; omega, fun j y hj => ?_⟩, fun y hy => ?_⟩
    · obtain ⟨hjn, rfl⟩ := key j y hj
      obtain ⟨h1, h2⟩ := hf2 j (by omega)
      have g := (World.cells?_some h1).2.2
      have g0 := (World.cells?_some (hf2 0 (by omega)).1).2.2 0 (by decide)
      obtain ⟨b, off, spot⟩ := x
      have hs : spot = none := by simpa [Addr.add] using World.cell?_spot g0
      subst hs
      simp only [addr_add] at g
      have c0 := g 0 (by decide)
      have c1 := g 1 (by decide)
      exact ⟨b, off, rfl, World.block_lt_of_cell? W _ c0, c0, c1⟩
    · obtain ⟨j, hj⟩ := List.mem_iff_getElem?.1 hy
      obtain ⟨hjn, rfl⟩ := key j y hj
      exact (hf2 j (by omega)).2
end Go.Proofs.YtjifdfhibkipnaaGreat
