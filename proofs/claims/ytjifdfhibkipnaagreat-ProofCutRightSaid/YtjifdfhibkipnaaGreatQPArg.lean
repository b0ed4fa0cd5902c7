/-
  What the arguments' readings say: proofs. The program's Make, Check, Cut, Heavy at arguments that came in.
-/
import Derived.Test.YtjifdfhibkipnaaGreatQAwake
import Derived.Test.YtjifdfhibkipnaaGreatQLarge
import Derived.Test.YtjifdfhibkipnaaGreatQChkP
import Derived.Test.YtjifdfhibkipnaaGreatUArgs
namespace Go.Proofs.YtjifdfhibkipnaaGreat
open Go.ChangeShapes Go.WideShapes Go.ChangeAt Go.RowKit Go.Maps

/-- A proof that came in. -/
def ProofArg (w : World) (v : Value) (p : BProof) : Prop := ∃ ia ic sa sc, v = .agg #[.slice ia p.items.length ic, .slice sa p.steps.length sc] ∧ ProofAt w (.slice ia p.items.length ic) (.slice sa p.steps.length sc) (· < w.heap.size) p ∧ ProofFit p
theorem proofArg_of {W : World} {H : Type} {enc : TypeId × Value → H} {cs : Array Value} {d : DataW H} {ps : List MemPlace} (h : DataW.Trod enc Tryz.prog W 0 (fun _ => true) true 30 (.agg cs) d ps) : ∃ p, ProofArg W (.agg cs) p := by
  obtain ⟨fuel, hf⟩ := h
  obtain ⟨iv, sv, p, e, hp, hq⟩ := proof_of hf
  have e' : cs.toList = [iv, sv] := e
  have e2 : cs = #[iv, sv] := Array.toList_inj.1 e'
  obtain ⟨ia, ic, e3⟩ := hp.items.shape
  obtain ⟨sa, sc, e4⟩ := hp.steps.shape
  subst e3 e4
  exact ⟨p, ia, ic, sa, sc, by rw [e2], hp, hq⟩
theorem ProofAt.later {w w1 : World} {iv sv : Value} {p : BProof} (h : ProofAt w iv sv (· < w.heap.size) p) {S : Nat → Prop} (k : Chg S w w1) (hS : ∀ j, S j → w.heap.size ≤ j) : ProofAt w1 iv sv (· < w1.heap.size) p :=
  (h.chg k (fun j hj e => by have := hS j e; omega)).up (fun j hj => Nat.lt_of_lt_of_le hj k.size)
theorem Fit13.args {R : List BRul} {C : List BCert} {L : List ByteArray} (h : Fit13 R C L) {w w1 : World} {ra : Option Addr} {rc : Nat} {v : Value} {P : List (BCert × Value)} (hv : RulesArg w (.slice ra R.length rc) R) (hu : CertsAt w v (· < w.heap.size) P) (hC : C = certsOf P) (k : Chg (fun _ => False) w w1) :
    RulesAt w1 (.slice ra R.length rc) (· < w1.heap.size) R ∧ (ra = none → R.length = 0 ∧ rc = 0) ∧ CertsAt w1 v (· < w1.heap.size) P ∧ P.length ≤ 8 :=
  ⟨(hv.at_.chg k (fun _ _ e => e)).imp (fun j hj => Nat.lt_of_lt_of_le hj k.size), fun e => hv.nil _ _ (by rw [e]), (hu.chg k (fun _ _ e => e)).up (fun j hj => Nat.lt_of_lt_of_le hj k.size), by have := h.certs; rw [hC, certsOf_length] at this; exact this⟩
theorem Fit13.run {R : List BRul} {P : List (BCert × Value)} {L : List ByteArray} (h : Fit13 R (certsOf P) L) {w w1 : World} {ra : Option Addr} {rc : Nat} {v : Value} (hv : RulesArg w (.slice ra R.length rc) R) (hf : RulesFit R) (hu : CertsAt w v (· < w.heap.size) P) (k : Chg (fun _ => False) w w1) : RunArgs w1 ra R rc v P (· < w1.heap.size) :=
  ⟨(h.args hv hu rfl k).1, (h.args hv hu rfl k).2.1, by have := hf.2; omega, fun _ r hr => by have := (h.word r hr).1; omega, (h.args hv hu rfl k).2.2.1, by have := (h.args hv hu rfl k).2.2.2; omega, fun j hj => hj⟩
theorem own_two (w : World) (x y : ByteArray) : (w.alloc (.cells #[.string x, .string y] 24)).ownsRow w.heap.size 24 1 (.slice (some ⟨w.heap.size, 0, none⟩) 2 2) [x, y].length (wcells [x, y]) := own_lit rfl (by decide)
theorem Short13.sizes {p : BProof} (h : Short13 p) : p.items.length ≤ 1000 ∧ p.steps.length ≤ 1000000 ∧ ∀ x ∈ p.items, x.paths.length ≤ 1000 ∧ ∀ l ∈ x.paths, l.length ≤ 1000000 :=
  ⟨by have := h.items; omega, by have := h.steps; omega, fun x hx => ⟨by have := (h.path x hx).1; omega, fun l hl => by have := (h.path x hx).2 l hl; omega⟩⟩
/-- The cut proof is no longer. -/
theorem cut_sizes {roots : Int} {C : List BCert} {p : BProof} (h1 : p.items.length ≤ 1000) (h2 : p.steps.length ≤ 1000000) (h3 : ∀ x ∈ p.items, x.paths.length ≤ 1000 ∧ ∀ l ∈ x.paths, l.length ≤ 1000000) : (cutE roots C p).items.length ≤ 1000 ∧ (cutE roots C p).steps.length ≤ 1000000 ∧ ∀ x ∈ (cutE roots C p).items, x.paths.length ≤ 1000 ∧ ∀ l ∈ x.paths, l.length ≤ 1000000 := by
  refine ⟨Nat.le_trans (cut_len _ _ _) h1, ?_, fun x hx => ?_⟩
  · rw [cut_steps]; unfold anewL; rw [List.length_map]; exact h2
  · obtain ⟨k, hk⟩ := List.mem_iff_getElem?.1 hx
    obtain ⟨i, y, hy, _, rfl, _⟩ := cut_get hk
    obtain ⟨q1, q2⟩ := h3 y (List.mem_of_getElem? hy)
    unfold newX newI
    refine ⟨by simp only; rw [List.length_map]; exact q1, fun l hl => ?_⟩
    obtain ⟨m, hm, rfl⟩ := List.mem_map.1 hl
    unfold anewL
    rw [List.length_map]
    exact q2 m hm
end Go.Proofs.YtjifdfhibkipnaaGreat
