/-
  NodeOwner returns true for every atom, and leaves its arguments as they were. No condition.
-/
import Derived.Test.YtcilaocknhphnaaGreatNOwn
import Derived.Test.YtcilaocknhphnaaGreatRows
namespace Go.Proofs.YtcilaocknhphnaaGreat
theorem Tryz.own : ownKnob Tryz.prog.godebug = none := by kernel_rfl
theorem Tryz.laidOut : laidOutB Tryz.prog = true := by kernel_rfl
end Go.Proofs.YtcilaocknhphnaaGreat
namespace Go.Proofs.YtcilaocknhphnaaGreat.NodeOwnerP
open Go.ChangeShapes Go.WideShapes Go.ChangeAt Go.RowKit

set_option maxRecDepth 100000 in
theorem lifted (os : Os) (started : os.Started) (H : Type) (enc : TypeId × Value → H) :
    ReturnsInHanded {} Tryz.checked os 5 .any (Rows.nodeOwnerSpec.pre6 enc Tryz.prog Tryz.f5 Rows.nodeOwnerRow.domain false) (Rows.nodeOwnerSpec.post enc Tryz.prog Tryz.f5 false true false false) := by
  refine returnsInHanded_of_change (C := Tryz.checked) Tryz.own started (by kernel_rfl) Tryz.func5
    (ChangeSpec.witness6 (enc := enc) (C := Tryz.checked) false ⟨#[], #[.int .u16 0], []⟩ 8 (by kernel_rfl) (by kernel_rfl) (by kernel_rfl) (by kernel_rfl)) ?_
  intro W base args ds gs before hval0 hW hcnd _
  have hval : ∀ (j : Nat) t v, Tryz.f5.params[j]? = some t → args[j]? = some v → Value.okWide Tryz.prog W .any base t v := hval0
  have hW' := hW
  obtain ⟨p, q, hA0, hV, rfl, hfz, hnd⟩ := hW
  have hA : DataW.TrodAll enc Tryz.prog W 0 (fun _ => true) true Tryz.f5.params.toList args.toList ds p := hA0
  rw [Tryz.params5] at hA hval
  obtain ⟨v0, vs0, d0, ds0, p0, q0, hargs, rfl, rfl, h0, r0⟩ := trodAll_cons hA
  obtain ⟨rfl, rfl, rfl⟩ := trodAll_nil r0
  obtain rfl : args = #[v0] := by cases args; simp_all
  obtain ⟨rfl, rfl⟩ := trodVars_none hV
  have lt0 : ∀ x ∈ p0, x.block < W.heap.size := by obtain ⟨m, hm⟩ := h0; exact DataW.trod_lt m _ _ _ hm
  have k0 := h0
  obtain ⟨n0, rfl, rfl, rfl, wn0⟩ := open_int Tryz.underlying58 (hval 0 58 v0 rfl rfl) h0
  clear hA0 hval0
  refine (owner_law W n0 wn0).mono fun e W' ⟨he, hc⟩ => ?_
  subst he
  have bel : Below W.heap.size W W' := hc.below (fun _ _ e => e) (Nat.le_refl _)
  exact ⟨_, rfl, _, _, _, [], _, [], hW', trodAll_mk1 (shut_bool Tryz.underlying4 _), (trodAll_cons_mk (Below.trod Tryz.laidOut (by kernel_rfl) (of_decide_eq_true (by kernel_rfl)) k0 bel lt0) trodAll_mk0), rfl, bel.frame _, fun h => by cases h⟩

theorem facts1 : (Rows.nodeOwnerRow.inPlace == Tryz.prog.inPlace 5) = true := by kernel_rfl
theorem facts2 : (Rows.nodeOwnerRow.unfollowed == Tryz.prog.unfollowed 5) = true := by kernel_rfl
theorem facts3 : (Rows.nodeOwnerRow.recurses == Tryz.prog.recurses 5) = true := by kernel_rfl
theorem facts4 : (Rows.nodeOwnerRow.named == Tryz.prog.varsNamed 5) = true := by kernel_rfl
theorem facts : joinedFacts Tryz.prog 5 Tryz.f5 Rows.nodeOwnerSpec Rows.nodeOwnerRow = true := by
  simp only [joinedFacts, Bool.and_eq_true]
  repeat' apply And.intro
  all_goals first | with_reducible exact facts1 | with_reducible exact facts2 | with_reducible exact facts3 | with_reducible exact facts4 | kernel_rfl
theorem over : Rows.nodeOwnerRow.holds Tryz.pinned (OpenSpec.ofChange Rows.nodeOwnerSpec) :=
  OpenClaim.holds_of_wide 5 Tryz.f5 rfl rfl rfl rfl rfl rfl rfl ⟨rfl, rfl, rfl, rfl, rfl⟩ rfl rfl rfl rfl rfl (by kernel_rfl) Tryz.func5 facts
    (of_decide_eq_true (by kernel_rfl)) (by unfold Func.isWrapper; first | (rw [if_pos (by decide +kernel)]; kernel_rfl) | (rw [if_neg (by decide +kernel)]; exact ⟨rfl, rfl⟩))
    (fun os started H enc _ => lifted os started H enc)
end Go.Proofs.YtcilaocknhphnaaGreat.NodeOwnerP
namespace Go.Proofs.YtcilaocknhphnaaGreat
theorem nodeOwner_holds : Rows.NodeOwnerSaid := NodeOwnerP.over
end Go.Proofs.YtcilaocknhphnaaGreat
