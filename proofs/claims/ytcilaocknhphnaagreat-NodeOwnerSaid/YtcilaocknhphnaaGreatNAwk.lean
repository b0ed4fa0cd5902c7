/-
  Layer 23: awake, told by the evaluator.
-/
import Derived.KernelRfl
import Derived.Test.YtcilaocknhphnaaGreatProg
import Derived.Test.YtcilaocknhphnaaGreatEv37
namespace Go.Proofs.YtcilaocknhphnaaGreat

theorem mixed_told : Tryz.prog.follows .mixedOrders = true := by kernel_rfl
theorem names_told : Ev.namesOk Tryz.prog = true := by kernel_rfl
theorem awake_told : Ev.told (Ev.fcall Tryz.prog [239, 280] 100 [10] [] Ev.H0) = true := by kernel_rfl
theorem awake23 (w : World) : Calls Tryz.prog 10 #[] w fun e w' => e = .returned (.bool true) ∧ Ev.Ch (fun _ => False) w w' :=
  Ev.told_any mixed_told names_told awake_told w
end Go.Proofs.YtcilaocknhphnaaGreat
