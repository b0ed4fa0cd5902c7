/-
  Layer 23: NodeOwner, walked.
-/
import Derived.Test.YtcilaocknhphnaaGreatKit2
import Derived.Test.YtcilaocknhphnaaGreatNAwk
namespace Go.Proofs.YtcilaocknhphnaaGreat
open Go.RowKit

theorem chg_of_ch {S : Nat → Prop} {w w' : World} (h : Ev.Ch S w w') : Chg S w w' := ⟨h.os, h.tape, h.output, h.size, h.block⟩
theorem ch_of_chg {S : Nat → Prop} {w w' : World} (h : Chg S w w') : Ev.Ch S w w' := ⟨h.os, h.tape, h.output, h.size, h.block⟩
/-- A channel's own key, and whether there is one. -/
def ownK (c : Nat) : Nat × Bool :=
  if c < 16385 ∨ 24576 ≤ c then (0, false)
  else if 40 ≤ (c - 16385) % 50 ∨ 3 ≤ (c - 16385) / 50 / 41 ∨ (c - 16385) / 50 % 41 < 1 then (0, false)
  else (8292 + 50 * ((c - 16385) / 50 / 41) + (c - 16385) / 50 % 41, true)
theorem nodeKey_any (w : World) (i b : Nat) (hi : i < 3) (hb : b < 50) : Calls Tryz.prog 63 #[.int .i64 (i : Int), .int .i64 (b : Int)] w fun e w' => e = .returned (.int .u16 ((8292 + 50 * i + b : Nat) : Int)) ∧ w = w' := by
  have e1 : IntKind.i64.wrap (50 * (i : Int)) = 50 * (i : Int) := by rw [IntKind.wrap_i64]; omega
  have e2 : IntKind.i64.wrap (8292 + 50 * (i : Int)) = 8292 + 50 * (i : Int) := by rw [IntKind.wrap_i64]; omega
  have e3 : IntKind.i64.wrap (b : Int) = (b : Int) := by rw [IntKind.wrap_i64]; omega
  have e4 : IntKind.i64.wrap (8292 + 50 * (i : Int) + (b : Int)) = 8292 + 50 * (i : Int) + (b : Int) := by rw [IntKind.wrap_i64]; omega
  have e5 : IntKind.u16.wrap (8292 + 50 * (i : Int) + (b : Int)) = ((8292 + 50 * i + b : Nat) : Int) := by rw [IntKind.wrap_u16]; omega
  go_enter Tryz.func63, Tryz.ntmps63
  go_wp2
  go_ret
  exact ⟨rfl, rfl⟩
theorem ownK_low {c : Nat} (h : c < 16385) : ownK c = (0, false) := by unfold ownK; rw [if_pos (.inl h)]
theorem ownK_high {c : Nat} (h : 24576 ≤ c) : ownK c = (0, false) := by unfold ownK; rw [if_pos (.inr h)]
theorem ownK_mid {N : Nat} (h : N < 8191) : ownK (16385 + N) = if 40 ≤ N % 50 ∨ 3 ≤ N / 50 / 41 ∨ N / 50 % 41 < 1 then (0, false) else (8292 + 50 * (N / 50 / 41) + N / 50 % 41, true) := by
  unfold ownK
  rw [if_neg (by omega), show 16385 + N - 16385 = N by omega]
set_option maxHeartbeats 4000000 in
set_option maxRecDepth 100000 in
theorem owner_any (w : World) (c : Nat) (hc : c < 65536) : Calls Tryz.prog 28 #[.int .u16 (c : Int)] w fun e w' => e = .returned (.tuple #[.int .u16 ((ownK c).1 : Int), .bool (ownK c).2]) ∧ w = w' := by
  have e1 : IntKind.i64.wrap (c : Int) = (c : Int) := by rw [IntKind.wrap_i64]; omega
  have e2 : IntKind.i64.wrap ((c : Int) - 16384) = (c : Int) - 16384 := by rw [IntKind.wrap_i64]; omega
  by_cases h1 : c < 16385
  · have e3 : IntKind.i64.wrap ((c : Int) - 16384 - 1) = (c : Int) - 16384 - 1 := by rw [IntKind.wrap_i64]; omega
    have g1 : decide ((c : Int) - 16384 - 1 < 0) = true := decide_eq_true (by omega)
    rw [ownK_low h1]
    go_enter Tryz.func28, Tryz.ntmps28
    go_wp2
    go_ret2
    exact ⟨rfl, rfl⟩
  by_cases h2 : 24576 ≤ c
  · have e3 : IntKind.i64.wrap ((c : Int) - 16384 - 1) = (c : Int) - 16384 - 1 := by rw [IntKind.wrap_i64]; omega
    have g1 : decide ((c : Int) - 16384 - 1 < 0) = false := decide_eq_false (by omega)
    have g2 : decide (8191 ≤ (c : Int) - 16384 - 1) = true := decide_eq_true (by omega)
    rw [ownK_high h2]
    go_enter Tryz.func28, Tryz.ntmps28
    go_wp2
    go_ret2
    exact ⟨rfl, rfl⟩
  obtain ⟨N, rfl⟩ : ∃ N, c = 16385 + N := ⟨c - 16385, by omega⟩
  have e3 : IntKind.i64.wrap (((16385 + N : Nat) : Int) - 16384 - 1) = (N : Int) := by rw [IntKind.wrap_i64]; omega
  have g1 : decide ((N : Int) < 0) = false := decide_eq_false (by omega)
  have g2 : decide (8191 ≤ (N : Int)) = false := decide_eq_false (by omega)
  rw [ownK_mid (by omega)]
  have hN : N < 8191 := by omega
  clear e1 e2 h1 h2
  by_cases h3 : 40 ≤ N % 50
  · have g3 : decide (40 ≤ (N : Int) % 50) = true := decide_eq_true (by omega)
    rw [if_pos (.inl h3)]
    go_enter Tryz.func28, Tryz.ntmps28
    go_wp2
    go_ret2
    exact ⟨rfl, rfl⟩
  have g3 : decide (40 ≤ (N : Int) % 50) = false := decide_eq_false (by omega)
  by_cases h4 : 3 ≤ N / 50 / 41
  · have g4 : decide (3 ≤ (N : Int) / 50 / 41) = true := decide_eq_true (by omega)
    rw [if_pos (.inr (.inl h4))]
    go_enter Tryz.func28, Tryz.ntmps28
    go_wp2
    go_ret2
    exact ⟨rfl, rfl⟩
  have g4 : decide (3 ≤ (N : Int) / 50 / 41) = false := decide_eq_false (by omega)
  by_cases h5 : N / 50 % 41 < 1
  · have g5 : decide ((N : Int) / 50 % 41 < 1) = true := decide_eq_true (by omega)
    rw [if_pos (.inr (.inr h5))]
    go_enter Tryz.func28, Tryz.ntmps28
    go_wp2
    go_ret2
    exact ⟨rfl, rfl⟩
  have g5 : decide ((N : Int) / 50 % 41 < 1) = false := decide_eq_false (by omega)
  rw [if_neg (by rintro (h | h | h) <;> omega)]
  have NK := nodeKey_any w (N / 50 / 41) (N / 50 % 41) (by omega) (by omega)
  rw [show ((N / 50 / 41 : Nat) : Int) = (16385 + (N : Int) - 16384 - 1) / 50 / 41 from by omega, show ((N / 50 % 41 : Nat) : Int) = (16385 + (N : Int) - 16384 - 1) / 50 % 41 from by omega] at NK
  have NK := Lib.hid NK
  go_enter Tryz.func28, Tryz.ntmps28
  go_wp2_with fail
  refine (NK.out).mono ?_
  rintro e w1 ⟨rfl, rfl⟩
  go_wp2
  go_ret2
  exact ⟨rfl, rfl⟩
set_option maxHeartbeats 4000000 in
set_option maxRecDepth 100000 in
theorem rowner_any (w : World) (c : Nat) (hc : c < 65536) : Calls Tryz.prog 29 #[.int .u16 (c : Int)] w fun e w' => e = .returned (.tuple #[.int .u16 ((ownK c).1 : Int), .bool (ownK c).2]) ∧ w = w' := by
  by_cases h1 : c < 16385
  · have g1 : decide ((c : Int) < 16385) = true := decide_eq_true (by omega)
    rw [ownK_low h1]
    go_enter Tryz.func29, Tryz.ntmps29
    go_wp2
    go_ret2
    exact ⟨rfl, rfl⟩
  have g1 : decide ((c : Int) < 16385) = false := decide_eq_false (by omega)
  by_cases h2 : 24576 ≤ c
  · have g2 : decide (24576 ≤ (c : Int)) = true := decide_eq_true (by omega)
    rw [ownK_high h2]
    go_enter Tryz.func29, Tryz.ntmps29
    go_wp2
    go_ret2
    exact ⟨rfl, rfl⟩
  have g2 : decide (24576 ≤ (c : Int)) = false := decide_eq_false (by omega)
  obtain ⟨N, rfl⟩ : ∃ N, c = 16385 + N := ⟨c - 16385, by omega⟩
  have e3 : IntKind.i64.wrap (((16385 + N : Nat) : Int) - 16385) = (N : Int) := by rw [IntKind.wrap_i64]; omega
  have e4 : ((16385 + N : Nat) : Int) - 16385 = (N : Int) := by omega
  rw [ownK_mid (by omega)]
  have hN : N < 8191 := by omega
  by_cases h3 : 40 ≤ N % 50
  · have g3 : decide (39 < (N : Int) % 50) = true := decide_eq_true (by omega)
    rw [if_pos (.inl h3)]
    go_enter Tryz.func29, Tryz.ntmps29
    go_wp2
    go_ret2
    exact ⟨rfl, rfl⟩
  have g3 : decide (39 < (N : Int) % 50) = false := decide_eq_false (by omega)
  by_cases h4 : 3 ≤ N / 50 / 41
  · have g4 : decide (2 < (N : Int) / 50 / 41) = true := decide_eq_true (by omega)
    rw [if_pos (.inr (.inl h4))]
    go_enter Tryz.func29, Tryz.ntmps29
    go_wp2
    go_ret2
    exact ⟨rfl, rfl⟩
  have g4 : decide (2 < (N : Int) / 50 / 41) = false := decide_eq_false (by omega)
  by_cases h5 : N / 50 % 41 < 1
  · have g5 : decide ((N : Int) / 50 % 41 < 1) = true := decide_eq_true (by omega)
    rw [if_pos (.inr (.inr h5))]
    go_enter Tryz.func29, Tryz.ntmps29
    go_wp2
    go_ret2
    exact ⟨rfl, rfl⟩
  have g5 : decide ((N : Int) / 50 % 41 < 1) = false := decide_eq_false (by omega)
  rw [if_neg (by rintro (h | h | h) <;> omega)]
  have RES := Lib.hid (show 8292 + 50 * ((16385 + (N : Int) - 16385) / 50 / 41) + (16385 + (N : Int) - 16385) / 50 % 41 = ((8292 + 50 * (N / 50 / 41) + N / 50 % 41 : Nat) : Int) by omega)
  go_enter Tryz.func29, Tryz.ntmps29
  go_wp2
  go_ret2
  exact ⟨by rw [← RES.out]; rfl, rfl⟩
set_option maxHeartbeats 4000000 in
set_option maxRecDepth 100000 in
theorem owner_law (W : World) (n : Int) (wn : (Lit.int .u16 n).wf = true) : Calls Tryz.prog 5 #[.int .u16 n] W fun e w' => e = .returned (.bool true) ∧ Chg (fun _ => False) W w' := by
  have h := wn
  simp only [Lit.wf, Bool.and_eq_true, decide_eq_true_eq] at h
  obtain ⟨c, rfl⟩ : ∃ c : Nat, n = (c : Int) := ⟨n.toNat, by have := h.1; change (0 : Int) ≤ n at this; omega⟩
  have hc : c < 65536 := by have := h.2; change (c : Int) ≤ 65535 at this; omega
  clear h wn
  go_enter Tryz.func5, Tryz.ntmps5
  go_wp2_with fail
  refine (awake23 W).mono ?_
  rintro e w1 ⟨rfl, k1⟩
  have K1 := Lib.hid (chg_of_ch k1)
  clear k1
  have OW := Lib.hid (owner_any w1 c hc)
  have RO := Lib.hid (rowner_any w1 c hc)
  generalize ownK c = r at *
  obtain ⟨k, b⟩ := r
  go_wp2_with fail
  refine (OW.out).mono ?_
  rintro e w2 ⟨rfl, rfl⟩
  go_wp2_with fail
  refine (RO.out).mono ?_
  rintro e w2 ⟨rfl, rfl⟩
  clear OW RO
  go_wp2
  go_ret
  exact ⟨by simp, K1.out⟩
end Go.Proofs.YtcilaocknhphnaaGreat
