/-
  Layer 11: ReachWalks, walked.
-/
import Derived.Test.YtblannomcfiffaaRAwake
namespace Go.Proofs.Ytblannomcfiffaa
open Go.RowKit Go.Maps

theorem RulesAt.below {w w1 : World} {v : Value} {R : List BRul} {B : Nat} (h : RulesAt w v (· < w.heap.size) R) (k : Chg (fun _ => False) w w1) (hB : w.heap.size ≤ B) : RulesAt w1 v (· < B) R :=
  (h.chg k (fun _ _ e => e)).imp (fun _ hx => Nat.lt_of_lt_of_le hx hB)
/-- 'large', asked by a law of some words that it has put into a slice. -/
theorem large_law (w w1 : World) (v : Value) (R : List BRul) (l : List ByteArray) (hv : RulesAt w v (· < w.heap.size) R) (k : Chg (fun _ => False) w w1) (hl : l.length ≤ 10) (hs : ∀ x ∈ l, x.size ≤ maxLen) :
    Calls Try.prog 10 #[v, .slice (some ⟨w1.heap.size, 0, none⟩) l.length l.length] (w1.alloc (.cells (wcells l).toArray 23)) fun e w' => e = .returned (.bool (largeB R l)) ∧ Chg (fun _ => False) w w' := by
  have ho := World.ownsRow_lit (base := w1.heap.size) (e := 23) (size := 1) w1 (wcells l).toArray l.length (Nat.le_refl _) (by unfold maxLen; omega) (by simp [wcells])
  refine (large_any (w1.alloc (.cells (wcells l).toArray 23)) v (.slice (some ⟨w1.heap.size, 0, none⟩) l.length l.length) R l w1.heap.size ?_ ho (by omega) (by simp) hs).mono fun e w' ⟨he, hc⟩ => ⟨he, ?_⟩
  · exact hv.below (k.alloc _) k.size
  · exact (k.alloc (.cells (wcells l).toArray 23)).next hc (fun x hx e => by have := k.size; omega)
theorem steps_up {w w1 : World} {v : Value} {L : List (Int × Int)} (h : StepsAt w v (· < w.heap.size) L) (k : Chg (fun _ => False) w w1) : StepsAt w1 v (· < w1.heap.size) L :=
  (h.chg k (fun _ _ e => e)).imp (fun _ hx => Nat.lt_of_lt_of_le hx k.size)
theorem walkV_shape (o : Option Wd) : ∃ u k, walkV o = .tuple #[.string u, .int .i64 k] := by
  cases o <;> exact ⟨_, _, rfl⟩
set_option maxHeartbeats 1000000 in
set_option maxRecDepth 100000 in
theorem walks_law (w : World) (v : Value) (s : ByteArray) (lv : Value) (R : List BRul) (L : List (Int × Int)) (hs : s.size ≤ 140737488355328) (hv : RulesArg w v R) (hf : RulesFit R) (hl : StepsArg w lv L) :
    Calls Try.prog 4 #[v, .string s, lv] w fun e w' => e = .returned (.bool true) ∧ Chg (fun _ => False) w w' := by
  have HV := Lib.hid hv.at_
  have HL := Lib.hid hl.at_
  have HLF := Lib.hid hl.fit
  have H47 := Lib.hid hf.1
  obtain ⟨la, cap, rfl, hl0, _⟩ := hv.at_
  obtain ⟨lb, lcap, rfl, hl1, _⟩ := hl.at_
  have AW := Lib.hid (awake_any w)
  unfold maxLen at hl0 hl1
  clear hv hf hl
  go_enter Try.func4, Try.ntmps4
  go_wp2_with fail
  (with_reducible refine (AW.out).mono ?_)
  rintro e w1 ⟨rfl, k1⟩
  have LAR := Lib.hid (large_law w w1 _ R [s] HV.out k1 (by simp) (fun x hx => by simp at hx; subst hx; unfold maxLen; omega))
  change Hid (Calls Try.prog 10 #[.slice la R.length cap, .slice (some ⟨w1.heap.size, 0, none⟩) 1 1] (w1.alloc (.cells #[.string s] 23)) _) at LAR
  clear k1 AW
  by_cases hla : largeB R [s] = true
  · rw [hla] at LAR
    clear hla
    go_wp2_with fail
    (with_reducible refine (LAR.out).mono ?_)
    rintro e w2 ⟨rfl, k2⟩
    go_wp2
    go_ret
    exact ⟨rfl, k2⟩
  have hla : largeB R [s] = false := by simpa using hla
  rw [hla] at LAR
  obtain ⟨hR, hsl⟩ := largeB_false hla
  have hs1 : s.size ≤ 100 := hsl s (by simp)
  clear hla hsl hR
  by_cases h100 : 100 < L.length
  · have g1 : decide (100 < (L.length : Int)) = true := by rw [decide_eq_true_eq]; omega
    go_wp2_with fail
    (with_reducible refine (LAR.out).mono ?_)
    rintro e w2 ⟨rfl, k2⟩
    go_wp2
    go_ret
    exact ⟨rfl, k2⟩
  have g1 : decide (100 < (L.length : Int)) = false := by rw [decide_eq_false_iff_not]; omega
  cases hm : mayB s.data.toList with
  | false =>
    have WB := Lib.hid (fun w => walk_form w la lb R.length cap L.length lcap s (by unfold maxLen; omega) hm)
    have RB := Lib.hid (fun w => rwalk_form w la lb R.length cap L.length lcap s (by omega) hm)
    clear hm
    go_wp2_with fail
    (with_reducible refine (LAR.out).mono ?_)
    rintro e w2 ⟨rfl, k2⟩
    go_wp2_with fail
    (with_reducible refine (WB.out _).mono ?_)
    rintro e w3 ⟨rfl, k3⟩
    go_wp2_with fail
    (with_reducible refine (RB.out _).mono ?_)
    rintro e w4 ⟨rfl, k4⟩
    go_wp2
    go_ret
    exact ⟨rfl, (k2.trans k3).trans k4⟩
  | true =>
    have WG := Lib.hid (fun w2 (k : Chg (fun _ => False) w w2) => walk_any w2 _ _ R L s (rules_up HV.out k) (steps_up HL.out k) hm)
    have RG := Lib.hid (fun w2 (k : Chg (fun _ => False) w w2) => rwalk_any w2 _ _ R L s (rules_up HV.out k) H47.out (steps_up HL.out k) HLF.out hm)
    obtain ⟨u, ek, hu⟩ := walkV_shape (walkI (R.map brul) s.data.toList L)
    rw [hu] at WG RG
    have n1 : (u.toList == u.toList) = true := by simp
    have n2 : (ek == ek) = true := by simp
    clear hm hu
    go_wp2_with fail
    (with_reducible refine (LAR.out).mono ?_)
    rintro e w2 ⟨rfl, k2⟩
    have A := Lib.hid (WG.out w2 k2)
    have K2 := Lib.hid k2
    clear k2
    go_wp2_with fail
    (with_reducible refine (A.out).mono ?_)
    rintro e w3 ⟨rfl, k3⟩
    have K3 := Lib.hid (K2.out.trans k3)
    have B := Lib.hid (RG.out w3 K3.out)
    clear k3
    go_wp2_with fail
    (with_reducible refine (B.out).mono ?_)
    rintro e w4 ⟨rfl, k4⟩
    go_wp2
    go_ret
    exact ⟨rfl, K3.out.trans k4⟩
end Go.Proofs.Ytblannomcfiffaa
