/-
  ProofOwn, walked.
-/
import Derived.Test.YtjifdfhibkipnaaGreatQPArg
namespace Go.Proofs.YtjifdfhibkipnaaGreat
open Go.RowKit Go.Maps

theorem check_own (R : List BRul) (C : List BCert) (x y : ByteArray) : check13 R C ⟨[], []⟩ x y = if mayB x.data.toList = true ∧ x = y then 0 else 13 := by
  have e : bar x.data.toList = x := by unfold bar; simp
  unfold check13 checkI leadsB walkI
  simp only [if_true, e, Bool.and_eq_true, decide_eq_true_eq]
set_option maxHeartbeats 8000000 in
set_option maxRecDepth 100000 in
theorem own_law (w : World) (v u : Value) (x y : ByteArray) (R : List BRul) (P : List (BCert × Value)) (_ : x.size ≤ maxLen) (_ : y.size ≤ maxLen) (hv : RulesArg w v R) (_ : RulesFit R) (hca : CertsArg w u P) (_ : CertsFit P) :
    Calls Tryz.prog 9 #[v, u, .string x, .string y] w fun e w' => e = .returned (.bool true) ∧ Chg (fun _ => False) w w' := by
  have hu := hca.at_
  obtain ⟨ra, rc, rfl, hl0, _⟩ := hv.at_
  have HV := Lib.hid hv
  have HU := Lib.hid hu
  obtain ⟨la, cap, rfl, hu0, _⟩ := hu
  have AW := Lib.hid (awake13_any w)
  have LG := Lib.hid (fun w0 w1 (k : Chg (fun _ => False) w w0) (k2 : Chg (fun _ => False) w0 w1) lv L h hL => large13_any w0 w1 ra R rc _ P 1 lv L ((HV.out.at_.chg k (fun _ _ e => e)).imp (fun j hj => Nat.lt_of_lt_of_le hj k.size)) ((HU.out.chg k (fun _ _ e => e)).up (fun j hj => Nat.lt_of_lt_of_le hj k.size)) h k2 hL)
  clear hv hl0 hu0 hca
  go_enter Tryz.func9, Tryz.ntmps9
  go_wp2_with fail
  (with_reducible refine (AW.out).mono ?_)
  rintro e w1 ⟨rfl, k1⟩
  have K1 := Lib.hid k1
  have kl := chg_alloc (fun _ => False) w1 (.cells #[.string x, .string y] 24)
  have L1 := Lib.hid (LG.out w1 _ k1 kl _ [x, y] (own_two w1 x y) (by simp))
  clear AW LG k1 kl
  go_wp2_with fail
  generalize w1.alloc (.cells #[.string x, .string y] 24) = w2 at *
  (with_reducible refine (L1.out).mono ?_)
  rintro e w3 ⟨lg, rfl, k3, hlg⟩
  have K3 := Lib.hid (K1.out.trans k3)
  clear L1 k3 K1
  cases lg with
  | true =>
    go_wp2
    go_ret
    exact ⟨rfl, K3.out⟩
  | false =>
  have FIT := Lib.hid (hlg rfl)
  clear hlg
  have hxs : x.size ≤ maxLen := by have := FIT.out.more x (by simp); unfold maxLen; omega
  have hys : y.size ≤ maxLen := by have := FIT.out.more y (by simp); unfold maxLen; omega
  obtain ⟨a1, a2, a3, a4⟩ := FIT.out.args HV.out HU.out rfl K3.out
  have CK := check_any13 w3 ra R rc _ (.slice none 0 0) (.slice none 0 0) P ⟨[], []⟩ x y a1 a2 (by have := FIT.out.rules; omega) a3 (by omega) ⟨items_nil _ _, (stepsN_own (l := []) (own_none _ 0 _ _)).up (fun k hk => by cases hk)⟩ (by simp) hxs
  rw [check_own] at CK
  have CK := Lib.hid CK
  have hx1 : x.size ≤ 140737488355328 := by have := FIT.out.more x (by simp); omega
  have MY := Lib.hid (fun w => rmay_any w x hx1)
  have g0 : (x.toList == y.toList) = decide (x = y) := str_eq _ _
  clear a1 a2 a3 a4
  cases hm : mayB x.data.toList with
  | false =>
    rw [hm] at MY CK
    rw [if_neg (by simp)] at CK
    go_wp2_with fail
    (with_reducible refine (CK.out).mono ?_)
    rintro e w4 ⟨rfl, k4⟩
    have K4 := Lib.hid (K3.out.trans k4)
    clear k4
    go_wp2_with fail
    (with_reducible refine (MY.out _).mono ?_)
    rintro e w5 ⟨rfl, k5⟩
    have K5 := Lib.hid (K4.out.trans k5)
    clear k5
    go_wp2
    go_ret
    exact ⟨rfl, K5.out⟩
  | true =>
    rw [hm] at MY CK
    by_cases hxy : x = y
    · rw [if_pos ⟨rfl, hxy⟩] at CK
      rw [decide_eq_true hxy] at g0
      clear hxy
      go_wp2_with fail
      (with_reducible refine (CK.out).mono ?_)
      rintro e w4 ⟨rfl, k4⟩
      have K4 := Lib.hid (K3.out.trans k4)
      clear k4
      go_wp2_with fail
      (with_reducible refine (MY.out _).mono ?_)
      rintro e w5 ⟨rfl, k5⟩
      have K5 := Lib.hid (K4.out.trans k5)
      clear k5
      go_wp2
      go_ret
      exact ⟨rfl, K5.out⟩
    · rw [if_neg (fun q => hxy q.2)] at CK
      rw [decide_eq_false hxy] at g0
      clear hxy
      go_wp2_with fail
      (with_reducible refine (CK.out).mono ?_)
      rintro e w4 ⟨rfl, k4⟩
      have K4 := Lib.hid (K3.out.trans k4)
      clear k4
      go_wp2_with fail
      (with_reducible refine (MY.out _).mono ?_)
      rintro e w5 ⟨rfl, k5⟩
      have K5 := Lib.hid (K4.out.trans k5)
      clear k5
      go_wp2
      go_ret
      exact ⟨rfl, K5.out⟩
end Go.Proofs.YtjifdfhibkipnaaGreat
