/-
  Layer 11: ReachAround, walked.
-/
import Derived.Test.YtblannomcfiffaaRPathLaw
namespace Go.Proofs.Ytblannomcfiffaa
open Go.RowKit Go.Maps

open Classical in
/-- A set of words, as a map. -/
noncomputable def wsetF (S : Wd → Prop) : Lit → Option (DataW Unit) := fun kl => if ∃ u, S u ∧ kl = .string u then some (.lit (.bool true)) else none
theorem wsetF_none : wsetF (fun _ => False) = fun _ => none := by
  funext kl
  unfold wsetF
  rw [if_neg]
  rintro ⟨_, h, _⟩; exact h
theorem wsetF_in {S : Wd → Prop} {u : Wd} (h : S u) : wsetF S (.string u) = some (.lit (.bool true)) := by
  unfold wsetF; rw [if_pos ⟨u, h, rfl⟩]
theorem wsetF_out {S : Wd → Prop} {u : Wd} (h : ¬ S u) : wsetF S (.string u) = none := by
  unfold wsetF
  rw [if_neg]
  rintro ⟨x, hx, e⟩
  rw [Lit.string.injEq] at e
  exact h (e ▸ hx)
theorem wsetF_put (S : Wd → Prop) (x : Wd) : putF (wsetF S) (.string x) (some (.lit (.bool true))) = wsetF (fun u => S u ∨ u = x) := by
  funext kl
  unfold putF
  by_cases h : kl = .string x
  · rw [if_pos h, h, wsetF_in (.inr rfl)]
  · rw [if_neg h]
    unfold wsetF
    by_cases h2 : ∃ u, S u ∧ kl = .string u
    · rw [if_pos h2, if_pos]
      obtain ⟨u, q1, q2⟩ := h2
      exact ⟨u, .inl q1, q2⟩
    · rw [if_neg h2, if_neg]
      rintro ⟨u, q1 | q1, q2⟩
      · exact h2 ⟨u, q1, q2⟩
      · subst q1; exact h q2
theorem Try.zeroBool (w : World) : (zeroValue 4).run Try.prog w = .ok (.bool false) w := by kernel_rfl
theorem rowErr_around {R : List BRul} {s x : ByteArray} {b : Int} (hs : mayB s.data.toList = true) (hx : mayB x.data.toList = true) (h : askErr (mayB x.data.toList) b R.length = 0) (hr : ∃ r, rowB R s b = some r) : rowErr R s b = 0 := by
  unfold rowErr
  rw [hs, ← hx, if_pos h, if_neg]
  obtain ⟨r, hr⟩ := hr
  rw [hr]; simp
set_option maxHeartbeats 2000000 in
set_option maxRecDepth 100000 in
theorem around_law (w : World) (v : Value) (p s q : ByteArray) (bnd : Int) (R : List BRul) (hp : p.size ≤ 140737488355328) (hs : s.size ≤ 140737488355328) (hq : q.size ≤ 140737488355328) (hv : RulesArg w v R) (_hf : RulesFit R) :
    Calls Try.prog 8 #[v, .string p, .string s, .string q, .int .i64 bnd] w fun e w' => e = .returned (.bool true) ∧ Chg (fun _ => False) w w' := by
  have HV := Lib.hid hv.at_
  obtain ⟨la, cap, rfl, hl0, _⟩ := hv.at_
  have AW := Lib.hid (awake_any w)
  unfold maxLen at hl0
  clear hv
  have z1 : p.size + s.size ≤ 9223372036854775807 := by omega
  have z2 : (p ++ s).size + q.size ≤ 9223372036854775807 := by rw [ByteArray.size_append]; omega
  have hwz : (p ++ s ++ q).size = p.size + s.size + q.size := by rw [ByteArray.size_append, ByteArray.size_append]
  have hwl : (p ++ s ++ q).data.toList = p.data.toList ++ s.data.toList ++ q.data.toList := by simp [ByteArray.data_append]
  have HWZ := Lib.hid hwz
  have HWL := Lib.hid hwl
  clear hwz hwl
  go_enter Try.func8, Try.ntmps8
  go_wp2_with fail
  (with_reducible refine (AW.out).mono ?_)
  rintro e w1 ⟨rfl, k1⟩
  have LAR := Lib.hid (large_law w w1 _ R [p ++ s ++ q] HV.out k1 (by simp) (fun x hx => by simp at hx; subst hx; rw [HWZ.out]; unfold maxLen; omega))
  change Hid (Calls Try.prog 10 #[.slice la R.length cap, .slice (some ⟨w1.heap.size, 0, none⟩) 1 1] (w1.alloc (.cells #[.string (p ++ s ++ q)] 23)) _) at LAR
  clear k1 AW
  by_cases hla : largeB R [p ++ s ++ q] = true
  · rw [hla] at LAR
    clear hla
    go_wp2_with fail
    (with_reducible refine (LAR.out).mono ?_)
    rintro e w2 ⟨rfl, k2⟩
    go_wp2
    go_ret
    exact ⟨rfl, k2⟩
  have hla : largeB R [p ++ s ++ q] = false := by simpa using hla
  rw [hla] at LAR
  obtain ⟨hR, hsl⟩ := largeB_false hla
  have hx1 : (p ++ s ++ q).size ≤ 100 := hsl _ (by simp)
  have hx2 : p.size + s.size + q.size ≤ 100 := by rw [← HWZ.out]; exact hx1
  have ASK := Lib.hid (fun w1 (k : Chg (fun _ => False) w w1) => asks_of (s := s) HV.out k hR (by unfold maxLen; omega))
  have ASW := Lib.hid (fun w1 (k : Chg (fun _ => False) w w1) => asks_of (s := p ++ s ++ q) HV.out k hR (by rw [HWZ.out]; unfold maxLen; omega))
  have MW := Lib.hid (fun w => rmay_any w (p ++ s ++ q) (by rw [HWZ.out]; omega))
  have MS := Lib.hid (fun w => rmay_any w s (by omega))
  clear hla hsl hR
  by_cases hb : 60 < bnd
  · have g1 : decide (60 < bnd) = true := by rw [decide_eq_true_eq]; exact hb
    go_wp2_with fail
    (with_reducible refine (LAR.out).mono ?_)
    rintro e w2 ⟨rfl, k2⟩
    go_wp2
    go_ret
    exact ⟨rfl, k2⟩
  have g1 : decide (60 < bnd) = false := by rw [decide_eq_false_iff_not]; exact hb
  by_cases hp2 : p.size % 2 = 1
  · have g2 : ((p.size : Int) % 2 == 1) = true := by rw [beq_iff_eq]; omega
    clear hp2
    go_wp2_with fail
    (with_reducible refine (LAR.out).mono ?_)
    rintro e w2 ⟨rfl, k2⟩
    go_wp2
    go_ret
    exact ⟨rfl, k2⟩
  have g2 : ((p.size : Int) % 2 == 1) = false := by rw [beq_eq_false_iff_ne]; omega
  by_cases hs2 : s.size % 2 = 1
  · have g3 : ((s.size : Int) % 2 == 1) = true := by rw [beq_iff_eq]; omega
    clear hs2
    go_wp2_with fail
    (with_reducible refine (LAR.out).mono ?_)
    rintro e w2 ⟨rfl, k2⟩
    go_wp2
    go_ret
    exact ⟨rfl, k2⟩
  have g3 : ((s.size : Int) % 2 == 1) = false := by rw [beq_eq_false_iff_ne]; omega
  cases hmx : mayB (p ++ s ++ q).data.toList with
  | false =>
    rw [hmx] at MW
    clear hmx
    go_wp2_with fail
    (with_reducible refine (LAR.out).mono ?_)
    rintro e w2 ⟨rfl, k2⟩
    go_wp2_with fail
    (with_reducible refine (MW.out _).mono ?_)
    rintro e w3 ⟨rfl, k3⟩
    go_wp2
    go_ret
    exact ⟨rfl, k2.trans k3⟩
  | true =>
  rw [hmx] at MW
  cases hms : mayB s.data.toList with
  | false =>
    rw [hms] at MS
    clear hmx hms
    go_wp2_with fail
    (with_reducible refine (LAR.out).mono ?_)
    rintro e w2 ⟨rfl, k2⟩
    go_wp2_with fail
    (with_reducible refine (MW.out _).mono ?_)
    rintro e w3 ⟨rfl, k3⟩
    go_wp2_with fail
    (with_reducible refine (MS.out _).mono ?_)
    rintro e w4 ⟨rfl, k4⟩
    go_wp2
    go_ret
    exact ⟨rfl, (k2.trans k3).trans k4⟩
  | true =>
  rw [hms] at MS
  generalize hkx : rowErr R (p ++ s ++ q) bnd = kx at *
  by_cases hk0 : kx = 0
  · subst hk0
    obtain ⟨haskx, rx, hrx⟩ := rowErr_zero hkx
    obtain ⟨_, m2, m3, m4⟩ := askErr_zero haskx
    obtain ⟨_, s2, s3⟩ := row_some (by omega) hrx
    have hrx' : rowOf (R.map brul) (p.data.toList ++ s.data.toList ++ q.data.toList) bnd.toNat = some rx := by
      unfold rowB at hrx; rw [← HWL.out]; exact hrx
    obtain ⟨r, hr, hin⟩ := row_around (n := p.size / 2) (by omega) (by rw [size_list]; omega) hrx'
    have hrs := rowErr_around hms hmx haskx ⟨r, hr⟩
    obtain ⟨_, t2, t3⟩ := row_some (by omega) hr
    have hrl : r.length ≤ 60 := by omega
    have hxl : rx.length ≤ 60 := by omega
    have MY := Lib.hid (show ∀ u ∈ wordsR r, u.length ≤ 16 from fun u hu => by
      have := may_size (a := bar u) (by rw [bar_list]; exact (reach_may hms ((t3 u).1 hu)).1)
      have e := size_list (bar u)
      rw [bar_list] at e
      omega)
    have MX := Lib.hid (show ∀ u ∈ wordsR rx, u.length ≤ 16 from fun u hu => by
      have := may_size (a := bar u) (by rw [bar_list]; exact (reach_may hmx ((s3 u).1 hu)).1)
      have e := size_list (bar u)
      rw [bar_list] at e
      omega)
    have ALL := Lib.hid (fun w1 (q : Chg (fun _ => False) w w1) => all_ok (ASK.out w1 q) hrs hr)
    have ALX := Lib.hid (fun w1 (q : Chg (fun _ => False) w w1) => all_ok (ASW.out w1 q) hkx hrx)
    have HIN := Lib.hid hin
    have hmm := @run_makeMap Try.prog
    have HZB := Lib.hid Try.zeroBool
    clear hin hr hrs t2 t3 hrx hrx' s2 s3 m2 m3 m4 haskx hkx hmx hms
    go_wp2_with fail
    (with_reducible refine (LAR.out).mono ?_)
    rintro e w2 ⟨rfl, k2⟩
    have K2 := Lib.hid k2
    clear k2 LAR
    go_wp2_with fail
    (with_reducible refine (MW.out _).mono ?_)
    rintro e w3 ⟨rfl, k3⟩
    have K3 := Lib.hid (K2.out.trans k3)
    clear k3 K2
    go_wp2_with fail
    (with_reducible refine (MS.out _).mono ?_)
    rintro e w4 ⟨rfl, k4⟩
    have K4 := Lib.hid (K3.out.trans k4)
    have A := Lib.hid (ALL.out w4 K4.out)
    clear k4 K3 ALL MW MS
    go_wp2_with fail
    (with_reducible refine (A.out).mono ?_)
    rintro e w5 ⟨va, rfl, o5, k5⟩
    obtain ⟨a5, c5, rfl⟩ := own_shape o5
    have K5 := Lib.hid (K4.out.trans k5)
    have O5 := Lib.hid o5
    have B := Lib.hid (ALX.out w5 K5.out)
    clear o5 k5 A ALX K4
    go_wp2_with fail
    (with_reducible refine (B.out).mono ?_)
    rintro e w6 ⟨vx, rfl, o6, k6⟩
    obtain ⟨a6, c6, rfl⟩ := own_shape o6
    have K6 := Lib.hid (K5.out.trans k6)
    have O6 := Lib.hid o6
    have O56 := Lib.hid (own_chg O5.out k6 (fun _ _ e => e))
    have hsz6 : w.heap.size ≤ w6.heap.size := K6.out.size
    clear o6 k6 B K5 O5
    go_wp2_with fail
    go_loopw [87] (fun iv wr => ∃ (k : Nat), k ≤ rx.length ∧ iv = .int .i64 k ∧ Hid (MapAt Try.prog 23 4 wr w6.heap.size k (wsetF (· ∈ (wordsR rx).take k)) ∧ Chg (· = w6.heap.size) (w6.alloc (.map #[] 0)) wr)) (fun iv _ => rx.length - (intOf iv).toNat)
    case atStart => exact ⟨0, by omega, rfl, Lib.hid ⟨by have := MapAt.made Try.prog 23 4 w6; rw [← wsetF_none] at this; simpa using this, Chg.refl _ _⟩⟩
    case round =>
      obtain ⟨k, hkl, rfl, HI⟩ := hrel
      have hcw : Chg (fun _ => False) w6 wr := (chg_alloc (fun _ => False) w6 (.map #[] 0)).next HI.out.2 (fun x hx e => by subst e; omega)
      have OX := Lib.hid (own_chg O6.out hcw (fun _ _ e => e))
      have KW := Lib.hid hcw
      clear hcw
      by_cases hlt : k < rx.length
      · obtain ⟨g, rfl, cx⟩ := own_word OX.out hlt
        have hwz := MX.out _ (wordAt_mem hlt)
        have KEY := Lib.hid (wkey_of (bar (wordAt rx k)) (by rw [← size_list, bar_list]; unfold maxLen; omega))
        rw [bar_list] at KEY
        have TK := Lib.hid (show (fun u => (u ∈ (wordsR rx).take k) ∨ u = wordAt rx k) = (· ∈ (wordsR rx).take (k + 1)) by
          funext u
          rw [eq_iff_iff, take_mem_succ (wordsR_get hlt), eq_comm (a := u)])
        have M := Lib.hid HI.out.1
        have C := Lib.hid HI.out.2
        clear hwz
        go_wp2_with (at_mapUpdate; refine wpList_put rfl (.tmp 91) (.tmp 92) (.const (.bool true)) 44 rfl 23 4 Try.wordKeyed Try.underlying44 w6.heap.size k _ rfl M.out ?c1 (.string (bar (wordAt rx k))) (.bool true) (.string (wordAt rx k)) rfl rfl KEY.out (.lit (.bool true)) [] (plainElem_bool Try.underlying4 true) ?next)
        case c1 => unfold maxLen; omega
        intro w8 m8 k8
        rw [wsetF_put, TK.out] at m8
        have M8 := Lib.hid m8
        have K8 := Lib.hid (C.out.trans k8)
        clear m8 k8 M C
        go_wp2
        go_roundw
        case rel => exact ⟨k + 1, by omega, by go_num, Lib.hid ⟨M8.out, K8.out⟩⟩
        case measure => simp [intOf]; omega
      · obtain rfl : k = rx.length := by omega
        have M := HI.out.1
        rw [List.take_of_length_le (by rw [wordsR_length]; omega)] at M
        have MM := Lib.hid M
        have OA := Lib.hid (own_chg O56.out KW.out (fun _ _ e => e))
        have KF := Lib.hid (K6.out.trans KW.out)
        clear M HI OX KW
        go_wp2
        go_loop [96] (fun iv => ∃ (k : Nat), k ≤ r.length ∧ iv = .int .i64 k) (fun iv => r.length - (intOf iv).toNat)
        case atStart => exact ⟨0, by omega, rfl⟩
        case round =>
          obtain ⟨j, hjl, rfl⟩ := hrel
          by_cases hlt : j < r.length
          · obtain ⟨g, rfl, cx⟩ := own_word OA.out hlt
            have hwz := MY.out _ (wordAt_mem hlt)
            have hbz : (bar (wordAt r j)).size ≤ 16 := by rw [← size_list, bar_list]; exact hwz
            have y1 : p.size + (bar (wordAt r j)).size ≤ 9223372036854775807 := by omega
            have y2 : (p ++ bar (wordAt r j)).size + q.size ≤ 9223372036854775807 := by rw [ByteArray.size_append]; omega
            have KEY := wkey_of (p ++ bar (wordAt r j) ++ q) (by rw [ByteArray.size_append, ByteArray.size_append]; unfold maxLen; omega)
            rw [show (p ++ bar (wordAt r j) ++ q).data.toList = p.data.toList ++ wordAt r j ++ q.data.toList by simp [ByteArray.data_append, bar]] at KEY
            have KEY2 := Lib.hid KEY
            have IN := Lib.hid (HIN.out _ (wordAt_mem hlt))
            clear KEY hwz hbz
            go_wp2_with (at_lookup; refine wpList_look_bool rfl (.tmp 100) (.tmp 105) 44 rfl 23 4 Try.wordKeyed Try.underlying44 Try.underlying4 (HZB.out _) w6.heap.size rx.length _ rfl MM.out _ (.string (p.data.toList ++ wordAt r j ++ q.data.toList)) rfl KEY2.out true ?d1 ?dnext)
            case d1 => rw [wsetF_in (S := fun x => x ∈ wordsR rx) (by have := IN.out; simpa [List.append_assoc] using this)]; rfl
            go_wp2
            go_round
            case rel => exact ⟨j + 1, by omega, by go_num⟩
            case measure => simp [intOf]; omega
          · obtain rfl : j = r.length := by omega
            go_wp2
            go_ret
            exact ⟨rfl, KF.out⟩
  · have ALX := Lib.hid (fun w1 (q : Chg (fun _ => False) w w1) => all_err (ASW.out w1 q) hkx hk0)
    have h1 : (kx != 0) = true := by rw [bne_iff_ne]; exact hk0
    generalize hks : rowErr R s bnd = ks at *
    clear hkx hk0 hmx hms
    by_cases hs0 : ks = 0
    · subst hs0
      obtain ⟨_, r, hr⟩ := rowErr_zero hks
      have ALL := Lib.hid (fun w1 (q : Chg (fun _ => False) w w1) => all_ok (ASK.out w1 q) hks hr)
      clear hks hr
      go_wp2_with fail
      (with_reducible refine (LAR.out).mono ?_)
      rintro e w2 ⟨rfl, k2⟩
      have K2 := Lib.hid k2
      clear k2 LAR
      go_wp2_with fail
      (with_reducible refine (MW.out _).mono ?_)
      rintro e w3 ⟨rfl, k3⟩
      have K3 := Lib.hid (K2.out.trans k3)
      clear k3 K2
      go_wp2_with fail
      (with_reducible refine (MS.out _).mono ?_)
      rintro e w4 ⟨rfl, k4⟩
      have K4 := Lib.hid (K3.out.trans k4)
      have A := Lib.hid (ALL.out w4 K4.out)
      clear k4 K3 ALL MW MS
      go_wp2_with fail
      (with_reducible refine (A.out).mono ?_)
      rintro e w5 ⟨va, rfl, o5, k5⟩
      obtain ⟨a5, c5, rfl⟩ := own_shape o5
      have K5 := Lib.hid (K4.out.trans k5)
      have B := Lib.hid (ALX.out w5 K5.out)
      clear o5 k5 A ALX K4
      go_wp2_with fail
      (with_reducible refine (B.out).mono ?_)
      rintro e w6 ⟨rfl, k6⟩
      go_wp2
      go_ret
      exact ⟨rfl, K5.out.trans k6⟩
    · have ALL := Lib.hid (fun w1 (q : Chg (fun _ => False) w w1) => all_err (ASK.out w1 q) hks hs0)
      have h2 : (ks != 0) = true := by rw [bne_iff_ne]; exact hs0
      have h3 : (ks == 0) = false := by rw [beq_eq_false_iff_ne]; exact hs0
      clear hks hs0
      go_wp2_with fail
      (with_reducible refine (LAR.out).mono ?_)
      rintro e w2 ⟨rfl, k2⟩
      have K2 := Lib.hid k2
      clear k2 LAR
      go_wp2_with fail
      (with_reducible refine (MW.out _).mono ?_)
      rintro e w3 ⟨rfl, k3⟩
      have K3 := Lib.hid (K2.out.trans k3)
      clear k3 K2
      go_wp2_with fail
      (with_reducible refine (MS.out _).mono ?_)
      rintro e w4 ⟨rfl, k4⟩
      have K4 := Lib.hid (K3.out.trans k4)
      have A := Lib.hid (ALL.out w4 K4.out)
      clear k4 K3 ALL MW MS
      go_wp2_with fail
      (with_reducible refine (A.out).mono ?_)
      rintro e w5 ⟨rfl, k5⟩
      have K5 := Lib.hid (K4.out.trans k5)
      have B := Lib.hid (ALX.out w5 K5.out)
      clear k5 A ALX K4
      go_wp2_with fail
      (with_reducible refine (B.out).mono ?_)
      rintro e w6 ⟨rfl, k6⟩
      go_wp2
      go_ret
      exact ⟨rfl, K5.out.trans k6⟩
end Go.Proofs.Ytblannomcfiffaa
