/-
  Layer 11: ReachOn, walked.
-/
import Derived.Test.YtblannomcfiffaaRAround
namespace Go.Proofs.Ytblannomcfiffaa
open Go.RowKit Go.Maps

theorem wlen_of {u : Wd} (h : mayB u = true) : (bar u).size ≤ 16 := (may_size (a := bar u) (by rw [bar_list]; exact h)).1
set_option maxHeartbeats 2000000 in
set_option maxRecDepth 100000 in
theorem on_law (w : World) (v : Value) (s : ByteArray) (bnd : Int) (R : List BRul) (hs : s.size ≤ 140737488355328) (hv : RulesArg w v R) (_hf : RulesFit R) :
    Calls Try.prog 6 #[v, .string s, .int .i64 bnd] w fun e w' => e = .returned (.bool true) ∧ Chg (fun _ => False) w w' := by
  have HV := Lib.hid hv.at_
  obtain ⟨la, cap, rfl, hl0, _⟩ := hv.at_
  have AW := Lib.hid (awake_any w)
  unfold maxLen at hl0
  clear hv
  go_enter Try.func6, Try.ntmps6
  go_wp2_with fail
  (with_reducible refine (AW.out).mono ?_)
  rintro e w1 ⟨rfl, k1⟩
  have LAR := Lib.hid (large_law w w1 _ R [s] HV.out k1 (by simp) (fun x hx => by simp at hx; subst hx; unfold maxLen; omega))
  change Hid (Calls Try.prog 10 #[.slice la R.length cap, .slice (some ⟨w1.heap.size, 0, none⟩) 1 1] (w1.alloc (.cells #[.string s] 23)) _) at LAR
  clear k1 AW
  by_cases hla : largeB R [s] = true
  · rw [hla] at LAR
    clear hla
    go_wp2_with fail
    (with_reducible refine (LAR.out).mono ?_)
    rintro e w2 ⟨rfl, k2⟩
    go_wp2
    go_ret
    exact ⟨rfl, k2⟩
  have hla : largeB R [s] = false := by simpa using hla
  rw [hla] at LAR
  obtain ⟨hR, hsl⟩ := largeB_false hla
  have hs1 : s.size ≤ 100 := hsl s (by simp)
  have ASK := Lib.hid (fun (x : ByteArray) w1 (k : Chg (fun _ => False) w w1) (hx : x.size ≤ 100) => asks_of (s := x) HV.out k hR (by unfold maxLen; omega))
  clear hla hsl hR
  by_cases hb : 60 < bnd
  · have g1 : decide (60 < bnd) = true := by rw [decide_eq_true_eq]; exact hb
    go_wp2_with fail
    (with_reducible refine (LAR.out).mono ?_)
    rintro e w2 ⟨rfl, k2⟩
    go_wp2
    go_ret
    exact ⟨rfl, k2⟩
  have g1 : decide (60 < bnd) = false := by rw [decide_eq_false_iff_not]; exact hb
  generalize hk : rowErr R s bnd = k at *
  by_cases hk0 : k = 0
  · subst hk0
    obtain ⟨hask, r, hr⟩ := rowErr_zero hk
    obtain ⟨m1, m2, m3, m4⟩ := askErr_zero hask
    obtain ⟨s1, s2, s3⟩ := row_some (by omega) hr
    have hrl : r.length ≤ 60 := by omega
    have hrb : (r.length : Int) ≤ bnd := by omega
    have hfrom := row_from hr
    have hrp : 0 < r.length := hfrom.pos
    have FIRST := Lib.hid (show wordAt r 0 = s.data.toList by rw [wordAt_ent, hfrom.first])
    have ALL := Lib.hid (fun w1 (q : Chg (fun _ => False) w w1) => all_ok (ASK.out s w1 q hs1) hk hr)
    have MAY := Lib.hid (show ∀ u ∈ wordsR r, mayB u = true ∧ u.length ≤ s.data.toList.length from fun u hu => reach_may m1 ((s3 u).1 hu))
    have ND := Lib.hid s1
    have ON := Lib.hid (show ∀ u ∈ wordsR r, ∃ r', rowErr R (bar u) bnd = 0 ∧ rowB R (bar u) bnd = some r' ∧ r'.length ≤ 60 ∧ ∀ x ∈ wordsR r', x ∈ wordsR r from fun u hu => by
      obtain ⟨r', h1, h2⟩ := row_on (by omega) hr hu
      have hb' : rowB R (bar u) bnd = some r' := by unfold rowB; rw [bar_list]; exact h1
      refine ⟨r', ?_, hb', by have := (row_some (by omega) h1).2.1; omega, h2⟩
      refine rowErr_around (x := s) (by rw [bar_list]; exact (MAY.out u hu).1) m1 hask ⟨r', hb'⟩)
    have hmm := @run_makeMap Try.prog
    have HZB := Lib.hid Try.zeroBool
    clear hk hr hask m1 m2 m3 m4 s1 s2 s3 hfrom
    go_wp2_with fail
    (with_reducible refine (LAR.out).mono ?_)
    rintro e w2 ⟨rfl, k2⟩
    have A := Lib.hid (ALL.out w2 k2)
    have K2 := Lib.hid k2
    clear k2 LAR ALL
    go_wp2_with fail
    (with_reducible refine (A.out).mono ?_)
    rintro e w6 ⟨va, rfl, o6, k6⟩
    obtain ⟨a6, c6, rfl⟩ := own_shape o6
    have K6 := Lib.hid (K2.out.trans k6)
    have O6 := Lib.hid o6
    have hsz6 : w.heap.size ≤ w6.heap.size := K6.out.size
    clear o6 k6 A K2
    go_wp2_with fail
    go_loopw [43] (fun iv wr => ∃ (k : Nat), k ≤ r.length ∧ iv = .int .i64 k ∧ Hid (MapAt Try.prog 23 4 wr w6.heap.size k (wsetF (· ∈ (wordsR r).take k)) ∧ Chg (· = w6.heap.size) w6 wr)) (fun iv _ => r.length - (intOf iv).toNat)
    case atStart => exact ⟨0, by omega, rfl, Lib.hid ⟨by have := MapAt.made Try.prog 23 4 w6; rw [← wsetF_none] at this; simpa using this, chg_alloc _ _ _⟩⟩
    case round =>
      obtain ⟨k, hkl, rfl, HI⟩ := hrel
      have hcw : Chg (fun _ => False) w6 wr := HI.out.2.mono (fun x hx e => by subst e; omega)
      have OX := Lib.hid (own_chg O6.out hcw (fun _ _ e => e))
      have KW := Lib.hid hcw
      clear hcw
      by_cases hlt : k < r.length
      · obtain ⟨g, rfl, cx⟩ := own_word OX.out hlt
        obtain ⟨hmu, hul⟩ := MAY.out _ (wordAt_mem hlt)
        have hbz := wlen_of hmu
        have hle : (bar (wordAt r k)).size ≤ s.size := by rw [← size_list, ← size_list, bar_list]; exact hul
        have KEY := Lib.hid (wkey_of (bar (wordAt r k)) (by unfold maxLen; omega))
        rw [bar_list] at KEY
        have NI := Lib.hid (show ¬ wordAt r k ∈ (wordsR r).take k from fun hm => by
          have h1 := wordsR_get hlt
          have h2 := ND.out
          rw [← List.take_append_drop k (wordsR r), List.nodup_append] at h2
          have h3 : wordAt r k ∈ (wordsR r).drop k := by
            refine List.mem_of_getElem? (i := 0) ?_
            rw [List.getElem?_drop]; exact h1
          exact h2.2.2 _ hm _ h3 rfl)
        have TK := Lib.hid (show (fun u => (u ∈ (wordsR r).take k) ∨ u = wordAt r k) = (· ∈ (wordsR r).take (k + 1)) by
          funext u
          rw [eq_iff_iff, take_mem_succ (wordsR_get hlt), eq_comm (a := u)])
        have MA := Lib.hid (rmay_any wr (bar (wordAt r k)) (by omega))
        rw [bar_list, hmu] at MA
        have g2 : decide (s.size < (bar (wordAt r k)).size) = false := by rw [decide_eq_false_iff_not]; omega
        have M := Lib.hid HI.out.1
        have C := Lib.hid HI.out.2
        clear hmu hul hle hbz HI
        go_wp2_with (at_lookup; refine wpList_look_bool rfl (.tmp 47) (.tmp 48) 44 rfl 23 4 Try.wordKeyed Try.underlying44 Try.underlying4 (HZB.out _) w6.heap.size k _ rfl M.out _ (.string (wordAt r k)) rfl KEY.out false ?d1 ?dnext)
        case d1 => rw [wsetF_out (S := fun x => x ∈ (wordsR r).take k) NI.out]; rfl
        go_wp2_with fail
        (with_reducible refine (MA.out).mono ?_)
        rintro e w7 ⟨rfl, k7⟩
        have M7 := Lib.hid (M.out.chg k7 (fun e => e))
        have C7 := Lib.hid (C.out.trans (k7.mono (fun _ _ e => e.elim)))
        clear k7 M C MA
        go_wp2_with (at_mapUpdate; refine wpList_put rfl (.tmp 62) (.tmp 63) (.const (.bool true)) 44 rfl 23 4 Try.wordKeyed Try.underlying44 w6.heap.size k _ rfl M7.out ?c1 (.string (bar (wordAt r k))) (.bool true) (.string (wordAt r k)) rfl rfl KEY.out (.lit (.bool true)) [] (plainElem_bool Try.underlying4 true) ?next)
        case c1 => unfold maxLen; omega
        intro w8 m8 k8
        rw [wsetF_put, TK.out] at m8
        have M8 := Lib.hid m8
        have K8 := Lib.hid (C7.out.trans k8)
        clear m8 k8 M7 C7
        go_wp2
        go_roundw
        case rel => exact ⟨k + 1, by omega, by go_num, Lib.hid ⟨M8.out, K8.out⟩⟩
        case measure => simp [intOf]; omega
      · obtain rfl : k = r.length := by omega
        have M := HI.out.1
        rw [List.take_of_length_le (by rw [wordsR_length]; omega)] at M
        have MM := Lib.hid M
        obtain ⟨g0, rfl, c0⟩ := own_word OX.out hrp
        rw [FIRST.out, bar_of] at c0
        have n1 : (s.toList != s.toList) = false := by simp
        have n2 : ((r.length : Int) == 0) = false := by rw [beq_eq_false_iff_ne]; omega
        have n3 : decide (bnd < (r.length : Int)) = false := by rw [decide_eq_false_iff_not]; omega
        have KF := Lib.hid (K6.out.trans KW.out)
        obtain ⟨wk, hwk⟩ : ∃ wk, wk = wr := ⟨_, rfl⟩
        have MK := Lib.hid (show MapAt Try.prog 23 4 wk w6.heap.size r.length (wsetF (· ∈ wordsR r)) by rw [hwk]; exact M)
        have OK := Lib.hid (show wk.ownsRow w2.heap.size 23 1 (.slice (some ⟨g0, 0, none⟩) r.length c6) r.length (rwCells r) by rw [hwk]; exact OX.out)
        have KK := Lib.hid (show Chg (fun _ => False) w wk by rw [hwk]; exact KF.out)
        have HWK := Lib.hid hwk
        clear M HI hwk
        go_wp2
        go_loopw [83] (fun iv wr => ∃ (k : Nat), k ≤ r.length ∧ iv = .int .i64 k ∧ Hid (Chg (fun _ => False) wk wr)) (fun iv _ => r.length - (intOf iv).toNat)
        case atStart => exact ⟨0, by omega, rfl, Lib.hid (by rw [HWK.out]; exact Chg.refl _ _)⟩
        case round =>
          obtain ⟨j, hjl, rfl, HC⟩ := hrel
          have OJ := Lib.hid (own_chg OK.out HC.out (fun _ _ e => e))
          have MJ := Lib.hid (MK.out.chg HC.out (fun e => e))
          have KJ := Lib.hid (KK.out.trans HC.out)
          by_cases hlt : j < r.length
          · obtain ⟨g, eg, cx⟩ := own_word OJ.out hlt
            cases eg
            obtain ⟨r', hre, hrb', hrl', hrin⟩ := ON.out _ (wordAt_mem hlt)
            have hbz := wlen_of (MAY.out _ (wordAt_mem hlt)).1
            have AL := Lib.hid (all_ok (ASK.out (bar (wordAt r j)) wr KJ.out (by omega)) hre hrb')
            have RIN := Lib.hid hrin
            have MY := Lib.hid (show ∀ u ∈ wordsR r', (bar u).size ≤ 16 from fun u hu => wlen_of (MAY.out _ (hrin u hu)).1)
            clear hre hrb' hrin hbz
            generalize bar (wordAt r j) = xj at *
            go_wp2_with fail
            (with_reducible refine (AL.out).mono ?_)
            rintro e w9 ⟨v9, rfl, o9, k9⟩
            obtain ⟨a9, c9, rfl⟩ := own_shape o9
            have O9 := Lib.hid o9
            have M9 := Lib.hid (MJ.out.chg k9 (fun e => e))
            have HC9 := Lib.hid (HC.out.trans k9)
            clear o9 k9 AL
            go_wp2
            go_loop [98] (fun iv => ∃ (k : Nat), k ≤ r'.length ∧ iv = .int .i64 k) (fun iv => r'.length - (intOf iv).toNat)
            case atStart => exact ⟨0, by omega, rfl⟩
            case round =>
              obtain ⟨i, hil, rfl⟩ := hrel
              by_cases hlt2 : i < r'.length
              · obtain ⟨g9, rfl, cy⟩ := own_word O9.out hlt2
                have hy := MY.out _ (wordAt_mem hlt2)
                have KEY := Lib.hid (wkey_of (bar (wordAt r' i)) (by unfold maxLen; omega))
                rw [bar_list] at KEY
                have IN := Lib.hid (RIN.out _ (wordAt_mem hlt2))
                clear hy
                go_wp2_with (at_lookup; refine wpList_look_bool rfl (.tmp 102) (.tmp 103) 44 rfl 23 4 Try.wordKeyed Try.underlying44 Try.underlying4 (HZB.out _) w6.heap.size r.length _ rfl M9.out _ (.string (wordAt r' i)) rfl KEY.out true ?e1 ?enext)
                case e1 => rw [wsetF_in (S := fun x => x ∈ wordsR r) IN.out]; rfl
                go_wp2
                go_round
                case rel => exact ⟨i + 1, by omega, by go_num⟩
                case measure => simp [intOf]; omega
              · obtain rfl : i = r'.length := by omega
                go_wp2
                go_roundw
                case rel => exact ⟨j + 1, by omega, by go_num, HC9⟩
                case measure => simp [intOf]; omega
          · obtain rfl : j = r.length := by omega
            go_wp2
            go_ret
            exact ⟨rfl, KJ.out⟩
  · have ALL := Lib.hid (fun w1 (q : Chg (fun _ => False) w w1) => all_err (ASK.out s w1 q hs1) hk hk0)
    have g2 : (k != 0) = true := by rw [bne_iff_ne]; exact hk0
    clear hk hk0
    go_wp2_with fail
    (with_reducible refine (LAR.out).mono ?_)
    rintro e w2 ⟨rfl, k2⟩
    have A := Lib.hid (ALL.out w2 k2)
    have K2 := Lib.hid k2
    clear k2 LAR ALL
    go_wp2_with fail
    (with_reducible refine (A.out).mono ?_)
    rintro e w3 ⟨rfl, k3⟩
    go_wp2
    go_ret
    exact ⟨rfl, K2.out.trans k3⟩
end Go.Proofs.Ytblannomcfiffaa
