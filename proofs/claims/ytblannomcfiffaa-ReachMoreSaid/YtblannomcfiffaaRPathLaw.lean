/-
  Layer 11: ReachPath, walked.
-/
import Derived.Test.YtblannomcfiffaaRWalksLaw
namespace Go.Proofs.Ytblannomcfiffaa
open Go.RowKit Go.Maps

theorem asks_of {w w1 : World} {v : Value} {R : List BRul} {s : ByteArray} (h : RulesAt w v (· < w.heap.size) R) (k : Chg (fun _ => False) w w1) (hR : (R.length ≤ 30 ∧ ∀ r ∈ R, r.1.size ≤ 100 ∧ r.2.size ≤ 100) ∨ 400 < R.length) (hs : s.size ≤ maxLen) : Asks w1 v R s :=
  ⟨rules_up h k, hR.imp (fun q => ⟨by omega, fun r hr => by have := (q.2 r hr).1; omega⟩) id, hs⟩
theorem rw_words (r : List Ent) : rwCells r = wcells ((wordsR r).map bar) := by unfold rwCells wcells wordsR; rw [List.map_map, List.map_map]; rfl
theorem take_mem_succ {l : List Wd} {k : Nat} {x t : Wd} (hx : l[k]? = some x) : t ∈ l.take (k + 1) ↔ t ∈ l.take k ∨ x = t := by
  rw [List.take_add_one, hx, List.mem_append]
  simp [eq_comm]
theorem wordsR_get {r : List Ent} {k : Nat} (hk : k < r.length) : (wordsR r)[k]? = some (wordAt r k) := by
  unfold wordsR wordAt
  rw [List.getElem?_map, List.getD_eq_getElem?_getD, List.getElem?_eq_getElem hk]; rfl
theorem wordAt_idx {r : List Ent} {t : Wd} (h : t ∈ wordsR r) : (wordsR r).idxOf t < r.length ∧ wordAt r ((wordsR r).idxOf t) = t := by
  have hl : (wordsR r).idxOf t < (wordsR r).length := List.idxOf_lt_length_of_mem h
  refine ⟨by rw [← wordsR_length]; exact hl, ?_⟩
  have h1 := wordsR_get (r := r) (k := (wordsR r).idxOf t) (by rw [← wordsR_length]; exact hl)
  rw [List.getElem?_eq_getElem hl, List.getElem_idxOf hl] at h1
  exact (Option.some.inj h1).symm
theorem own_word {w : World} {base : Nat} {a : Option Addr} {n c : Nat} {r : List Ent} (ho : w.ownsRow base 23 1 (.slice a n c) r.length (rwCells r)) {i : Nat} (hi : i < r.length) : ∃ g, a = some ⟨g, 0, none⟩ ∧ w.cell? ⟨g, i, none⟩ = some (.string (bar (wordAt r i))) := by
  obtain ⟨a', c', e⟩ := own_shape ho
  cases e
  obtain ⟨g, rfl⟩ := own_some ho (by omega)
  exact ⟨g, rfl, by rw [ho.cellAt i (by omega), rw_get hi]⟩
set_option maxHeartbeats 2000000 in
set_option maxRecDepth 100000 in
theorem path_law (w : World) (v : Value) (s t : ByteArray) (bnd : Int) (R : List BRul) (hs : s.size ≤ 140737488355328) (ht : t.size ≤ 140737488355328) (hv : RulesArg w v R) (_hf : RulesFit R) :
    Calls Try.prog 5 #[v, .string s, .string t, .int .i64 bnd] w fun e w' => e = .returned (.bool true) ∧ Chg (fun _ => False) w w' := by
  have HV := Lib.hid hv.at_
  obtain ⟨la, cap, rfl, hl0, _⟩ := hv.at_
  have AW := Lib.hid (awake_any w)
  unfold maxLen at hl0
  clear hv
  go_enter Try.func5, Try.ntmps5
  go_wp2_with fail
  (with_reducible refine (AW.out).mono ?_)
  rintro e w1 ⟨rfl, k1⟩
  have LAR := Lib.hid (large_law w w1 _ R [s, t] HV.out k1 (by simp) (fun x hx => by simp at hx; unfold maxLen; rcases hx with rfl | rfl <;> omega))
  change Hid (Calls Try.prog 10 #[.slice la R.length cap, .slice (some ⟨w1.heap.size, 0, none⟩) 2 2] (w1.alloc (.cells #[.string s, .string t] 23)) _) at LAR
  clear k1 AW
  by_cases hla : largeB R [s, t] = true
  · rw [hla] at LAR
    clear hla
    go_wp2_with fail
    (with_reducible refine (LAR.out).mono ?_)
    rintro e w2 ⟨rfl, k2⟩
    go_wp2
    go_ret
    exact ⟨rfl, k2⟩
  have hla : largeB R [s, t] = false := by simpa using hla
  rw [hla] at LAR
  obtain ⟨hR, hsl⟩ := largeB_false hla
  have hs1 : s.size ≤ 100 := hsl s (by simp)
  have ht1 : t.size ≤ 100 := hsl t (by simp)
  have ASK := Lib.hid (fun w1 (k : Chg (fun _ => False) w w1) => asks_of (s := s) HV.out k hR (by unfold maxLen; omega))
  clear hla hsl hR
  by_cases hb : 60 < bnd
  · have g1 : decide (60 < bnd) = true := by rw [decide_eq_true_eq]; exact hb
    go_wp2_with fail
    (with_reducible refine (LAR.out).mono ?_)
    rintro e w2 ⟨rfl, k2⟩
    go_wp2
    go_ret
    exact ⟨rfl, k2⟩
  have g1 : decide (60 < bnd) = false := by rw [decide_eq_false_iff_not]; exact hb
  generalize hk : rowErr R s bnd = k at *
  by_cases hk0 : k = 0
  · subst hk0
    obtain ⟨hask, r, hr⟩ := rowErr_zero hk
    obtain ⟨m1, m2, m3, m4⟩ := askErr_zero hask
    obtain ⟨s1, s2, s3⟩ := row_some (by omega) hr
    have hrl : r.length ≤ 60 := by omega
    have ALL := Lib.hid (fun w1 (q : Chg (fun _ => False) w w1) => all_ok (ASK.out w1 q) hk hr)
    have LEA := Lib.hid (fun w1 (q : Chg (fun _ => False) w w1) => leads_ok (ASK.out w1 q) t (by unfold maxLen; omega) hk hr)
    by_cases hin : t.data.toList ∈ wordsR r
    · have PAT := Lib.hid (fun w1 (q : Chg (fun _ => False) w w1) => path_ok (ASK.out w1 q) t (by unfold maxLen; omega) hk hr hin)
      rw [decide_eq_true hin] at LEA
      obtain ⟨i1, i2⟩ := wordAt_idx hin
      obtain ⟨p1, p2⟩ := path_walks (row_from hr) _ i1
      have WAL := Lib.hid (fun w1 lv (q : Chg (fun _ => False) w w1) hst => walk_any w1 (.slice la R.length cap) lv R ((pathOf r ((wordsR r).idxOf t.data.toList)).map fun h => ((h.1 : Int), (h.2 : Int))) s (rules_up HV.out q) hst m1)
      rw [walkI_walkP, p1, i2] at WAL
      unfold walkV at WAL
      simp only [bar_of] at WAL
      have HIN := Lib.hid hin
      clear p1 i2 hin hk hr hask m1 m2 m3 m4 s1 s2 s3
      generalize pathOf r ((wordsR r).idxOf t.data.toList) = pp at *
      have hpl : pp.length < r.length := by omega
      clear p2 i1
      go_wp2_with fail
      (with_reducible refine (LAR.out).mono ?_)
      rintro e w2 ⟨rfl, k2⟩
      have A := Lib.hid (ALL.out w2 k2)
      have K2 := Lib.hid k2
      clear k2 LAR ALL
      go_wp2_with fail
      (with_reducible refine (A.out).mono ?_)
      rintro e w3 ⟨va, rfl, o3, k3⟩
      obtain ⟨a3, c3, rfl⟩ := own_shape o3
      have K3 := Lib.hid (K2.out.trans k3)
      have O3 := Lib.hid o3
      have P := Lib.hid (PAT.out w3 K3.out)
      clear o3 k3 A PAT
      go_wp2_with fail
      (with_reducible refine (P.out).mono ?_)
      rintro e w4 ⟨vp, rfl, o4, k4⟩
      obtain ⟨a4, c4, rfl⟩ := own_shape o4
      have K4 := Lib.hid (K3.out.trans k4)
      have O4 := Lib.hid o4
      have O34 := Lib.hid (own_chg O3.out k4 (fun _ _ e => e))
      have B := Lib.hid (LEA.out w4 K4.out)
      clear o4 k4 P LEA O3
      go_wp2_with fail
      (with_reducible refine (B.out).mono ?_)
      rintro e w5 ⟨rfl, k5⟩
      have K5 := Lib.hid (K4.out.trans k5)
      have O5 := Lib.hid (own_chg O34.out k5 (fun _ _ e => e))
      have P5 := Lib.hid (own_chg O4.out k5 (fun _ _ e => e))
      clear k5 B O4 O34
      go_wp2
      go_loop [15, 75] (fun fv iv => ∃ (f : Bool) (k : Nat), k ≤ r.length ∧ fv = .bool f ∧ iv = .int .i64 k ∧ Hid (f = decide (t.data.toList ∈ (wordsR r).take k))) (fun _ iv => r.length - (intOf iv).toNat)
      case atStart => exact ⟨false, 0, by omega, rfl, rfl, Lib.hid (by simp)⟩
      case round =>
        obtain ⟨f, k, hkl, rfl, rfl, HF⟩ := hrel
        by_cases hlt : k < r.length
        · obtain ⟨g, rfl, cx⟩ := own_word O5.out hlt
          have TM := Lib.hid (take_mem_succ (t := t.data.toList) (wordsR_get hlt))
          cases f with
          | true =>
            have HF2 := Lib.hid (show true = decide (t.data.toList ∈ (wordsR r).take (k + 1)) by
              symm; rw [decide_eq_true_eq, TM.out]; exact .inl (of_decide_eq_true HF.out.symm))
            go_wp2
            go_round
            case rel => exact ⟨true, k + 1, by omega, rfl, by go_num, HF2⟩
            case measure => simp [intOf]; omega
          | false =>
            by_cases he : wordAt r k = t.data.toList
            · have HF2 := Lib.hid (show true = decide (t.data.toList ∈ (wordsR r).take (k + 1)) by
                symm; rw [decide_eq_true_eq, TM.out]; exact .inr he)
              rw [he, bar_of] at cx
              have n1 : (t.toList == t.toList) = true := by simp
              clear he
              go_wp2
              go_round
              case rel => exact ⟨true, k + 1, by omega, rfl, by go_num, HF2⟩
              case measure => simp [intOf]; omega
            · have HF2 := Lib.hid (show false = decide (t.data.toList ∈ (wordsR r).take (k + 1)) by
                symm; rw [decide_eq_false_iff_not, TM.out]
                rintro (q | q)
                · exact of_decide_eq_false HF.out.symm q
                · exact he q)
              have n1 : ((bar (wordAt r k)).toList == t.toList) = false := by rw [bytes_eq, bar_list, decide_eq_false he]
              clear he
              generalize bar (wordAt r k) = x at *
              go_wp2
              go_round
              case rel => exact ⟨false, k + 1, by omega, rfl, by go_num, HF2⟩
              case measure => simp [intOf]; omega
        · obtain rfl : k = r.length := by omega
          obtain rfl : f = true := by
            rw [HF.out, decide_eq_true_eq, List.take_of_length_le (by rw [wordsR_length]; omega)]; exact HIN.out
          have WA := Lib.hid (WAL.out w5 _ K5.out ((stepsAt_own P5.out).imp (fun x hx => (P5.out.lt x hx).2)))
          have n1 : (t.toList == t.toList) = true := by simp
          have n2 : decide (pp.length < r.length) = true := by rw [decide_eq_true_eq]; exact hpl
          go_wp2_with fail
          (with_reducible refine (WA.out).mono ?_)
          rintro e w6 ⟨rfl, k6⟩
          go_wp2
          go_ret
          exact ⟨rfl, K5.out.trans k6⟩
    · have PAT := Lib.hid (fun w1 (q : Chg (fun _ => False) w w1) => path_none (ASK.out w1 q) t (by unfold maxLen; omega) hk hr hin)
      rw [decide_eq_false hin] at LEA
      have HIN := Lib.hid hin
      clear hin hk hr hask m1 m2 m3 m4 s1 s2 s3
      go_wp2_with fail
      (with_reducible refine (LAR.out).mono ?_)
      rintro e w2 ⟨rfl, k2⟩
      have A := Lib.hid (ALL.out w2 k2)
      have K2 := Lib.hid k2
      clear k2 LAR ALL
      go_wp2_with fail
      (with_reducible refine (A.out).mono ?_)
      rintro e w3 ⟨va, rfl, o3, k3⟩
      obtain ⟨a3, c3, rfl⟩ := own_shape o3
      have K3 := Lib.hid (K2.out.trans k3)
      have O3 := Lib.hid o3
      have P := Lib.hid (PAT.out w3 K3.out)
      clear o3 k3 A PAT
      go_wp2_with fail
      (with_reducible refine (P.out).mono ?_)
      rintro e w4 ⟨rfl, k4⟩
      have K4 := Lib.hid (K3.out.trans k4)
      have O34 := Lib.hid (own_chg O3.out k4 (fun _ _ e => e))
      have B := Lib.hid (LEA.out w4 K4.out)
      clear k4 P LEA O3
      go_wp2_with fail
      (with_reducible refine (B.out).mono ?_)
      rintro e w5 ⟨rfl, k5⟩
      have K5 := Lib.hid (K4.out.trans k5)
      have O5 := Lib.hid (own_chg O34.out k5 (fun _ _ e => e))
      clear k5 B O34
      go_wp2
      go_loop [15, 75] (fun fv iv => ∃ (k : Nat), k ≤ r.length ∧ fv = .bool false ∧ iv = .int .i64 k) (fun _ iv => r.length - (intOf iv).toNat)
      case atStart => exact ⟨0, by omega, rfl, rfl⟩
      case round =>
        obtain ⟨k, hkl, rfl, rfl⟩ := hrel
        by_cases hlt : k < r.length
        · obtain ⟨g, rfl, cx⟩ := own_word O5.out hlt
          have he : ¬ wordAt r k = t.data.toList := fun e => HIN.out (e ▸ wordAt_mem hlt)
          have n1 : ((bar (wordAt r k)).toList == t.toList) = false := by rw [bytes_eq, bar_list, decide_eq_false he]
          clear he
          generalize bar (wordAt r k) = x at *
          go_wp2
          go_round
          case rel => exact ⟨k + 1, by omega, rfl, by go_num⟩
          case measure => simp [intOf]; omega
        · obtain rfl : k = r.length := by omega
          go_wp2
          go_ret
          exact ⟨rfl, K5.out⟩
  · have ALL := Lib.hid (fun w1 (q : Chg (fun _ => False) w w1) => all_err (ASK.out w1 q) hk hk0)
    have LEA := Lib.hid (fun w1 (q : Chg (fun _ => False) w w1) => leads_err (ASK.out w1 q) t hk hk0)
    have PAT := Lib.hid (fun w1 (q : Chg (fun _ => False) w w1) => path_err (ASK.out w1 q) t hk hk0)
    have g2 : (k != 0) = true := by rw [bne_iff_ne]; exact hk0
    have g3 : (k == k) = true := by simp
    clear hk hk0
    go_wp2_with fail
    (with_reducible refine (LAR.out).mono ?_)
    rintro e w2 ⟨rfl, k2⟩
    have A := Lib.hid (ALL.out w2 k2)
    have K2 := Lib.hid k2
    clear k2 LAR ALL
    go_wp2_with fail
    (with_reducible refine (A.out).mono ?_)
    rintro e w3 ⟨rfl, k3⟩
    have K3 := Lib.hid (K2.out.trans k3)
    have P := Lib.hid (PAT.out w3 K3.out)
    clear k3 A PAT
    go_wp2_with fail
    (with_reducible refine (P.out).mono ?_)
    rintro e w4 ⟨rfl, k4⟩
    have K4 := Lib.hid (K3.out.trans k4)
    have B := Lib.hid (LEA.out w4 K4.out)
    clear k4 P LEA
    go_wp2_with fail
    (with_reducible refine (B.out).mono ?_)
    rintro e w5 ⟨rfl, k5⟩
    go_wp2
    go_ret
    exact ⟨rfl, K4.out.trans k5⟩
end Go.Proofs.Ytblannomcfiffaa
