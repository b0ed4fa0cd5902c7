/-
  Layer 11: ReachTells, walked.
-/
import Derived.Test.YtblannomcfiffaaRMore
namespace Go.Proofs.Ytblannomcfiffaa
open Go.RowKit Go.Maps

/-! what reach tells, in one word each -/
def rowD (R : List BRul) (s : ByteArray) (b : Int) : List Ent := (rowB R s b).getD []
def tellL (R : List BRul) (s : ByteArray) (b : Int) : List ByteArray := if rowErr R s b = 0 then (wordsR (rowD R s b)).map bar else []
def tellB (R : List BRul) (s t : ByteArray) (b : Int) : Bool := if rowErr R s b = 0 then decide (t.data.toList ∈ wordsR (rowD R s b)) else false
def tellPE (R : List BRul) (s t : ByteArray) (b : Int) : Int := if rowErr R s b = 0 then (if t.data.toList ∈ wordsR (rowD R s b) then 0 else 10) else rowErr R s b
def tellP (R : List BRul) (s t : ByteArray) (b : Int) : List (Int × Int) := if tellPE R s t b = 0 then (pathOf (rowD R s b) ((wordsR (rowD R s b)).idxOf t.data.toList)).map fun h => ((h.1 : Int), (h.2 : Int)) else []
def TellAll (w : World) (k : Int) (L : List ByteArray) (e : Ending) (w' : World) : Prop := ∃ va, e = .returned (.tuple #[va, .int .i64 k]) ∧ WordsAt w' va (fun x => w.heap.size ≤ x ∧ x < w'.heap.size) L ∧ Chg (fun _ => False) w w'
def TellPath (w : World) (k : Int) (L : List (Int × Int)) (e : Ending) (w' : World) : Prop := ∃ va, e = .returned (.tuple #[va, .int .i64 k]) ∧ StepsAt w' va (fun x => w.heap.size ≤ x ∧ x < w'.heap.size) L ∧ Chg (fun _ => False) w w'
theorem wordsAt_nil (w : World) (G : Nat → Prop) : WordsAt w (.slice none 0 0) G [] := ⟨none, 0, rfl, by simp, fun j x hj => by simp at hj⟩
theorem stepsAt_nil (w : World) (G : Nat → Prop) : StepsAt w (.slice none 0 0) G [] := ⟨none, 0, rfl, by simp, fun j x hj => by simp at hj⟩
theorem wordsAt_row {w : World} {base : Nat} {v : Value} {r : List Ent} (h : w.ownsRow base 23 1 v r.length (rwCells r)) (hs : ∀ u ∈ wordsR r, (bar u).size ≤ 400) : WordsAt w v (fun x => base ≤ x ∧ x < w.heap.size) ((wordsR r).map bar) := by
  have h2 : w.ownsRow base 23 1 v ((wordsR r).map bar).length (wcells ((wordsR r).map bar)) := by rw [List.length_map, wordsR_length, ← rw_words]; exact h
  obtain ⟨a, cap, rfl, h3, h4⟩ := own_get h2
  refine ⟨a, cap, rfl, h3, fun j x hj => ?_⟩
  obtain ⟨g, rfl, hg, c⟩ := h4 j (.string x) (by unfold wcells; rw [List.getElem?_map, hj]; rfl)
  refine ⟨g, 0, rfl, ⟨hg, World.block_lt_of_cell? w _ c⟩, by rw [Nat.zero_add]; exact c, ?_⟩
  have hx := List.mem_of_getElem? hj
  rw [List.mem_map] at hx
  obtain ⟨u, hu, rfl⟩ := hx
  have := hs u hu
  unfold maxLen; omega
theorem row_sizes {R : List BRul} {s : ByteArray} {b : Int} {r : List Ent} (h : rowErr R s b = 0) (hr : rowB R s b = some r) : (∀ u ∈ wordsR r, mayB u = true ∧ (bar u).size ≤ 16) ∧ r.length ≤ 5000 ∧ 1 ≤ b := by
  obtain ⟨hask, _⟩ := rowErr_zero h
  obtain ⟨m1, m2, m3, m4⟩ := askErr_zero hask
  obtain ⟨s1, s2, s3⟩ := row_some (by omega) hr
  exact ⟨fun u hu => ⟨(reach_may m1 ((s3 u).1 hu)).1, wlen_of (reach_may m1 ((s3 u).1 hu)).1⟩, by omega, m2⟩
section
variable {w : World} {v : Value} {R : List BRul} {s : ByteArray} {b : Int}
theorem all_tells (hA : Asks w v R s) : Calls Try.prog 11 #[v, .string s, .int .i64 b] w (TellAll w (rowErr R s b) (tellL R s b)) := by
  by_cases h : rowErr R s b = 0
  · obtain ⟨_, r, hr⟩ := rowErr_zero h
    refine (all_ok hA h hr).mono fun e w' ⟨va, he, ho, hc⟩ => ⟨va, by rw [h]; exact he, ?_, hc⟩
    unfold tellL rowD
    rw [if_pos h, hr]
    exact wordsAt_row ho (fun u hu => by have := ((row_sizes h hr).1 u hu).2; omega)
  · refine (all_err hA rfl h).mono fun e w' ⟨he, hc⟩ => ⟨_, he, ?_, hc⟩
    unfold tellL
    rw [if_neg h]
    exact wordsAt_nil _ _
theorem rall_tells (hA : Asks w v R s) (h47 : Fit47 R) (hs : s.size ≤ 140737488355328) : Calls Try.prog 12 #[v, .string s, .int .i64 b] w (TellAll w (rowErr R s b) (tellL R s b)) := by
  by_cases h : rowErr R s b = 0
  · obtain ⟨_, r, hr⟩ := rowErr_zero h
    refine (rall_ok hA h47 h hr).mono fun e w' ⟨va, he, ho, hc⟩ => ⟨va, by rw [h]; exact he, ?_, hc⟩
    unfold tellL rowD
    rw [if_pos h, hr]
    exact wordsAt_row ho (fun u hu => by have := ((row_sizes h hr).1 u hu).2; omega)
  · refine (rall_err hA h47 hs rfl h).mono fun e w' ⟨he, hc⟩ => ⟨_, he, ?_, hc⟩
    unfold tellL
    rw [if_neg h]
    exact wordsAt_nil _ _
theorem leads_tells (hA : Asks w v R s) (t : ByteArray) (ht : t.size ≤ maxLen) : Calls Try.prog 14 #[v, .string s, .string t, .int .i64 b] w fun e w' => e = .returned (.tuple #[.bool (tellB R s t b), .int .i64 (rowErr R s b)]) ∧ Chg (fun _ => False) w w' := by
  unfold tellB rowD
  by_cases h : rowErr R s b = 0
  · obtain ⟨_, r, hr⟩ := rowErr_zero h
    rw [if_pos h, hr, h]
    exact leads_ok hA t ht h hr
  · rw [if_neg h]
    exact leads_err hA t rfl h
theorem rleads_tells (hA : Asks w v R s) (h47 : Fit47 R) (hs : s.size ≤ 140737488355328) (t : ByteArray) : Calls Try.prog 15 #[v, .string s, .string t, .int .i64 b] w fun e w' => e = .returned (.tuple #[.bool (tellB R s t b), .int .i64 (rowErr R s b)]) ∧ Chg (fun _ => False) w w' := by
  unfold tellB rowD
  by_cases h : rowErr R s b = 0
  · obtain ⟨_, r, hr⟩ := rowErr_zero h
    rw [if_pos h, hr, h]
    exact rleads_ok hA h47 t h hr
  · rw [if_neg h]
    exact rleads_err hA h47 hs t rfl h
theorem stepsAt_base {w' : World} {base : Nat} {va : Value} {l : List (Nat × Nat)} (h : w'.ownsRow base 53 2 va l.length (hcells l)) : StepsAt w' va (fun x => base ≤ x ∧ x < w'.heap.size) (l.map fun h => ((h.1 : Int), (h.2 : Int))) :=
  (stepsAt_own h).imp (fun k hk => h.lt k hk)
theorem path_tells (hA : Asks w v R s) (t : ByteArray) (ht : t.size ≤ maxLen) : Calls Try.prog 16 #[v, .string s, .string t, .int .i64 b] w (TellPath w (tellPE R s t b) (tellP R s t b)) := by
  unfold tellP
  by_cases h : rowErr R s b = 0
  · obtain ⟨_, r, hr⟩ := rowErr_zero h
    by_cases hin : t.data.toList ∈ wordsR r
    · have e1 : tellPE R s t b = 0 := by unfold tellPE rowD; rw [if_pos h, hr]; exact if_pos hin
      rw [if_pos e1, e1]
      unfold rowD
      rw [hr]
      exact (path_ok hA t ht h hr hin).mono fun e w' ⟨va, he, ho, hc⟩ => ⟨va, he, stepsAt_base ho, hc⟩
    · have e1 : tellPE R s t b = 10 := by unfold tellPE rowD; rw [if_pos h, hr]; exact if_neg hin
      rw [if_neg (by omega), e1]
      exact (path_none hA t ht h hr hin).mono fun e w' ⟨he, hc⟩ => ⟨_, he, stepsAt_nil _ _, hc⟩
  · have e1 : tellPE R s t b = rowErr R s b := by unfold tellPE; rw [if_neg h]
    rw [if_neg (by rw [e1]; exact h), e1]
    exact (path_err hA t rfl h).mono fun e w' ⟨he, hc⟩ => ⟨_, he, stepsAt_nil _ _, hc⟩
theorem rpath_tells (hA : Asks w v R s) (h47 : Fit47 R) (hs : s.size ≤ 140737488355328) (t : ByteArray) : Calls Try.prog 17 #[v, .string s, .string t, .int .i64 b] w (TellPath w (tellPE R s t b) (tellP R s t b)) := by
  unfold tellP
  by_cases h : rowErr R s b = 0
  · obtain ⟨_, r, hr⟩ := rowErr_zero h
    by_cases hin : t.data.toList ∈ wordsR r
    · have e1 : tellPE R s t b = 0 := by unfold tellPE rowD; rw [if_pos h, hr]; exact if_pos hin
      rw [if_pos e1, e1]
      unfold rowD
      rw [hr]
      exact (rpath_ok hA h47 t h hr hin).mono fun e w' ⟨va, he, ho, hc⟩ => ⟨va, he, stepsAt_base ho, hc⟩
    · have e1 : tellPE R s t b = 10 := by unfold tellPE rowD; rw [if_pos h, hr]; exact if_neg hin
      rw [if_neg (by omega), e1]
      exact (rpath_none hA h47 t h hr hin).mono fun e w' ⟨he, hc⟩ => ⟨_, he, stepsAt_nil _ _, hc⟩
  · have e1 : tellPE R s t b = rowErr R s b := by unfold tellPE; rw [if_neg h]
    rw [if_neg (by rw [e1]; exact h), e1]
    exact (rpath_err hA h47 hs t rfl h).mono fun e w' ⟨he, hc⟩ => ⟨_, he, stepsAt_nil _ _, hc⟩
end
theorem WordsAt.imp {w : World} {v : Value} {G G' : Nat → Prop} {l : List ByteArray} (h : WordsAt w v G l) (hg : ∀ k, G k → G' k) : WordsAt w v G' l := by
  obtain ⟨la, cap, h1, h2, h3⟩ := h
  exact ⟨la, cap, h1, h2, fun j r hj => by obtain ⟨lb, lo, q1, q2, q3⟩ := h3 j r hj; exact ⟨lb, lo, q1, hg _ q2, q3⟩⟩
set_option maxHeartbeats 4000000 in
set_option maxRecDepth 100000 in
theorem tells_law (w : World) (v : Value) (s t : ByteArray) (bnd : Int) (R : List BRul) (hs : s.size ≤ 140737488355328) (ht : t.size ≤ 140737488355328) (hv : RulesArg w v R) (hf : RulesFit R) :
    Calls Try.prog 3 #[v, .string s, .string t, .int .i64 bnd] w fun e w' => e = .returned (.bool true) ∧ Chg (fun _ => False) w w' := by
  have HV := Lib.hid hv.at_
  have HVN := Lib.hid hv.nil
  have H47 := Lib.hid hf.1
  have hf32 := hf.2
  obtain ⟨la, cap, rfl, hl0, hsz⟩ := hv.at_
  have HZ := Lib.hid (show ∀ r ∈ R, r.1.size ≤ maxLen ∧ r.2.size ≤ maxLen from fun r hr => by
    obtain ⟨j, hj⟩ := List.mem_iff_getElem?.1 hr
    obtain ⟨_, _, _, _, _, _, q⟩ := hsz j r hj
    exact q)
  have AW := Lib.hid (awake_any w)
  unfold maxLen at hl0
  clear hv hf hsz
  go_enter Try.func3, Try.ntmps3
  go_wp2_with fail
  (with_reducible refine (AW.out).mono ?_)
  rintro e w1 ⟨rfl, k1⟩
  have LAR := Lib.hid (large_law w w1 _ R [s, t] HV.out k1 (by simp) (fun x hx => by simp at hx; unfold maxLen; rcases hx with rfl | rfl <;> omega))
  change Hid (Calls Try.prog 10 #[.slice la R.length cap, .slice (some ⟨w1.heap.size, 0, none⟩) 2 2] (w1.alloc (.cells #[.string s, .string t] 23)) _) at LAR
  clear k1 AW
  by_cases hla : largeB R [s, t] = true
  · rw [hla] at LAR
    clear hla
    go_wp2_with fail
    (with_reducible refine (LAR.out).mono ?_)
    rintro e w2 ⟨rfl, k2⟩
    go_wp2
    go_ret
    exact ⟨rfl, k2⟩
  have hla : largeB R [s, t] = false := by simpa using hla
  rw [hla] at LAR
  obtain ⟨hR, hsl⟩ := largeB_false hla
  have hs1 : s.size ≤ 100 := hsl s (by simp)
  have ht1 : t.size ≤ 100 := hsl t (by simp)
  have ASK := Lib.hid (fun w1 (k : Chg (fun _ => False) w w1) => asks_of (s := s) HV.out k hR (by unfold maxLen; omega))
  have ASO := Lib.hid (fun w1 v1 base (h : World.ownsRow w1 base 38 2 v1 R.length (ruleCells R)) => (show Asks w1 v1 R s from ⟨rulesAt_own h HZ.out, hR.imp (fun q => ⟨by omega, fun r hr => by have := (q.2 r hr).1; omega⟩) id, by unfold maxLen; omega⟩))
  clear hla hsl hR
  have key : (decide (60 < bnd) = true ∧ decide (bnd ≤ 5000) = true) ∨ (decide (60 < bnd) = true ∧ decide (bnd ≤ 5000) = false) ∨ decide (60 < bnd) = false := by
    by_cases h1 : 60 < bnd
    · by_cases h2 : bnd ≤ 5000
      · exact .inl ⟨by rw [decide_eq_true_eq]; exact h1, by rw [decide_eq_true_eq]; exact h2⟩
      · exact .inr (.inl ⟨by rw [decide_eq_true_eq]; exact h1, by rw [decide_eq_false_iff_not]; exact h2⟩)
    · exact .inr (.inr (by rw [decide_eq_false_iff_not]; exact h1))
  rcases key with ⟨g1, g2⟩ | key
  · go_wp2_with fail
    (with_reducible refine (LAR.out).mono ?_)
    rintro e w2 ⟨rfl, k2⟩
    go_wp2
    go_ret
    exact ⟨rfl, k2⟩
  have NK := Lib.hid (show ∀ k : Int, (k != k) = false from fun k => by simp)
  have nb : (tellB R s t bnd != tellB R s t bnd) = false := by simp
  have ne1 : (rowErr R s bnd != rowErr R s bnd) = false := by simp
  have ne2 : (tellPE R s t bnd != tellPE R s t bnd) = false := by simp
  have A1 := Lib.hid (fun w1 v1 base (h : World.ownsRow w1 base 38 2 v1 R.length (ruleCells R)) => all_tells (b := bnd) (ASO.out w1 v1 base h))
  have A2 := Lib.hid (fun w1 (k : Chg (fun _ => False) w w1) => rall_tells (b := bnd) (ASK.out w1 k) H47.out (by omega))
  have B1 := Lib.hid (fun w1 v1 base (h : World.ownsRow w1 base 38 2 v1 R.length (ruleCells R)) => leads_tells (b := bnd) (ASO.out w1 v1 base h) t (by unfold maxLen; omega))
  have B2 := Lib.hid (fun w1 (k : Chg (fun _ => False) w w1) => rleads_tells (b := bnd) (ASK.out w1 k) H47.out (by omega) t)
  have C1 := Lib.hid (fun w1 v1 base (h : World.ownsRow w1 base 38 2 v1 R.length (ruleCells R)) => path_tells (b := bnd) (ASO.out w1 v1 base h) t (by unfold maxLen; omega))
  have C2 := Lib.hid (fun w1 (k : Chg (fun _ => False) w w1) => rpath_tells (b := bnd) (ASK.out w1 k) H47.out (by omega) t)
  clear ASK ASO
  generalize tellB R s t bnd = tb at *
  generalize rowErr R s bnd = ke at *
  generalize tellPE R s t bnd = kp at *
  generalize tellL R s bnd = TL at *
  generalize tellP R s t bnd = TP at *
  rcases key with ⟨g1, g2⟩ | g1
  · go_wp2_with fail
    (with_reducible refine (LAR.out).mono ?_)
    rintro e w2 ⟨rfl, k2⟩
    have K2 := Lib.hid k2
    clear k2 LAR
    go_wp2_with (at_builtin; refine wpList_pushS rfl (.tmp 38) (.tmp 39) 22 rfl 38 2 32 Try.underlying22 Try.elemRule w2.heap.size _ 0 [] rfl (own_empty _ _ _ _ (Nat.le_refl _)) la R.length cap (ruleCells R) rfl ?a1a ?a2a ?a3a ?a4a ?a5a ?a6a ?a7a ?nxa)
    case a1a => exact ruleCells_length R
    case a2a => exact rules_src (HV.out.chg (K2.out.alloc _) (fun _ _ e => e))
    case a3a => intro e; rw [e] at HVN; exact HVN.out _ _ rfl
    case a4a => exact ruleCells_one R
    case a5a => omega
    case a6a => unfold maxLen; omega
    case a7a => simp
    intro v3 w3 o3 g3
    have k3 : Chg (fun _ => False) w2 w3 := (chg_alloc (fun _ => False) w2 (.cells #[] 38)).next (Chg.of_grown g3) (fun x hx e => by
      have e2 : w2.heap.size = x := by simpa [Value.ownBlock] using e
      omega)
    obtain ⟨a3, c3, rfl⟩ := own_shape o3
    have K3 := Lib.hid (K2.out.trans k3)
    have O3 := Lib.hid o3
    have X1 := Lib.hid (A1.out w3 _ _ o3)
    clear o3 g3 k3 A1 K2
    go_wp2_with fail
    (with_reducible refine (X1.out).mono ?_)
    rintro e w4 ⟨va, rfl, wa4, k4⟩
    have WA := Lib.hid wa4
    obtain ⟨la4, ca4, rfl, _, _⟩ := wa4
    have K4 := Lib.hid (K3.out.trans k4)
    have O4 := Lib.hid (own_chg O3.out k4 (fun _ _ e => e))
    have X2 := Lib.hid (A2.out w4 K4.out)
    clear k4 X1 A2 O3 K3
    go_wp2_with fail
    (with_reducible refine (X2.out).mono ?_)
    rintro e w5 ⟨vb, rfl, wb5, k5⟩
    have WB := Lib.hid wb5
    obtain ⟨lb5, cb5, rfl, _, _⟩ := wb5
    have K5 := Lib.hid (K4.out.trans k5)
    have O5 := Lib.hid (own_chg O4.out k5 (fun _ _ e => e))
    have X3 := Lib.hid (words_any w5 _ _ TL TL _ _ (WA.out.chg k5 (fun _ _ e => e)) WB.out)
    rw [decide_eq_true (rfl : TL = TL)] at X3
    clear k5 X2 O4 K4 WA WB
    go_wp2_with fail
    (with_reducible refine (X3.out).mono ?_)
    rintro e w6 ⟨rfl, k6⟩
    have K6 := Lib.hid (K5.out.trans k6)
    have O6 := Lib.hid (own_chg O5.out k6 (fun _ _ e => e))
    have X4 := Lib.hid (B1.out w6 _ _ O6.out)
    clear k6 X3 B1 O5 K5
    go_wp2_with fail
    (with_reducible refine (X4.out).mono ?_)
    rintro e w7 ⟨rfl, k7⟩
    have K7 := Lib.hid (K6.out.trans k7)
    have O7 := Lib.hid (own_chg O6.out k7 (fun _ _ e => e))
    have X5 := Lib.hid (B2.out w7 K7.out)
    clear k7 X4 B2 O6 K6
    go_wp2_with fail
    (with_reducible refine (X5.out).mono ?_)
    rintro e w8 ⟨rfl, k8⟩
    have K8 := Lib.hid (K7.out.trans k8)
    have O8 := Lib.hid (own_chg O7.out k8 (fun _ _ e => e))
    have X6 := Lib.hid (C1.out w8 _ _ O8.out)
    clear k8 X5 C1 O7 K7
    go_wp2_with fail
    (with_reducible refine (X6.out).mono ?_)
    rintro e w9 ⟨vp, rfl, wp9, k9⟩
    have WP := Lib.hid wp9
    obtain ⟨lp9, cp9, rfl, _, _⟩ := wp9
    have K9 := Lib.hid (K8.out.trans k9)
    have O9 := Lib.hid (own_chg O8.out k9 (fun _ _ e => e))
    have X7 := Lib.hid (C2.out w9 K9.out)
    clear k9 X6 C2 O8 K8
    go_wp2_with fail
    (with_reducible refine (X7.out).mono ?_)
    rintro e w10 ⟨vq, rfl, wq10, k10⟩
    have WQ := Lib.hid wq10
    obtain ⟨lq10, cq10, rfl, _, _⟩ := wq10
    have K10 := Lib.hid (K9.out.trans k10)
    have O10 := Lib.hid (own_chg O9.out k10 (fun _ _ e => e))
    have X8 := Lib.hid (steps_same w10 _ _ TP _ _ (WP.out.chg k10 (fun _ _ e => e)) WQ.out)
    clear k10 X7 O9 K9 WP WQ
    go_wp2_with fail
    (with_reducible refine (X8.out).mono ?_)
    rintro e w11 ⟨rfl, k11⟩
    have K11 := Lib.hid (K10.out.trans k11)
    have O11 := Lib.hid (own_chg O10.out k11 (fun _ _ e => e))
    clear k11 X8 O10 K10
    go_wp2
    go_loopw [115] (fun iv wr => ∃ (k : Nat), k ≤ R.length ∧ iv = .int .i64 k ∧ Hid (Chg (fun _ => False) w11 wr)) (fun iv _ => R.length - (intOf iv).toNat)
    case atStart => exact ⟨0, by omega, rfl, Lib.hid (Chg.refl _ _)⟩
    case round =>
      obtain ⟨k, hkl, rfl, HJ⟩ := hrel
      have KJ := Lib.hid (K11.out.trans HJ.out)
      by_cases hlt : k < R.length
      · obtain ⟨⟨ra, rb⟩, hr⟩ : ∃ x, R[k]? = some x := ⟨_, List.getElem?_eq_getElem hlt⟩
        have hvr := HV.out.chg KJ.out (fun _ _ e => e)
        obtain ⟨la', cap', e2, _, hvl⟩ := hvr
        cases e2
        obtain ⟨ga, gc, rfl, hga, d0, d1, hra, hrb⟩ := hvl _ _ hr
        have hor := rulesAt_own (own_chg O11.out HJ.out (fun _ _ e => e)) HZ.out
        obtain ⟨la'', cap'', e3, _, hol⟩ := hor
        cases e3
        obtain ⟨go, gd, rfl, hgo, d2, d3, _, _⟩ := hol _ _ hr
        simp only at d0 d1 d2 d3 hra hrb
        obtain ⟨z1, z2⟩ := H47.out _ (List.mem_of_getElem? hr)
        have CNA := Lib.hid (fun w => counts_any w (ra, rb) hra hrb)
        have CNB := Lib.hid (fun w => rcounts_any w (ra, rb) z1 z2)
        unfold ruleV at CNA CNB
        simp only at CNA CNB
        generalize countsB (brul (ra, rb)) = cc at *
        have n1 : (ra.toList == ra.toList) = true := by simp
        have n2 : (rb.toList == rb.toList) = true := by simp
        have n3 : (cc != cc) = false := by simp
        clear hvl hol hr z1 z2
        go_wp2_with fail
        refine wp_region_plan (N := 141) [.rd [0, 1, 2, 3, 4, 5, 6, 7, 8, 9, 10, 11, 12, 13, 15, 16, 17, 18], .ef 14, .ef 19, .rd [20, 21]] (fun w' => w'.cell? ⟨ga, gc + k * 2, none⟩ = some (.string ra) ∧ w'.cell? ⟨ga, gc + k * 2 + 1, none⟩ = some (.string rb) ∧ w'.cell? ⟨go, gd + k * 2, none⟩ = some (.string ra) ∧ w'.cell? ⟨go, gd + k * 2 + 1, none⟩ = some (.string rb)) (by kernel_rfl) (by kernel_rfl) (by kernel_rfl) (by kernel_rfl) (Nat.le_of_ble_eq_true rfl) ⟨d0, d1, d2, d3⟩ ?_
        refine plan_rd (A := ?A1a) ?h1a ?h2a
        case h1a =>
          rintro w' ⟨y0, y1, y2, y3⟩ K hK
          simp only [opsAt, List.filterMap_cons, List.filterMap_nil, List.getElem?_toArray, List.getElem?_cons_succ, List.getElem?_cons_zero]
          repeat still_step
          refine wpStill_nil ?_
          exact hK
        have e0 : wr.drew.cell? ⟨ga, gc + k * 2, none⟩ = some (.string ra) := d0
        have e1 : wr.drew.cell? ⟨ga, gc + k * 2 + 1, none⟩ = some (.string rb) := d1
        have e2 : wr.drew.cell? ⟨go, gd + k * 2, none⟩ = some (.string ra) := d2
        have e3 : wr.drew.cell? ⟨go, gd + k * 2 + 1, none⟩ = some (.string rb) := d3
        have HD := Lib.hid (HJ.out.drew)
        clear d0 d1 d2 d3 HJ
        generalize wr.drew = wd at *
        refine plan_ef rfl ?_
        go_wp2_with fail
        (with_reducible refine (CNA.out _).mono ?_)
        rintro e w12 ⟨rfl, k12⟩
        have f0 := cell_chg k12 (fun e => e) e0
        have f1 := cell_chg k12 (fun e => e) e1
        have f2 := cell_chg k12 (fun e => e) e2
        have f3 := cell_chg k12 (fun e => e) e3
        have H12 := Lib.hid (HD.out.trans k12)
        clear k12 e0 e1 e2 e3 HD
        go_wp2_with fail
        refine ⟨⟨f0, f1, f2, f3⟩, ?_⟩
        refine plan_ef rfl ?_
        go_wp2_with fail
        (with_reducible refine (CNB.out _).mono ?_)
        rintro e w13 ⟨rfl, k13⟩
        have q0 := cell_chg k13 (fun e => e) f0
        have q1 := cell_chg k13 (fun e => e) f1
        have q2 := cell_chg k13 (fun e => e) f2
        have q3 := cell_chg k13 (fun e => e) f3
        have H13 := Lib.hid (H12.out.trans k13)
        clear k13 f0 f1 f2 f3 H12
        go_wp2_with fail
        refine ⟨⟨q0, q1, q2, q3⟩, ?_⟩
        refine plan_rd (A := ?A2a) ?h3a ?h4a
        case h3a =>
          intro w' hS K hK
          clear hS
          simp only [opsAt, List.filterMap_cons, List.filterMap_nil, List.getElem?_toArray, List.getElem?_cons_succ, List.getElem?_cons_zero]
          repeat still_step
          refine wpStill_nil ?_
          exact hK
        refine plan_nil ?_
        clear q0 q1 q2 q3
        go_wp2
        go_roundw
        case rel => exact ⟨k + 1, by omega, by go_num, H13⟩
        case measure => simp [intOf]; omega
      · obtain rfl : k = R.length := by omega
        go_wp2
        go_ret
        exact ⟨rfl, KJ.out⟩
  · go_wp2_with fail
    (with_reducible refine (LAR.out).mono ?_)
    rintro e w2 ⟨rfl, k2⟩
    have K2 := Lib.hid k2
    clear k2 LAR
    go_wp2_with (at_builtin; refine wpList_pushS rfl (.tmp 38) (.tmp 39) 22 rfl 38 2 32 Try.underlying22 Try.elemRule w2.heap.size _ 0 [] rfl (own_empty _ _ _ _ (Nat.le_refl _)) la R.length cap (ruleCells R) rfl ?a1b ?a2b ?a3b ?a4b ?a5b ?a6b ?a7b ?nxb)
    case a1b => exact ruleCells_length R
    case a2b => exact rules_src (HV.out.chg (K2.out.alloc _) (fun _ _ e => e))
    case a3b => intro e; rw [e] at HVN; exact HVN.out _ _ rfl
    case a4b => exact ruleCells_one R
    case a5b => omega
    case a6b => unfold maxLen; omega
    case a7b => simp
    intro v3 w3 o3 g3
    have k3 : Chg (fun _ => False) w2 w3 := (chg_alloc (fun _ => False) w2 (.cells #[] 38)).next (Chg.of_grown g3) (fun x hx e => by
      have e2 : w2.heap.size = x := by simpa [Value.ownBlock] using e
      omega)
    obtain ⟨a3, c3, rfl⟩ := own_shape o3
    have K3 := Lib.hid (K2.out.trans k3)
    have O3 := Lib.hid o3
    have X1 := Lib.hid (A1.out w3 _ _ o3)
    clear o3 g3 k3 A1 K2
    go_wp2_with fail
    (with_reducible refine (X1.out).mono ?_)
    rintro e w4 ⟨va, rfl, wa4, k4⟩
    have WA := Lib.hid wa4
    obtain ⟨la4, ca4, rfl, _, _⟩ := wa4
    have K4 := Lib.hid (K3.out.trans k4)
    have O4 := Lib.hid (own_chg O3.out k4 (fun _ _ e => e))
    have X2 := Lib.hid (A2.out w4 K4.out)
    clear k4 X1 A2 O3 K3
    go_wp2_with fail
    (with_reducible refine (X2.out).mono ?_)
    rintro e w5 ⟨vb, rfl, wb5, k5⟩
    have WB := Lib.hid wb5
    obtain ⟨lb5, cb5, rfl, _, _⟩ := wb5
    have K5 := Lib.hid (K4.out.trans k5)
    have O5 := Lib.hid (own_chg O4.out k5 (fun _ _ e => e))
    have X3 := Lib.hid (words_any w5 _ _ TL TL _ _ (WA.out.chg k5 (fun _ _ e => e)) WB.out)
    rw [decide_eq_true (rfl : TL = TL)] at X3
    clear k5 X2 O4 K4 WA WB
    go_wp2_with fail
    (with_reducible refine (X3.out).mono ?_)
    rintro e w6 ⟨rfl, k6⟩
    have K6 := Lib.hid (K5.out.trans k6)
    have O6 := Lib.hid (own_chg O5.out k6 (fun _ _ e => e))
    have X4 := Lib.hid (B1.out w6 _ _ O6.out)
    clear k6 X3 B1 O5 K5
    go_wp2_with fail
    (with_reducible refine (X4.out).mono ?_)
    rintro e w7 ⟨rfl, k7⟩
    have K7 := Lib.hid (K6.out.trans k7)
    have O7 := Lib.hid (own_chg O6.out k7 (fun _ _ e => e))
    have X5 := Lib.hid (B2.out w7 K7.out)
    clear k7 X4 B2 O6 K6
    go_wp2_with fail
    (with_reducible refine (X5.out).mono ?_)
    rintro e w8 ⟨rfl, k8⟩
    have K8 := Lib.hid (K7.out.trans k8)
    have O8 := Lib.hid (own_chg O7.out k8 (fun _ _ e => e))
    have X6 := Lib.hid (C1.out w8 _ _ O8.out)
    clear k8 X5 C1 O7 K7
    go_wp2_with fail
    (with_reducible refine (X6.out).mono ?_)
    rintro e w9 ⟨vp, rfl, wp9, k9⟩
    have WP := Lib.hid wp9
    obtain ⟨lp9, cp9, rfl, _, _⟩ := wp9
    have K9 := Lib.hid (K8.out.trans k9)
    have O9 := Lib.hid (own_chg O8.out k9 (fun _ _ e => e))
    have X7 := Lib.hid (C2.out w9 K9.out)
    clear k9 X6 C2 O8 K8
    go_wp2_with fail
    (with_reducible refine (X7.out).mono ?_)
    rintro e w10 ⟨vq, rfl, wq10, k10⟩
    have WQ := Lib.hid wq10
    obtain ⟨lq10, cq10, rfl, _, _⟩ := wq10
    have K10 := Lib.hid (K9.out.trans k10)
    have O10 := Lib.hid (own_chg O9.out k10 (fun _ _ e => e))
    have X8 := Lib.hid (steps_same w10 _ _ TP _ _ (WP.out.chg k10 (fun _ _ e => e)) WQ.out)
    clear k10 X7 O9 K9 WP WQ
    go_wp2_with fail
    (with_reducible refine (X8.out).mono ?_)
    rintro e w11 ⟨rfl, k11⟩
    have K11 := Lib.hid (K10.out.trans k11)
    have O11 := Lib.hid (own_chg O10.out k11 (fun _ _ e => e))
    clear k11 X8 O10 K10
    go_wp2
    go_loopw [115] (fun iv wr => ∃ (k : Nat), k ≤ R.length ∧ iv = .int .i64 k ∧ Hid (Chg (fun _ => False) w11 wr)) (fun iv _ => R.length - (intOf iv).toNat)
    case atStart => exact ⟨0, by omega, rfl, Lib.hid (Chg.refl _ _)⟩
    case round =>
      obtain ⟨k, hkl, rfl, HJ⟩ := hrel
      have KJ := Lib.hid (K11.out.trans HJ.out)
      by_cases hlt : k < R.length
      · obtain ⟨⟨ra, rb⟩, hr⟩ : ∃ x, R[k]? = some x := ⟨_, List.getElem?_eq_getElem hlt⟩
        have hvr := HV.out.chg KJ.out (fun _ _ e => e)
        obtain ⟨la', cap', e2, _, hvl⟩ := hvr
        cases e2
        obtain ⟨ga, gc, rfl, hga, d0, d1, hra, hrb⟩ := hvl _ _ hr
        have hor := rulesAt_own (own_chg O11.out HJ.out (fun _ _ e => e)) HZ.out
        obtain ⟨la'', cap'', e3, _, hol⟩ := hor
        cases e3
        obtain ⟨go, gd, rfl, hgo, d2, d3, _, _⟩ := hol _ _ hr
        simp only at d0 d1 d2 d3 hra hrb
        obtain ⟨z1, z2⟩ := H47.out _ (List.mem_of_getElem? hr)
        have CNA := Lib.hid (fun w => counts_any w (ra, rb) hra hrb)
        have CNB := Lib.hid (fun w => rcounts_any w (ra, rb) z1 z2)
        unfold ruleV at CNA CNB
        simp only at CNA CNB
        generalize countsB (brul (ra, rb)) = cc at *
        have n1 : (ra.toList == ra.toList) = true := by simp
        have n2 : (rb.toList == rb.toList) = true := by simp
        have n3 : (cc != cc) = false := by simp
        clear hvl hol hr z1 z2
        go_wp2_with fail
        refine wp_region_plan (N := 141) [.rd [0, 1, 2, 3, 4, 5, 6, 7, 8, 9, 10, 11, 12, 13, 15, 16, 17, 18], .ef 14, .ef 19, .rd [20, 21]] (fun w' => w'.cell? ⟨ga, gc + k * 2, none⟩ = some (.string ra) ∧ w'.cell? ⟨ga, gc + k * 2 + 1, none⟩ = some (.string rb) ∧ w'.cell? ⟨go, gd + k * 2, none⟩ = some (.string ra) ∧ w'.cell? ⟨go, gd + k * 2 + 1, none⟩ = some (.string rb)) (by kernel_rfl) (by kernel_rfl) (by kernel_rfl) (by kernel_rfl) (Nat.le_of_ble_eq_true rfl) ⟨d0, d1, d2, d3⟩ ?_
        refine plan_rd (A := ?A1b) ?h1b ?h2b
        case h1b =>
          rintro w' ⟨y0, y1, y2, y3⟩ K hK
          simp only [opsAt, List.filterMap_cons, List.filterMap_nil, List.getElem?_toArray, List.getElem?_cons_succ, List.getElem?_cons_zero]
          repeat still_step
          refine wpStill_nil ?_
          exact hK
        have e0 : wr.drew.cell? ⟨ga, gc + k * 2, none⟩ = some (.string ra) := d0
        have e1 : wr.drew.cell? ⟨ga, gc + k * 2 + 1, none⟩ = some (.string rb) := d1
        have e2 : wr.drew.cell? ⟨go, gd + k * 2, none⟩ = some (.string ra) := d2
        have e3 : wr.drew.cell? ⟨go, gd + k * 2 + 1, none⟩ = some (.string rb) := d3
        have HD := Lib.hid (HJ.out.drew)
        clear d0 d1 d2 d3 HJ
        generalize wr.drew = wd at *
        refine plan_ef rfl ?_
        go_wp2_with fail
        (with_reducible refine (CNA.out _).mono ?_)
        rintro e w12 ⟨rfl, k12⟩
        have f0 := cell_chg k12 (fun e => e) e0
        have f1 := cell_chg k12 (fun e => e) e1
        have f2 := cell_chg k12 (fun e => e) e2
        have f3 := cell_chg k12 (fun e => e) e3
        have H12 := Lib.hid (HD.out.trans k12)
        clear k12 e0 e1 e2 e3 HD
        go_wp2_with fail
        refine ⟨⟨f0, f1, f2, f3⟩, ?_⟩
        refine plan_ef rfl ?_
        go_wp2_with fail
        (with_reducible refine (CNB.out _).mono ?_)
        rintro e w13 ⟨rfl, k13⟩
        have q0 := cell_chg k13 (fun e => e) f0
        have q1 := cell_chg k13 (fun e => e) f1
        have q2 := cell_chg k13 (fun e => e) f2
        have q3 := cell_chg k13 (fun e => e) f3
        have H13 := Lib.hid (H12.out.trans k13)
        clear k13 f0 f1 f2 f3 H12
        go_wp2_with fail
        refine ⟨⟨q0, q1, q2, q3⟩, ?_⟩
        refine plan_rd (A := ?A2b) ?h3b ?h4b
        case h3b =>
          intro w' hS K hK
          clear hS
          simp only [opsAt, List.filterMap_cons, List.filterMap_nil, List.getElem?_toArray, List.getElem?_cons_succ, List.getElem?_cons_zero]
          repeat still_step
          refine wpStill_nil ?_
          exact hK
        refine plan_nil ?_
        clear q0 q1 q2 q3
        go_wp2
        go_roundw
        case rel => exact ⟨k + 1, by omega, by go_num, H13⟩
        case measure => simp [intOf]; omega
      · obtain rfl : k = R.length := by omega
        go_wp2
        go_ret
        exact ⟨rfl, KJ.out⟩
end Go.Proofs.Ytblannomcfiffaa
