/-
  Layer 11: rules that are copied; ReachMore, walked.
-/
import Derived.Test.YtblannomcfiffaaROn
namespace Go.Proofs.Ytblannomcfiffaa
open Go.RowKit Go.Maps

def ruleCells (L : List BRul) : List Value := L.flatMap fun r => [.string r.1, .string r.2]
theorem ruleCells_length (L : List BRul) : (ruleCells L).length = L.length * 2 := by
  unfold ruleCells
  induction L with
  | nil => rfl
  | cons a t ih => rw [List.flatMap_cons, List.length_append, ih]; simp; omega
theorem ruleCells_append (L M : List BRul) : ruleCells (L ++ M) = ruleCells L ++ ruleCells M := by unfold ruleCells; rw [List.flatMap_append]
theorem ruleCells_one (L : List BRul) : ∀ v ∈ ruleCells L, v.oneCell' = true := by
  intro v hv
  unfold ruleCells at hv
  rw [List.mem_flatMap] at hv
  obtain ⟨r, _, h⟩ := hv
  simp at h
  rcases h with rfl | rfl <;> rfl
theorem ruleCells_get : ∀ (L : List BRul) (k : Nat) r, L[k]? = some r → (ruleCells L)[k * 2]? = some (.string r.1) ∧ (ruleCells L)[k * 2 + 1]? = some (.string r.2)
  | [], k, r, h => by simp at h
  | a :: t, 0, r, h => by
    simp at h
    subst h
    unfold ruleCells
    rw [List.flatMap_cons]
    exact ⟨rfl, rfl⟩
  | a :: t, k + 1, r, h => by
    obtain ⟨h1, h2⟩ := ruleCells_get t k r (by simpa using h)
    have e : ruleCells (a :: t) = [.string a.1, .string a.2] ++ ruleCells t := by unfold ruleCells; rw [List.flatMap_cons]
    rw [e]
    refine ⟨?_, ?_⟩
    · rw [List.getElem?_append_right (by simp; omega)]; simpa [show (k + 1) * 2 - 2 = k * 2 by omega] using h1
    · rw [List.getElem?_append_right (by simp; omega)]; simpa [show (k + 1) * 2 + 1 - 2 = k * 2 + 1 by omega] using h2
theorem ruleCells_at {L : List BRul} {j : Nat} {u : Value} (h : (ruleCells L)[j]? = some u) : ∃ k r, L[k]? = some r ∧ (j = k * 2 ∧ u = .string r.1 ∨ j = k * 2 + 1 ∧ u = .string r.2) := by
  have hl := (List.getElem?_eq_some_iff.1 h).1
  rw [ruleCells_length] at hl
  have hk : j / 2 < L.length := by omega
  refine ⟨j / 2, L[j / 2], List.getElem?_eq_getElem hk, ?_⟩
  obtain ⟨h1, h2⟩ := ruleCells_get L (j / 2) _ (List.getElem?_eq_getElem hk)
  rcases Nat.mod_two_eq_zero_or_one j with q | q
  · rw [show j / 2 * 2 = j by omega, h] at h1
    exact .inl ⟨by omega, Option.some.inj h1⟩
  · rw [show j / 2 * 2 + 1 = j by omega, h] at h2
    exact .inr ⟨by omega, Option.some.inj h2⟩
theorem rulesAt_own {w : World} {base : Nat} {v : Value} {L : List BRul} (h : w.ownsRow base 38 2 v L.length (ruleCells L)) (hs : ∀ r ∈ L, r.1.size ≤ maxLen ∧ r.2.size ≤ maxLen) : RulesAt w v (· < w.heap.size) L := by
  have h0 := h
  obtain ⟨h1, ⟨rfl, h2⟩ | ⟨g, cap, cur, rfl, hg, hh, q1, q2, q3, q4⟩⟩ := h
  · refine ⟨none, 0, by rw [h2], by rw [h2]; unfold maxLen; omega, fun j x hj => ?_⟩
    have : j < L.length := (List.getElem?_eq_some_iff.1 hj).1
    omega
  · refine ⟨_, cap, rfl, by omega, fun j x hj => ?_⟩
    have hj' : j < L.length := (List.getElem?_eq_some_iff.1 hj).1
    obtain ⟨c1, c2⟩ := ruleCells_get L j x hj
    obtain ⟨z1, z2⟩ := hs x (List.mem_of_getElem? hj)
    refine ⟨g, 0, rfl, lt_of_obj hh, ?_, ?_, z1, z2⟩
    · rw [Nat.zero_add, h0.cellAt (j := j * 2) (by omega)]; exact c1
    · rw [Nat.zero_add, h0.cellAt (j := j * 2 + 1) (by omega)]; exact c2
theorem rules_src {w : World} {la : Option Addr} {n cap : Nat} {G : Nat → Prop} {R : List BRul} (h : RulesAt w (.slice la n cap) G R) : ∀ (j : Nat) u, (ruleCells R)[j]? = some u → ∃ g o, la = some ⟨g, o, none⟩ ∧ w.cell? ⟨g, o + j, none⟩ = some u := by
  obtain ⟨la', cap', e, _, hc⟩ := h
  cases e
  intro j u hj
  obtain ⟨k, r, hk, q⟩ := ruleCells_at hj
  obtain ⟨lb, lo, e1, _, c0, c1, _⟩ := hc k r hk
  refine ⟨lb, lo, e1, ?_⟩
  rcases q with ⟨rfl, rfl⟩ | ⟨rfl, rfl⟩
  · exact c0
  · rw [← Nat.add_assoc]; exact c1
theorem Try.elemRule : ElemInfo Try.prog 38 2 32 := elemInfo_of (z := .agg #[.string ⟨#[]⟩, .string ⟨#[]⟩]) (by kernel_rfl) rfl (by decide)
/-- The rules that ReachMore puts behind each other. -/
def backL (R : List BRul) (k : Nat) : List BRul := (List.range k).flatMap fun i => [R.getD (R.length - 1 - i) (⟨#[]⟩, ⟨#[]⟩), R.getD i (⟨#[]⟩, ⟨#[]⟩)]
theorem backL_succ (R : List BRul) (k : Nat) : backL R (k + 1) = backL R k ++ [R.getD (R.length - 1 - k) (⟨#[]⟩, ⟨#[]⟩), R.getD k (⟨#[]⟩, ⟨#[]⟩)] := by
  unfold backL
  rw [List.range_succ, List.flatMap_append]; simp
theorem backL_length (R : List BRul) (k : Nat) : (backL R k).length = 2 * k := by
  induction k with
  | zero => rfl
  | succ k ih => rw [backL_succ, List.length_append, ih]; simp; omega
theorem backL_sub {R : List BRul} {k : Nat} (hk : k ≤ R.length) : ∀ x ∈ backL R k, x ∈ R := by
  intro x hx
  unfold backL at hx
  rw [List.mem_flatMap] at hx
  obtain ⟨i, hi, h⟩ := hx
  rw [List.mem_range] at hi
  simp only [List.mem_cons, List.not_mem_nil, or_false] at h
  rcases h with rfl | rfl
  · rw [List.getD_eq_getElem?_getD, List.getElem?_eq_getElem (by omega)]; exact List.getElem_mem _
  · rw [List.getD_eq_getElem?_getD, List.getElem?_eq_getElem (by omega)]; exact List.getElem_mem _
theorem backL_all {R : List BRul} {x : BRul} (h : x ∈ R) : x ∈ backL R R.length := by
  obtain ⟨i, hi, rfl⟩ := List.getElem_of_mem h
  unfold backL
  rw [List.mem_flatMap]
  exact ⟨i, List.mem_range.2 hi, by rw [List.getD_eq_getElem?_getD (i := i), List.getElem?_eq_getElem hi]; simp⟩
theorem map_mem {R R' : List BRul} (h : ∀ x ∈ R, x ∈ R') : ∀ x ∈ R.map brul, x ∈ R'.map brul := by
  intro x hx
  rw [List.mem_map] at hx ⊢
  obtain ⟨y, hy, rfl⟩ := hx
  exact ⟨y, h y hy, rfl⟩
def Small (R : List BRul) : Prop := R.length ≤ 30 ∧ ∀ r ∈ R, r.1.size ≤ 100 ∧ r.2.size ≤ 100
theorem asks_own {w : World} {base : Nat} {v : Value} {L : List BRul} {s : ByteArray} (h : w.ownsRow base 38 2 v L.length (ruleCells L)) (hL : Small L) (hs : s.size ≤ maxLen) : Asks w v L s :=
  ⟨rulesAt_own h (fun r hr => by have := hL.2 r hr; unfold maxLen; omega), .inl ⟨by have := hL.1; omega, fun r hr => by have := (hL.2 r hr).1; omega⟩, hs⟩
set_option maxHeartbeats 4000000 in
set_option maxRecDepth 100000 in
theorem more_law (w : World) (v u : Value) (s : ByteArray) (bnd : Int) (R M : List BRul) (hs : s.size ≤ 140737488355328) (hv : RulesArg w v R) (_hf : RulesFit R) (hu : RulesArg w u M) (_hg : RulesFit M) :
    Calls Try.prog 7 #[v, u, .string s, .int .i64 bnd] w fun e w' => e = .returned (.bool true) ∧ Chg (fun _ => False) w w' := by
  have HV := Lib.hid hv.at_
  have HU := Lib.hid hu.at_
  have HVN := Lib.hid hv.nil
  have HUN := Lib.hid hu.nil
  obtain ⟨la, cap, rfl, hl0, _⟩ := hv.at_
  obtain ⟨lm, mcap, rfl, hm0, _⟩ := hu.at_
  have AW := Lib.hid (awake_any w)
  unfold maxLen at hl0 hm0
  clear hv hu
  go_enter Try.func7, Try.ntmps7
  go_wp2_with fail
  (with_reducible refine (AW.out).mono ?_)
  rintro e w1 ⟨rfl, k1⟩
  have LAR := Lib.hid (large_law w w1 _ R [s] HV.out k1 (by simp) (fun x hx => by simp at hx; subst hx; unfold maxLen; omega))
  change Hid (Calls Try.prog 10 #[.slice la R.length cap, .slice (some ⟨w1.heap.size, 0, none⟩) 1 1] (w1.alloc (.cells #[.string s] 23)) _) at LAR
  clear k1 AW
  by_cases hla : largeB R [s] = true
  · rw [hla] at LAR
    clear hla
    go_wp2_with fail
    (with_reducible refine (LAR.out).mono ?_)
    rintro e w2 ⟨rfl, k2⟩
    go_wp2
    go_ret
    exact ⟨rfl, k2⟩
  have hla : largeB R [s] = false := by simpa using hla
  rw [hla] at LAR
  obtain ⟨hR, hsl⟩ := largeB_false hla
  have hs1 : s.size ≤ 100 := hsl s (by simp)
  clear hla hsl
  have LAM := Lib.hid (fun w2 (k : Chg (fun _ => False) w w2) => large_any w2 (.slice lm M.length mcap) (.slice none 0 0) M [] w2.heap.size (HU.out.below k k.size) (World.ownsRow_nil _ _ _ _) (by simp) (Nat.le_refl _) (by simp))
  by_cases hlm : largeB M [] = true
  · rw [hlm] at LAM
    clear hlm
    go_wp2_with fail
    (with_reducible refine (LAR.out).mono ?_)
    rintro e w2 ⟨rfl, k2⟩
    have B := Lib.hid (LAM.out w2 k2)
    go_wp2_with fail
    (with_reducible refine (B.out).mono ?_)
    rintro e w3 ⟨rfl, k3⟩
    go_wp2
    go_ret
    exact ⟨rfl, k2.next k3 (fun x hx e => by have := k2.size; omega)⟩
  have hlm : largeB M [] = false := by simpa using hlm
  rw [hlm] at LAM
  obtain ⟨hM, _⟩ := largeB_false hlm
  clear hlm
  by_cases h15 : 15 < R.length
  · have g1 : decide (15 < (R.length : Int)) = true := by rw [decide_eq_true_eq]; omega
    go_wp2_with fail
    (with_reducible refine (LAR.out).mono ?_)
    rintro e w2 ⟨rfl, k2⟩
    have B := Lib.hid (LAM.out w2 k2)
    go_wp2_with fail
    (with_reducible refine (B.out).mono ?_)
    rintro e w3 ⟨rfl, k3⟩
    go_wp2
    go_ret
    exact ⟨rfl, k2.next k3 (fun x hx e => by have := k2.size; omega)⟩
  have g1 : decide (15 < (R.length : Int)) = false := by rw [decide_eq_false_iff_not]; omega
  by_cases h16 : 15 < M.length
  · have g2 : decide (15 < (M.length : Int)) = true := by rw [decide_eq_true_eq]; omega
    go_wp2_with fail
    (with_reducible refine (LAR.out).mono ?_)
    rintro e w2 ⟨rfl, k2⟩
    have B := Lib.hid (LAM.out w2 k2)
    go_wp2_with fail
    (with_reducible refine (B.out).mono ?_)
    rintro e w3 ⟨rfl, k3⟩
    go_wp2
    go_ret
    exact ⟨rfl, k2.next k3 (fun x hx e => by have := k2.size; omega)⟩
  have g2 : decide (15 < (M.length : Int)) = false := by rw [decide_eq_false_iff_not]; omega
  by_cases hb : 60 < bnd
  · have g3 : decide (60 < bnd) = true := by rw [decide_eq_true_eq]; exact hb
    go_wp2_with fail
    (with_reducible refine (LAR.out).mono ?_)
    rintro e w2 ⟨rfl, k2⟩
    have B := Lib.hid (LAM.out w2 k2)
    go_wp2_with fail
    (with_reducible refine (B.out).mono ?_)
    rintro e w3 ⟨rfl, k3⟩
    go_wp2
    go_ret
    exact ⟨rfl, k2.next k3 (fun x hx e => by have := k2.size; omega)⟩
  have g3 : decide (60 < bnd) = false := by rw [decide_eq_false_iff_not]; exact hb
  have SR : Small R := hR.resolve_right (by omega)
  have SM : Small M := hM.resolve_right (by omega)
  have HSR := Lib.hid SR
  have HSM := Lib.hid SM
  have ASK := Lib.hid (fun w1 (k : Chg (fun _ => False) w w1) => asks_of (s := s) HV.out k hR (by unfold maxLen; omega))
  clear hR hM SR SM
  generalize hk : rowErr R s bnd = k at *
  by_cases hk0 : k = 0
  · subst hk0
    obtain ⟨hask, r, hr⟩ := rowErr_zero hk
    obtain ⟨m1, m2, m3, m4⟩ := askErr_zero hask
    obtain ⟨s1, s2, s3⟩ := row_some (by omega) hr
    have hrl : r.length ≤ 60 := by omega
    have ALL := Lib.hid (fun w1 (q : Chg (fun _ => False) w w1) => all_ok (ASK.out w1 q) hk hr)
    have MAY := Lib.hid (show ∀ u ∈ wordsR r, (bar u).size ≤ 16 from fun u hu => wlen_of (reach_may m1 ((s3 u).1 hu)).1)
    obtain ⟨rb, hrb1, hrb2, hrb3⟩ := row_same (R' := (backL R R.length).map brul) (by omega) (fun x => ⟨fun h => map_mem (fun y hy => backL_all hy) x h, fun h => map_mem (fun y hy => backL_sub (Nat.le_refl _) y hy) x h⟩) hr
    have hbe : rowErr (backL R R.length) s bnd = 0 := by
      unfold rowErr
      rw [if_pos, if_neg]
      · unfold rowB; rw [hrb1]; simp
      · unfold askErr; rw [m1]; simp only [if_true]
        rw [if_neg (by omega), if_neg (by rw [backL_length]; omega)]
    have SB : Small (backL R R.length) := ⟨by rw [backL_length]; omega, fun x hx => HSR.out.2 x (backL_sub (Nat.le_refl _) x hx)⟩
    have ALB := Lib.hid (fun w1 bv base (q : World.ownsRow w1 base 38 2 bv (backL R R.length).length (ruleCells (backL R R.length))) => all_ok (asks_own (s := s) q SB (by unfold maxLen; omega)) hbe hrb1)
    have LEB := Lib.hid (fun w1 bv base t (ht : (bar t).size ≤ 16) (hin : t ∈ wordsR r) (q : World.ownsRow w1 base 38 2 bv (backL R R.length).length (ruleCells (backL R R.length))) => (show Calls Try.prog 14 #[bv, .string s, .string (bar t), .int .i64 bnd] w1 fun e w' => e = .returned (.tuple #[.bool true, .int .i64 0]) ∧ Chg (fun _ => False) w1 w' from by
      have := leads_ok (asks_own (s := s) q SB (by unfold maxLen; omega)) (bar t) (by unfold maxLen; omega) hbe hrb1
      rw [bar_list, decide_eq_true ((hrb3 t).2 hin)] at this
      exact this))
    have S2 : Small (M ++ R) := ⟨by rw [List.length_append]; omega, fun x hx => by
      rcases List.mem_append.1 hx with q | q
      · exact HSM.out.2 x q
      · exact HSR.out.2 x q⟩
    have LE2 := Lib.hid (fun w1 bv base t (ht : (bar t).size ≤ 16) (hin : t ∈ wordsR r) (q : World.ownsRow w1 base 38 2 bv (M ++ R).length (ruleCells (M ++ R))) => (show ∃ is g, (is = true ∧ g = 0 ∨ is = false ∧ g = 12) ∧ Calls Try.prog 14 #[bv, .string s, .string (bar t), .int .i64 bnd] w1 fun e w' => e = .returned (.tuple #[.bool is, .int .i64 g]) ∧ Chg (fun _ => False) w1 w' from by
      have ha : askErr (mayB s.data.toList) bnd (M ++ R).length = 0 := by
        unfold askErr; rw [m1]; simp only [if_true]
        rw [if_neg (by omega), if_neg (by rw [List.length_append]; omega)]
      cases h2 : rowB (M ++ R) s bnd with
      | none =>
        have he : rowErr (M ++ R) s bnd = 12 := by unfold rowErr; rw [if_pos ha, if_pos h2]
        exact ⟨false, 12, .inr ⟨rfl, rfl⟩, leads_err (asks_own (s := s) q S2 (by unfold maxLen; omega)) (bar t) he (by omega)⟩
      | some r2 =>
        have he : rowErr (M ++ R) s bnd = 0 := by unfold rowErr; rw [if_pos ha, if_neg (by rw [h2]; simp)]
        have hm : t ∈ wordsR r2 := row_more (by omega) (map_mem (fun x hx => List.mem_append_right _ hx)) hr h2 hin
        have := leads_ok (asks_own (s := s) q S2 (by unfold maxLen; omega)) (bar t) (by unfold maxLen; omega) he h2
        rw [bar_list, decide_eq_true hm] at this
        exact ⟨true, 0, .inl ⟨rfl, rfl⟩, this⟩))
    have hbl : rb.length ≤ r.length ∧ r.length ≤ rb.length := ⟨by omega, by omega⟩
    obtain ⟨hbl1, hbl2⟩ := hbl
    clear hk hr hask m1 m2 m3 m4 s1 s2 s3 hrb1 hrb2 hrb3 hbe SB S2
    have hR15 : R.length ≤ 15 := by omega
    have hM15 : M.length ≤ 15 := by omega
    go_wp2_with fail
    (with_reducible refine (LAR.out).mono ?_)
    rintro e w2 ⟨rfl, k2⟩
    have B := Lib.hid (LAM.out w2 k2)
    have K2 := Lib.hid k2
    clear k2 LAR LAM
    go_wp2_with fail
    (with_reducible refine (B.out).mono ?_)
    rintro e w3 ⟨rfl, k3⟩
    have K3 := Lib.hid (K2.out.next k3 (fun x hx e => by have := K2.out.size; omega))
    have A := Lib.hid (ALL.out w3 K3.out)
    clear k3 B ALL K2
    go_wp2_with fail
    (with_reducible refine (A.out).mono ?_)
    rintro e w4 ⟨va, rfl, o4, k4⟩
    obtain ⟨a4, c4, rfl⟩ := own_shape o4
    have K4 := Lib.hid (K3.out.trans k4)
    have O4 := Lib.hid o4
    have hsz4 : w.heap.size ≤ w4.heap.size := K4.out.size
    clear o4 k4 A K3
    go_wp2_with fail
    go_loopw [11, 58] (fun bv iv wr => ∃ (k : Nat), k ≤ R.length ∧ iv = .int .i64 k ∧ Hid (wr.ownsRow w4.heap.size 38 2 bv (backL R k).length (ruleCells (backL R k)) ∧ Chg (fun _ => False) w4 wr)) (fun _ iv _ => R.length - (intOf iv).toNat)
    case atStart => exact ⟨0, by omega, rfl, Lib.hid ⟨own_empty _ _ _ _ (Nat.le_refl _), chg_alloc _ _ _⟩⟩
    case round =>
      obtain ⟨k, hkl, rfl, HI⟩ := hrel
      obtain ⟨ab, cb, eb⟩ := own_shape HI.out.1
      subst eb
      have HO := Lib.hid HI.out.1
      have HC := Lib.hid HI.out.2
      have hsz := HI.out.2.size
      have hbk := backL_length R k
      by_cases hlt : k < R.length
      · obtain ⟨⟨ra, rb'⟩, hr1⟩ : ∃ x, R[R.length - 1 - k]? = some x := ⟨_, List.getElem?_eq_getElem (by omega)⟩
        obtain ⟨⟨rc, rd⟩, hr2⟩ : ∃ x, R[k]? = some x := ⟨_, List.getElem?_eq_getElem hlt⟩
        have hvr := HV.out.chg (K4.out.trans HI.out.2) (fun _ _ e => e)
        obtain ⟨la', cap', e2, _, hvl⟩ := hvr
        cases e2
        obtain ⟨ga, gc, rfl, hga, d0, d1, _, _⟩ := hvl _ _ hr1
        obtain ⟨ga', gc', eg, _, d2, d3, _, _⟩ := hvl _ _ hr2
        cases eg
        simp only at d0 d1 d2 d3
        have TK := Lib.hid (show backL R (k + 1) = backL R k ++ [(ra, rb'), (rc, rd)] by
          rw [backL_succ, List.getD_eq_getElem?_getD, hr1, List.getD_eq_getElem?_getD, hr2]; rfl)
        have hbl : (backL R k).length ≤ 30 := by omega
        obtain ⟨n1, hn1⟩ : ∃ n1, n1 = R.length - 1 - k := ⟨_, rfl⟩
        rw [← hn1] at d0 d1
        have q1 : IntKind.i64.wrap ((R.length : Int) - 1) = (R.length : Int) - 1 := by rw [IntKind.wrap_i64]; omega
        have q2 : IntKind.i64.wrap ((R.length : Int) - 1 - (k : Int)) = (n1 : Int) := by rw [IntKind.wrap_i64]; omega
        have q3 : n1 < R.length := by omega
        have hb4 : w4.heap.size ≤ wr.heap.size := by omega
        have HN1 := Lib.hid hn1
        clear hvl hr1 hr2 hbk HI hn1
        generalize backL R k = T at *
        go_wp2_with fail
        refine wp_region_plan (N := 140) [.rd [0, 1, 2, 3, 4, 5, 6, 7, 8, 9, 10, 11, 12], .ef 13, .ef 14, .rd [15]] (fun w' => w'.cell? ⟨ga, gc + n1 * 2, none⟩ = some (.string ra) ∧ w'.cell? ⟨ga, gc + n1 * 2 + 1, none⟩ = some (.string rb') ∧ w'.cell? ⟨ga, gc + k * 2, none⟩ = some (.string rc) ∧ w'.cell? ⟨ga, gc + k * 2 + 1, none⟩ = some (.string rd)) (by kernel_rfl) (by kernel_rfl) (by kernel_rfl) (by kernel_rfl) (Nat.le_of_ble_eq_true rfl) ⟨d0, d1, d2, d3⟩ ?_
        refine plan_rd (A := ?A1) ?h1 ?h2
        case h1 =>
          rintro w' ⟨z0, z1, z2, z3⟩ K hK
          simp only [opsAt, List.filterMap_cons, List.filterMap_nil, List.getElem?_toArray, List.getElem?_cons_succ, List.getElem?_cons_zero]
          repeat still_step
          refine wpStill_nil ?_
          exact hK
        have e0 : wr.drew.cell? ⟨ga, gc + n1 * 2, none⟩ = some (.string ra) := d0
        have e1 : wr.drew.cell? ⟨ga, gc + n1 * 2 + 1, none⟩ = some (.string rb') := d1
        have e2 : wr.drew.cell? ⟨ga, gc + k * 2, none⟩ = some (.string rc) := d2
        have e3 : wr.drew.cell? ⟨ga, gc + k * 2 + 1, none⟩ = some (.string rd) := d3
        have OD := Lib.hid (own_chg HO.out (chg_drew (fun _ => False) wr) (fun _ _ e => e))
        have KD := Lib.hid (HC.out.drew)
        have hbd : w4.heap.size ≤ wr.drew.heap.size := hb4
        clear d0 d1 d2 d3 HO HC q1 q2 q3
        generalize wr.drew = wd at *
        refine plan_ef rfl ?_
        go_wp2_with fail
        have ca := chg_alloc (fun _ => False) wd (.cells #[.string ra, .string rb', .string rc, .string rd] 38)
        refine ⟨⟨cell_chg ca (fun e => e) e0, cell_chg ca (fun e => e) e1, cell_chg ca (fun e => e) e2, cell_chg ca (fun e => e) e3⟩, ?_⟩
        refine plan_ef rfl ?_
        refine wpList_pushN rfl (.tmp 61) (.tmp 74) 22 rfl 38 2 32 Try.underlying22 Try.elemRule w4.heap.size _ _ _ rfl (OD.out.alloc _) _ 2 [.string ra, .string rb', .string rc, .string rd] 38 (0, 0) rfl (obj_alloc_new _ _) rfl (by intro u hu; simp at hu; rcases hu with rfl | rfl | rfl | rfl <;> rfl) (by omega) (by unfold maxLen; omega) (by simp; omega) ?_
        intro v5 w5 o5 g5
        have kk := (chg_alloc (fun x => w4.heap.size ≤ x) wd (.cells #[.string ra, .string rb', .string rc, .string rd] 38)).grown g5 (fun x hx _ => (OD.out.lt x hx).1)
        have f0 := cell_chg kk (by omega) e0
        have f1 := cell_chg kk (by omega) e1
        have f2 := cell_chg kk (by omega) e2
        have f3 := cell_chg kk (by omega) e3
        have O5 := Lib.hid (show w5.ownsRow w4.heap.size 38 2 v5 (T ++ [(ra, rb'), (rc, rd)]).length (ruleCells (T ++ [(ra, rb'), (rc, rd)])) from by
          rw [List.length_append, ruleCells_append]; exact o5)
        have K5 := Lib.hid (show Chg (fun _ => False) w4 w5 from KD.out.next kk (fun x hx e => by omega))
        clear kk e0 e1 e2 e3 o5 g5 OD KD ca
        go_wp2_with fail
        refine ⟨⟨f0, f1, f2, f3⟩, ?_⟩
        refine plan_rd (A := ?A2) ?h3 ?h4
        case h3 =>
          intro w' hS K hK
          clear hS
          simp only [opsAt, List.filterMap_cons, List.filterMap_nil, List.getElem?_toArray, List.getElem?_cons_succ, List.getElem?_cons_zero]
          repeat still_step
          refine wpStill_nil ?_
          exact hK
        refine plan_nil ?_
        clear f0 f1 f2 f3
        go_wp2
        go_roundw
        case rel => exact ⟨k + 1, by omega, by go_num, Lib.hid ⟨by rw [TK.out]; exact O5.out, K5.out⟩⟩
        case measure => simp [intOf]; omega
      · obtain rfl : k = R.length := by omega
        have AB := Lib.hid (ALB.out wr _ _ HO.out)
        have hne : ((rb.length : Int) != (r.length : Int)) = false := by rw [bne_eq_false_iff_eq]; omega
        have hne2 : ((rb.length : Int) == (r.length : Int)) = true := by rw [beq_iff_eq]; omega
        clear hbk HI hlt
        have hbb : (backL R R.length).length ≤ 30 := by rw [backL_length]; omega
        generalize backL R R.length = T at *
        go_wp2_with fail
        (with_reducible refine (AB.out).mono ?_)
        rintro e w6 ⟨v6, rfl, o6, k6⟩
        obtain ⟨a6, c6, rfl⟩ := own_shape o6
        have C6 := Lib.hid (HC.out.trans k6)
        have B6 := Lib.hid (own_chg HO.out k6 (fun _ _ e => e))
        have A6 := Lib.hid (own_chg O4.out C6.out (fun _ _ e => e))
        clear o6 k6 AB HO HC
        go_wp2
        go_loopw [95] (fun iv wr => ∃ (k : Nat), k ≤ r.length ∧ iv = .int .i64 k ∧ Hid (Chg (fun _ => False) w6 wr)) (fun iv _ => r.length - (intOf iv).toNat)
        case atStart => exact ⟨0, by omega, rfl, Lib.hid (Chg.refl _ _)⟩
        case round =>
          obtain ⟨j, hjl, rfl, HJ⟩ := hrel
          have KJ := Lib.hid (K4.out.trans (C6.out.trans HJ.out))
          have AJ := Lib.hid (own_chg A6.out HJ.out (fun _ _ e => e))
          have BJ := Lib.hid (own_chg B6.out HJ.out (fun _ _ e => e))
          by_cases hlt : j < r.length
          · obtain ⟨g, rfl, cx⟩ := own_word AJ.out hlt
            have hbz := MAY.out _ (wordAt_mem hlt)
            have L1 := Lib.hid (LEB.out wr _ _ (wordAt r j) hbz (wordAt_mem hlt) BJ.out)
            have L2 := Lib.hid (fun w8 v8 base q => LE2.out w8 v8 base (wordAt r j) hbz (wordAt_mem hlt) q)
            clear hbz
            generalize bar (wordAt r j) = xj at *
            go_wp2_with fail
            (with_reducible refine (L1.out).mono ?_)
            rintro e w7 ⟨rfl, k7⟩
            have K7 := Lib.hid (HJ.out.trans k7)
            have KW7 := Lib.hid (KJ.out.trans k7)
            have hsz7 := KW7.out.size
            clear k7 L1
            go_wp2_with (at_builtin; refine wpList_pushS rfl (.tmp 114) (.tmp 115) 22 rfl 38 2 32 Try.underlying22 Try.elemRule w7.heap.size _ 0 [] rfl (own_empty _ _ _ _ (Nat.le_refl _)) lm M.length mcap (ruleCells M) rfl ?a1 ?a2 ?a3 ?a4 ?a5 ?a6 ?a7 ?nx1)
            case a1 => exact ruleCells_length M
            case a2 => exact rules_src (HU.out.chg (KW7.out.alloc _) (fun _ _ e => e))
            case a3 => intro e; rw [e] at HUN; exact HUN.out _ _ rfl
            case a4 => exact ruleCells_one M
            case a5 => omega
            case a6 => unfold maxLen; omega
            case a7 => simp
            intro v8 w8 o8 g8
            obtain ⟨a8, c8, rfl⟩ := own_shape o8
            have k8 : Chg (fun _ => False) w7 w8 := (chg_alloc (fun _ => False) w7 (.cells #[] 38)).next (Chg.of_grown g8) (fun x hx e => by
              have e2 : w7.heap.size = x := by simpa [Value.ownBlock] using e
              omega)
            have O8 := Lib.hid (show w8.ownsRow w7.heap.size 38 2 (.slice a8 M.length c8) M.length (ruleCells M) from by simpa using o8)
            have K8 := Lib.hid k8
            have hs8 := k8.size
            clear o8 g8 k8
            go_wp2_with (at_builtin; refine wpList_pushS rfl (.tmp 116) (.tmp 117) 22 rfl 38 2 32 Try.underlying22 Try.elemRule w7.heap.size _ M.length (ruleCells M) rfl O8.out la R.length cap (ruleCells R) rfl ?b1 ?b2 ?b3 ?b4 ?b5 ?b6 ?b7 ?nx2)
            case b1 => exact ruleCells_length R
            case b2 => exact rules_src (HV.out.chg (KW7.out.trans K8.out) (fun _ _ e => e))
            case b3 => intro e; rw [e] at HVN; exact HVN.out _ _ rfl
            case b4 => exact ruleCells_one R
            case b5 => omega
            case b6 => unfold maxLen; omega
            case b7 => omega
            intro v9 w9 o9 g9
            have k9 : Chg (fun _ => False) w7 w9 := K8.out.next (Chg.of_grown g9) (fun x hx e => by have := (O8.out.lt x e).1; omega)
            have K9 := Lib.hid k9
            obtain ⟨is, gg, his, hL2⟩ := L2.out w9 v9 w7.heap.size (by rw [List.length_append, ruleCells_append]; exact o9)
            obtain ⟨a9, c9, rfl⟩ := own_shape o9
            have HL2 := Lib.hid hL2
            clear o9 g9 k9 K8 O8 L2 hL2
            rcases his with ⟨rfl, rfl⟩ | ⟨rfl, rfl⟩
            all_goals
              go_wp2_with fail
              (with_reducible refine (HL2.out).mono ?_)
              rintro e w10 ⟨rfl, k10⟩
              have K10 := Lib.hid ((K7.out.trans K9.out).trans k10)
              clear k10
              go_wp2
              go_roundw
              case rel => exact ⟨j + 1, by omega, by go_num, K10⟩
              case measure => simp [intOf]; omega
          · obtain rfl : j = r.length := by omega
            go_wp2
            go_ret
            exact ⟨rfl, KJ.out⟩
  · have ALL := Lib.hid (fun w1 (q : Chg (fun _ => False) w w1) => all_err (ASK.out w1 q) hk hk0)
    have h2 : (k != 0) = true := by rw [bne_iff_ne]; exact hk0
    clear hk hk0
    go_wp2_with fail
    (with_reducible refine (LAR.out).mono ?_)
    rintro e w2 ⟨rfl, k2⟩
    have B := Lib.hid (LAM.out w2 k2)
    have K2 := Lib.hid k2
    clear k2 LAR LAM
    go_wp2_with fail
    (with_reducible refine (B.out).mono ?_)
    rintro e w3 ⟨rfl, k3⟩
    have K3 := Lib.hid (K2.out.next k3 (fun x hx e => by have := K2.out.size; omega))
    have A := Lib.hid (ALL.out w3 K3.out)
    clear k3 B ALL K2
    go_wp2_with fail
    (with_reducible refine (A.out).mono ?_)
    rintro e w4 ⟨rfl, k4⟩
    go_wp2
    go_ret
    exact ⟨rfl, K3.out.trans k4⟩
end Go.Proofs.Ytblannomcfiffaa
