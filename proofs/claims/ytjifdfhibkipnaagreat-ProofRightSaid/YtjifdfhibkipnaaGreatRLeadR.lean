/-
  The reference's Leads.
-/
import Derived.Test.YtjifdfhibkipnaaGreatRHelp
import Derived.Test.YtjifdfhibkipnaaGreatRTellR1
import Derived.Test.YtjifdfhibkipnaaGreatRTellD
namespace Go.Proofs.YtjifdfhibkipnaaGreat
open Go.RowKit Go.Maps
section
variable {w : World} {v : Value} {R : List BRul} {s : ByteArray} {b : Int}
set_option maxRecDepth 100000 in
theorem rleads_err (hA : Asks w v R s) (h47 : Fit47 R) (hs : s.size ≤ 140737488355328) (t : ByteArray) {k : Int} (h : rowErr R s b = k) (hk : k ≠ 0) : Calls Tryz.prog 25 #[v, .string s, .string t, .int .i64 b] w fun e w' => e = .returned (.tuple #[.bool false, .int .i64 k]) ∧ Chg (fun _ => False) w w' := by
  have W := Lib.hid (rfind_err hA h47 hs h hk)
  have g : (k != 0) = true := by rw [bne_iff_ne]; exact hk
  obtain ⟨la, cap, rfl, _, _⟩ := hA.rules
  clear hA h hk
  go_enter Tryz.func25, Tryz.ntmps25
  go_wp2_with fail
  (with_reducible refine (W.out).mono ?_)
  rintro e w' ⟨rfl, kc⟩
  go_wp2
  go_ret2
  exact ⟨rfl, kc⟩
theorem placeI_nonneg (r : List Ent) (u : Wd) : decide (0 ≤ placeI r u) = decide (u ∈ wordsR r) := by
  unfold placeI
  by_cases h : u ∈ wordsR r
  · rw [if_pos h, decide_eq_true h, decide_eq_true_eq]; omega
  · rw [if_neg h, decide_eq_false h]; rfl
set_option maxRecDepth 100000 in
theorem rleads_ok (hA : Asks w v R s) (h47 : Fit47 R) (t : ByteArray) (h : rowErr R s b = 0) {r : List Ent} (hr : rowB R s b = some r) : Calls Tryz.prog 25 #[v, .string s, .string t, .int .i64 b] w fun e w' => e = .returned (.tuple #[.bool (decide (t.data.toList ∈ wordsR r)), .int .i64 0]) ∧ Chg (fun _ => False) w w' := by
  have W := Lib.hid (rfind_ok hA h47 h hr)
  obtain ⟨h1, _⟩ := rowErr_zero h
  obtain ⟨m1, m2, m3, m4⟩ := askErr_zero h1
  obtain ⟨s1, s2, s3⟩ := row_some (by omega) hr
  obtain ⟨la, cap, rfl, _, _⟩ := hA.rules
  have hrl : r.length ≤ 5000 := by omega
  have PN := Lib.hid (placeI_nonneg r t.data.toList)
  have PB : -9223372036854775808 ≤ placeI r t.data.toList ∧ placeI r t.data.toList ≤ 9223372036854775807 := by
    unfold placeI
    split
    · have : (wordsR r).idxOf t.data.toList ≤ (wordsR r).length := List.idxOf_le_length
      rw [wordsR_length] at this
      omega
    · omega
  have PLA := Lib.hid (fun w' base bb lv fv bv (hX : FRow w' base bb lv fv bv r r r) => rplace_any w' base bb lv fv bv r r r t hX (by omega))
  clear hA h hr h1 m1 m2 m3 m4 s1 s2 s3
  generalize placeI r t.data.toList = pi at *
  generalize decide (t.data.toList ∈ wordsR r) = db at *
  obtain ⟨pb1, pb2⟩ := PB
  go_enter Tryz.func25, Tryz.ntmps25
  go_wp2_with fail
  (with_reducible refine (W.out).mono ?_)
  rintro e w' ⟨bb, rfl, ⟨lv, fv, bv, hX⟩, kc⟩
  have PL := Lib.hid (PLA.out _ _ _ _ _ _ hX)
  clear hX PLA
  go_wp2_with fail
  (with_reducible refine (PL.out).mono ?_)
  rintro e w2 ⟨rfl, rfl⟩
  go_wp2
  go_ret2
  exact ⟨by rw [← PN.out]; rfl, kc⟩
/-- The reference's Leads, error or not. -/
theorem rleads_any (hA : Asks w v R s) (h47 : Fit47 R) (hs : s.size ≤ 140737488355328) (t : ByteArray) : Calls Tryz.prog 25 #[v, .string s, .string t, .int .i64 b] w fun e w' => e = .returned (.tuple #[.bool (tellB R s t b), .int .i64 (rowErr R s b)]) ∧ Chg (fun _ => False) w w' := by
  by_cases h : rowErr R s b = 0
  · obtain ⟨_, r, hr⟩ := rowErr_zero h
    have := rleads_ok hA h47 t h hr
    rw [show decide (t.data.toList ∈ wordsR r) = tellB R s t b by unfold tellB rowD; rw [if_pos h, hr]; rfl, ← h] at this
    exact this
  · have := rleads_err hA h47 hs t rfl h
    rw [show false = tellB R s t b by unfold tellB; rw [if_neg h]] at this
    exact this
end
end Go.Proofs.YtjifdfhibkipnaaGreat
