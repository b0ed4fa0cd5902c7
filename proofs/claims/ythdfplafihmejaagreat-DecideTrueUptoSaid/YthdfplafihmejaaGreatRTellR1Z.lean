/-
  RTellR1: what else.
  RArgs: what else.
  RHelp: what else.
  The reference's Leads.
  The reference's All.
  SSetH: what else.
-/
import Derived.Test.YthdfplafihmejaaGreatRHelp
import Derived.Test.YthdfplafihmejaaGreatBaseZ
import Derived.Test.YthdfplafihmejaaGreatRRefAZ
import Derived.Test.YthdfplafihmejaaGreatSAt
namespace Go.Proofs.YthdfplafihmejaaGreat
open Go.RowKit Go.Maps

section
variable {w : World} {v : Value} {R : List BRul} {s : ByteArray} {b : Int}
theorem rfind_err (hA : Asks w v R s) (h47 : Fit47 R) (hs : s.size ≤ 140737488355328) {k : Int} (h : rowErr R s b = k) (hk : k ≠ 0) : Calls Tryz.prog 48 #[v, .string s, .int .i64 b] w (FindBad w k) := by
 unfold rowErr at h
 by_cases h1 : askErr (mayB s.data.toList) b R.length = 0
 ·rw [if_pos h1] at h
  have h2 : rowB R s b = none := by
   cases h2 : rowB R s b with
   | none => rfl
   | some r => rw [h2] at h; simp at h; exact absurd h.symm hk
  rw [if_pos h2] at h
  subst h
  obtain ⟨m1, m2, m3, m4⟩ := askErr_zero h1
  obtain ⟨n, rfl⟩ : ∃ n : Nat, b = n := ⟨b.toNat, by omega⟩
  refine (rfind_row w v R s n hA.rules h47 m4 m1 (by omega) (by omega)).mono fun e w' h => ?_
  unfold rowB at h2
  rw [Int.toNat_natCast] at h2
  exact h.2 h2
 ·rw [if_neg h1] at h
  obtain ⟨la, cap, rfl, q1, q2⟩ := hA.rules
  rw [← h]
  exact rfind_bad w la R.length cap s b hs q1 h1
theorem rfind_ok (hA : Asks w v R s) (h47 : Fit47 R) (h : rowErr R s b = 0) {r : List Ent} (hr : rowB R s b = some r) : Calls Tryz.prog 48 #[v, .string s, .int .i64 b] w (FindGood w r) := by
 obtain ⟨h1, _⟩ := rowErr_zero h
 obtain ⟨m1, m2, m3, m4⟩ := askErr_zero h1
 obtain ⟨n, rfl⟩ : ∃ n : Nat, b = n := ⟨b.toNat, by omega⟩
 refine (rfind_row w v R s n hA.rules h47 m4 m1 (by omega) (by omega)).mono fun e w' h => ?_
 unfold rowB at hr
 rw [Int.toNat_natCast] at hr
 exact h.1 r hr
end
end Go.Proofs.YthdfplafihmejaaGreat

namespace Go.Proofs.YthdfplafihmejaaGreat
theorem list_eq_of {α : Type} {a b : List α} (hl : a.length = b.length) (h : ∀ j, j < a.length → a[j]? = b[j]?) : a = b := by
 apply List.ext_getElem?
 intro j
 rcases Nat.lt_or_ge j a.length with q | q
 ·exact h j q
 ·rw [List.getElem?_eq_none q, List.getElem?_eq_none (by omega)]
end Go.Proofs.YthdfplafihmejaaGreat

namespace Go.Proofs.YthdfplafihmejaaGreat
open Go.RowKit Go.Maps
end Go.Proofs.YthdfplafihmejaaGreat

namespace Go.Proofs.YthdfplafihmejaaGreat
open Go.ChangeShapes Go.WideShapes Go.ChangeAt Go.RowKit

end Go.Proofs.YthdfplafihmejaaGreat

namespace Go.Proofs.YthdfplafihmejaaGreat
open Go.RowKit Go.Maps
section
variable {w : World} {v : Value} {R : List BRul} {s : ByteArray} {b : Int}
end
end Go.Proofs.YthdfplafihmejaaGreat

namespace Go.Proofs.YthdfplafihmejaaGreat
open Go.RowKit Go.Maps
section
variable {w : World} {v : Value} {R : List BRul} {s : ByteArray} {b : Int}
set_option maxRecDepth 100000 in
theorem rleads_err (hA : Asks w v R s) (h47 : Fit47 R) (hs : s.size ≤ 140737488355328) (t : ByteArray) {k : Int} (h : rowErr R s b = k) (hk : k ≠ 0) : Calls Tryz.prog 37 #[v, .string s, .string t, .int .i64 b] w fun e w' => e = .returned (.tuple #[.bool false, .int .i64 k]) ∧ Chg (fun _ => False) w w' := by
 have W := Lib.hid (rfind_err hA h47 hs h hk)
 have g : (k != 0) = true := by rw [bne_iff_ne]; exact hk
 obtain ⟨la, cap, rfl, _, _⟩ := hA.rules
 clear hA h hk
 go_enter Tryz.func37, Tryz.ntmps37
 go_wp2_with fail
 (with_reducible refine (W.out).mono ?_)
 rintro e w' ⟨rfl, kc⟩
 go_wp2
 go_ret2
 exact ⟨rfl, kc⟩
theorem placeI_nonneg (r : List Ent) (u : Wd) : decide (0 ≤ placeI r u) = decide (u ∈ wordsR r) := by
 unfold placeI
 by_cases h : u ∈ wordsR r
 ·rw [if_pos h, decide_eq_true h, decide_eq_true_eq]; omega
 ·rw [if_neg h, decide_eq_false h]; rfl
set_option maxRecDepth 100000 in
theorem rleads_ok (hA : Asks w v R s) (h47 : Fit47 R) (t : ByteArray) (h : rowErr R s b = 0) {r : List Ent} (hr : rowB R s b = some r) : Calls Tryz.prog 37 #[v, .string s, .string t, .int .i64 b] w fun e w' => e = .returned (.tuple #[.bool (decide (t.data.toList ∈ wordsR r)), .int .i64 0]) ∧ Chg (fun _ => False) w w' := by
 have W := Lib.hid (rfind_ok hA h47 h hr)
 obtain ⟨h1, _⟩ := rowErr_zero h
 obtain ⟨m1, m2, m3, m4⟩ := askErr_zero h1
 obtain ⟨s1, s2, s3⟩ := row_some (by omega) hr
 obtain ⟨la, cap, rfl, _, _⟩ := hA.rules
 have hrl : r.length ≤ 5000 := by omega
 have PN := Lib.hid (placeI_nonneg r t.data.toList)
 have PB : -9223372036854775808 ≤ placeI r t.data.toList ∧ placeI r t.data.toList ≤ 9223372036854775807 := by
  unfold placeI
  split
  ·have : (wordsR r).idxOf t.data.toList ≤ (wordsR r).length := List.idxOf_le_length
   rw [wordsR_length] at this
   omega
  ·omega
 have PLA := Lib.hid (fun w' base bb lv fv bv (hX : FRow w' base bb lv fv bv r r r) => rplace_any w' base bb lv fv bv r r r t hX (by omega))
 clear hA h hr h1 m1 m2 m3 m4 s1 s2 s3
 generalize placeI r t.data.toList = pi at *
 generalize decide (t.data.toList ∈ wordsR r) = db at *
 obtain ⟨pb1, pb2⟩ := PB
 go_enter Tryz.func37, Tryz.ntmps37
 go_wp2_with fail
 (with_reducible refine (W.out).mono ?_)
 rintro e w' ⟨bb, rfl, ⟨lv, fv, bv, hX⟩, kc⟩
 have PL := Lib.hid (PLA.out _ _ _ _ _ _ hX)
 clear hX PLA
 go_wp2_with fail
 (with_reducible refine (PL.out).mono ?_)
 rintro e w2 ⟨rfl, rfl⟩
 go_wp2
 go_ret2
 exact ⟨by rw [← PN.out]; rfl, kc⟩
/-- The reference's Leads, error or not. -/
theorem rleads_any (hA : Asks w v R s) (h47 : Fit47 R) (hs : s.size ≤ 140737488355328) (t : ByteArray) : Calls Tryz.prog 37 #[v, .string s, .string t, .int .i64 b] w fun e w' => e = .returned (.tuple #[.bool (tellB R s t b), .int .i64 (rowErr R s b)]) ∧ Chg (fun _ => False) w w' := by
 by_cases h : rowErr R s b = 0
 ·obtain ⟨_, r, hr⟩ := rowErr_zero h
  have := rleads_ok hA h47 t h hr
  rw [show decide (t.data.toList ∈ wordsR r) = tellB R s t b by unfold tellB rowD; rw [if_pos h, hr]; rfl, ← h] at this
  exact this
 ·have := rleads_err hA h47 hs t rfl h
  rw [show false = tellB R s t b by unfold tellB; rw [if_neg h]] at this
  exact this
end
end Go.Proofs.YthdfplafihmejaaGreat

namespace Go.Proofs.YthdfplafihmejaaGreat
open Go.RowKit Go.Maps

section
variable {w : World} {v : Value} {R : List BRul} {s : ByteArray} {b : Int}
set_option maxRecDepth 100000 in
theorem rall_err (hA : Asks w v R s) (h47 : Fit47 R) (hs : s.size ≤ 140737488355328) {k : Int} (h : rowErr R s b = k) (hk : k ≠ 0) : Calls Tryz.prog 22 #[v, .string s, .int .i64 b] w fun e w' => e = .returned (.tuple #[.slice none 0 0, .int .i64 k]) ∧ Chg (fun _ => False) w w' := by
 have W := Lib.hid (rfind_err hA h47 hs h hk)
 have g : (k != 0) = true := by rw [bne_iff_ne]; exact hk
 obtain ⟨la, cap, rfl, _, _⟩ := hA.rules
 clear hA h hk
 go_enter Tryz.func22, Tryz.ntmps22
 go_wp2_with fail
 (with_reducible refine (W.out).mono ?_)
 rintro e w' ⟨rfl, kc⟩
 go_wp2
 go_ret2
 exact ⟨rfl, kc⟩
set_option maxRecDepth 100000 in
theorem rall_ok (hA : Asks w v R s) (h47 : Fit47 R) (h : rowErr R s b = 0) {r : List Ent} (hr : rowB R s b = some r) : Calls Tryz.prog 22 #[v, .string s, .int .i64 b] w fun e w' => ∃ va, e = .returned (.tuple #[va, .int .i64 0]) ∧ w'.ownsRow w.heap.size 57 1 va r.length (rwCells r) ∧ Chg (fun _ => False) w w' := by
 have W := Lib.hid (rfind_ok hA h47 h hr)
 obtain ⟨la, cap, rfl, _, _⟩ := hA.rules
 clear hA h hr
 go_enter Tryz.func22, Tryz.ntmps22
 go_wp2_with fail
 (with_reducible refine (W.out).mono ?_)
 rintro e w' ⟨bb, rfl, ⟨lv, fv, bv, hX⟩, kc⟩
 obtain ⟨aw, cw, rfl⟩ := own_shape hX.hl
 have c0 : w'.cell? ⟨bb, 0, none⟩ = some (.slice aw r.length cw) := cell_of hX.hb rfl
 have HX := Lib.hid hX
 clear hX
 go_wp2
 go_ret2
 exact ⟨_, rfl, HX.out.hl, kc⟩
theorem rall_tells (hA : Asks w v R s) (h47 : Fit47 R) (hs : s.size ≤ 140737488355328) : Calls Tryz.prog 22 #[v, .string s, .int .i64 b] w (TellAll w (rowErr R s b) (tellL R s b)) := by
 by_cases h : rowErr R s b = 0
 ·obtain ⟨_, r, hr⟩ := rowErr_zero h
  refine (rall_ok hA h47 h hr).mono fun e w' ⟨va, he, ho, hc⟩ => ⟨va, by rw [h]; exact he, ?_, hc⟩
  unfold tellL rowD
  rw [if_pos h, hr]
  exact wordsAt_row ho (fun u hu => by have := ((row_sizes h hr).1 u hu).2; omega)
 ·refine (rall_err hA h47 hs rfl h).mono fun e w' ⟨he, hc⟩ => ⟨_, he, ?_, hc⟩
  unfold tellL
  rw [if_neg h]
  exact wordsAt_nil _ _
end
end Go.Proofs.YthdfplafihmejaaGreat

namespace Go.Proofs.YthdfplafihmejaaGreat
open Go.RowKit Go.Maps

section
variable (w : World) (v : Value) (G : Nat → Prop) (l : List ByteArray) (x : ByteArray)
theorem rhas_any (hv : WordsAt w v G l) : Calls Tryz.prog 23 #[v, .string x] w fun e w' => e = .returned (.bool (hasB l x)) ∧ w = w' := by
 obtain ⟨la, cap, rfl, hl0, hcl⟩ := hv
 have HCL := Lib.hid hcl
 unfold maxLen at hl0
 clear hcl
 go_enter Tryz.func23, Tryz.ntmps23
 go_wp2
 go_loop [5] (fun iv => ∃ k : Nat, k ≤ l.length ∧ iv = .int .i64 k ∧ Hid (∀ j, j < k → l[j]? ≠ some x)) (fun iv => l.length - (intOf iv).toNat)
 case atStart => exact ⟨0, by omega, rfl, Lib.hid (fun j hj => by omega)⟩
 case round =>
  obtain ⟨k, hk, rfl, HI⟩ := hrel
  by_cases hlt : k < l.length
  ·obtain ⟨y, hy⟩ : ∃ y, l[k]? = some y := ⟨_, List.getElem?_eq_getElem hlt⟩
   obtain ⟨lb, lo, rfl, _, c0, _⟩ := HCL.out k y hy
   by_cases hxy : y = x
   ·have n1 : (y.toList == x.toList) = true := by rw [str_eq, decide_eq_true hxy]
    have R := Lib.hid (show hasB l x = true from decide_eq_true (by rw [← hxy]; exact List.mem_of_getElem? hy))
    clear hy hxy
    go_wp2
    go_ret
    exact ⟨by rw [R.out]; rfl, rfl⟩
   ·have n1 : (y.toList == x.toList) = false := by rw [str_eq, decide_eq_false hxy]
    have HI2 := Lib.hid (show ∀ j, j < k + 1 → l[j]? ≠ some x from fun j hj => by
     rcases Nat.lt_or_ge j k with q | q
     ·exact HI.out j q
     ·obtain rfl : j = k := by omega
      rw [hy]; exact fun e => hxy (Option.some.inj e))
    clear hy hxy
    go_wp2
    go_round
    case rel => exact ⟨k + 1, by omega, by go_num, HI2⟩
    case measure => simp [intOf]; omega
  ·obtain rfl : k = l.length := by omega
   have R := Lib.hid (show hasB l x = false from decide_eq_false (idx_none HI.out))
   go_wp2
   go_ret
   exact ⟨by rw [R.out]; rfl, rfl⟩
end
end Go.Proofs.YthdfplafihmejaaGreat
