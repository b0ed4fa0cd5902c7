/-
  Package reach: walkAll where it is asked wrongly; All.
-/
import Derived.Test.YthdfplafihmejaaGreatRAll
namespace Go.Proofs.YthdfplafihmejaaGreat
open Go.RowKit Go.Maps
attribute [local go_sem] Oper.semAt_some

/-- What is wrong with what walkAll is asked; 0: nothing. -/
def askErr (may : Bool) (b : Int) (n : Nat) : Int := if may then (if b < 1 ∨ 5000 < b then 1 else if 400 < n then 3 else 0) else 2
def BadRes (w : World) (k : Int) (e : Ending) (w' : World) : Prop := e = .returned (.tuple #[.pointer none, .int .i64 k]) ∧ Chg (fun _ => False) w w'
set_option maxHeartbeats 1600000 in
set_option maxRecDepth 100000 in
theorem walkAll_bad (w : World) (la : Option Addr) (n cap : Nat) (s : ByteArray) (b : Int) (hs : s.size ≤ maxLen) (hn : n ≤ maxLen) (h : askErr (mayB s.data.toList) b n ≠ 0) :
  Calls Tryz.prog 138 #[.slice la n cap, .string s, .int .i64 b] w (BadRes w (askErr (mayB s.data.toList) b n)) := by
 have MAY := Lib.hid (fun w => wmay_any w s hs)
 generalize hk : askErr (mayB s.data.toList) b n = k at *
 have HK := Lib.hid hk
 have H := Lib.hid h
 clear h hk
 unfold maxLen at hn
 refine (callsIn_wide (n := 5)).1 (callsIn_of_wp_marks Tryz.func138 rfl trivial (wpIn_wide.2 ?_) rfl)
 simp only [Tryz.ntmps138, List.size_toArray, List.length_cons, List.length_nil, Nat.reduceAdd, Nat.reduceSub, Array.replicate_succ, Array.replicate_zero, List.push_toArray, List.append_toArray, List.nil_append, List.cons_append]
 go_wp2_with fail
 (with_reducible refine (MAY.out _).mono ?_)
 rintro e w1 ⟨rfl, k1⟩
 have o5 := k1.obj (fun e => e) (obj_alloc (.cells #[.int .i64 0] 32) (obj_alloc (.cells #[.pointer none] 206) (obj_alloc_new w (.cells #[.int .i64 b] 3))))
 have d5 : w1.cell? ⟨w.heap.size, 0, none⟩ = some (.int .i64 b) := cell_of o5 rfl
 have K1 := Lib.hid ((((chg_alloc (fun _ => False) w (.cells #[.int .i64 b] 3)).alloc (.cells #[.pointer none] 206)).alloc (.cells #[.int .i64 0] 32)).trans k1)
 have K1b := Lib.hid (show w.heap.size + 3 ≤ w1.heap.size from by have := k1.size; simp at this; exact this)
 have o6 := k1.obj (fun e => e) (obj_alloc (.cells #[.int .i64 0] 32) (obj_alloc_new (w.alloc (.cells #[.int .i64 b] 3)) (.cells #[.pointer none] 206)))
 have o7 := k1.obj (fun e => e) (obj_alloc_new ((w.alloc (.cells #[.int .i64 b] 3)).alloc (.cells #[.pointer none] 206)) (.cells #[.int .i64 0] 32))
 rw [World.size_alloc] at o6
 rw [World.size_alloc, World.size_alloc] at o7
 have O6 := Lib.hid o6
 have O7 := Lib.hid o7
 have d6 : w1.cell? ⟨w.heap.size + 1, 0, none⟩ = some (.pointer none) := cell_of o6 rfl
 have d7 : w1.cell? ⟨w.heap.size + 1 + 1, 0, none⟩ = some (.int .i64 0) := cell_of o7 rfl
 have f6 : w1.frozen? ⟨w.heap.size + 1, 0, none⟩ = false := by simp [World.frozen?, o6]
 have f7 : w1.frozen? ⟨w.heap.size + 1 + 1, 0, none⟩ = false := by simp [World.frozen?, o7]
 have FIN := Lib.hid (show ∀ k : Int, ∀ W, W = ((w1.setCell ⟨w.heap.size + 1, 0, none⟩ (.pointer none)).setCell ⟨w.heap.size + 1 + 1, 0, none⟩ (.int .i64 k)) → W.cell? ⟨w.heap.size + 1, 0, none⟩ = some (.pointer none) ∧ W.cell? ⟨w.heap.size + 1 + 1, 0, none⟩ = some (.int .i64 k) ∧ Chg (fun _ => False) w W from fun k W hW => by
  subst hW
  refine ⟨cell_of ((obj_setCell_ne 0 _ (show w.heap.size + 1 ≠ w.heap.size + 1 + 1 by omega)).trans (obj_setCell O6.out (.pointer none))) rfl, cell_of (obj_setCell ((obj_setCell_ne 0 _ (show w.heap.size + 1 + 1 ≠ w.heap.size + 1 by omega)).trans O7.out) (.int .i64 k)) rfl, ?_⟩
  exact (K1.out.setCell (p := ⟨w.heap.size + 1, 0, none⟩) (fun h => absurd h (by show ¬ (w.heap.size + 1 < w.heap.size); omega)) _).setCell (p := ⟨w.heap.size + 1 + 1, 0, none⟩) (fun h => absurd h (by show ¬ (w.heap.size + 1 + 1 < w.heap.size); omega)) _)
 clear o6 o7 k1 o5
 have FIN2 := Lib.hid (show ∀ (k : Int) (tmps : Array Value) (W : World), tmps[6]? = some (.pointer (some ⟨w.heap.size + 1, 0, none⟩)) → tmps[7]? = some (.pointer (some ⟨w.heap.size + 1 + 1, 0, none⟩)) → W = ((w1.setCell ⟨w.heap.size + 1, 0, none⟩ (.pointer none)).setCell ⟨w.heap.size + 1 + 1, 0, none⟩ (.int .i64 k)) → LeavesInM Fence.wide 5 Tryz.prog Tryz.f138 tmps (BadRes w k) [] .returning W from fun k tmps W t6 t7 hW => by
  obtain ⟨u6, u7, kk⟩ := FIN.out k _ hW
  refine ⟨.tuple #[.pointer none, .int .i64 k], ?_, rfl, kk⟩
  rw [results_cell2 rfl]
  go_simp)
 cases hm : mayB s.data.toList with
 | false =>
  rw [hm] at MAY HK
  obtain rfl : k = 2 := HK.out.symm
  go_wp2
  refine show LeavesInM _ _ _ _ _ _ _ .returning _ from ?_
  refine FIN2.out 2 _ _ ?_ ?_ rfl
  all_goals rfl
 | true =>
  rw [hm] at MAY HK
  by_cases h1 : b < 1
  ·have g1 : decide (b < 1) = true := by rw [decide_eq_true_iff]; exact h1
   obtain rfl : k = 1 := by rw [← HK.out]; simp [askErr, h1]
   clear h1
   go_wp2
   refine show LeavesInM _ _ _ _ _ _ _ .returning _ from ?_
   refine FIN2.out 1 _ _ ?_ ?_ rfl
   all_goals rfl
  ·by_cases h2 : 5000 < b
   ·have g1 : decide (b < 1) = false := by rw [decide_eq_false_iff_not]; exact h1
    have g2 : decide (5000 < b) = true := by rw [decide_eq_true_iff]; exact h2
    obtain rfl : k = 1 := by rw [← HK.out]; simp [askErr, h2]
    clear h1 h2
    go_wp2
    refine show LeavesInM _ _ _ _ _ _ _ .returning _ from ?_
    refine FIN2.out 1 _ _ ?_ ?_ rfl
    all_goals rfl
   ·have g1 : decide (b < 1) = false := by rw [decide_eq_false_iff_not]; exact h1
    have g2 : decide (5000 < b) = false := by rw [decide_eq_false_iff_not]; exact h2
    have h3 : 400 < n := by
     by_cases h3 : 400 < n
     ·exact h3
     ·exact absurd (by rw [← HK.out]; simp [askErr, h1, h2, h3]) H.out
    have g3 : decide (400 < n) = true := by rw [decide_eq_true_iff]; exact h3
    have g4 : decide ((400 : Int) < (n : Int)) = true := by rw [decide_eq_true_iff]; omega
    obtain rfl : k = 3 := by rw [← HK.out]; simp [askErr, h1, h2, h3]
    clear h1 h2
    go_wp2
    refine show LeavesInM _ _ _ _ _ _ _ .returning _ from ?_
    refine FIN2.out 3 _ _ ?_ ?_ rfl
    all_goals rfl
end Go.Proofs.YthdfplafihmejaaGreat

namespace Go.Proofs.YthdfplafihmejaaGreat
open Go.RowKit Go.Maps

/-- Rules and a word that are asked of. -/
structure Asks (w : World) (v : Value) (R : List BRul) (s : ByteArray) : Prop where
 rules : RulesAt w v (· < w.heap.size) R
 few : (R.length ≤ 400 ∧ ∀ r ∈ R, r.1.size ≤ 400) ∨ 400 < R.length
 word : s.size ≤ maxLen
theorem Asks.chg {w w1 : World} {v : Value} {R : List BRul} {s : ByteArray} (h : Asks w v R s) (k : Chg (fun _ => False) w w1) : Asks w1 v R s := ⟨rules_up h.rules k, h.few, h.word⟩
def rowB (R : List BRul) (s : ByteArray) (b : Int) : Option (List Ent) := rowOf (R.map brul) s.data.toList b.toNat
/-- What reach answers with; 0: there is a row. -/
def rowErr (R : List BRul) (s : ByteArray) (b : Int) : Int := if askErr (mayB s.data.toList) b R.length = 0 then (if rowB R s b = none then 12 else 0) else askErr (mayB s.data.toList) b R.length
theorem askErr_zero {m : Bool} {b : Int} {n : Nat} (h : askErr m b n = 0) : m = true ∧ 1 ≤ b ∧ b ≤ 5000 ∧ n ≤ 400 := by
 unfold askErr at h
 cases m with
 | false => simp at h
 | true =>
  by_cases h1 : b < 1 ∨ 5000 < b
  ·simp [h1] at h
  ·by_cases h2 : 400 < n
   ·simp [h1, h2] at h
   ·exact ⟨rfl, by omega, by omega, by omega⟩
theorem rowErr_zero {R : List BRul} {s : ByteArray} {b : Int} (h : rowErr R s b = 0) : askErr (mayB s.data.toList) b R.length = 0 ∧ ∃ r, rowB R s b = some r := by
 unfold rowErr at h
 by_cases h1 : askErr (mayB s.data.toList) b R.length = 0
 ·rw [if_pos h1] at h
  cases h2 : rowB R s b with
  | none => rw [h2] at h; simp at h
  | some r => exact ⟨h1, r, rfl⟩
 ·rw [if_neg h1] at h
  exact absurd h h1
section
variable {w : World} {v : Value} {R : List BRul} {s : ByteArray} {b : Int}
theorem walkAll_err (hA : Asks w v R s) {k : Int} (h : rowErr R s b = k) (hk : k ≠ 0) : Calls Tryz.prog 138 #[v, .string s, .int .i64 b] w (BadRes w k) := by
 unfold rowErr at h
 by_cases h1 : askErr (mayB s.data.toList) b R.length = 0
 ·rw [if_pos h1] at h
  have h2 : rowB R s b = none := by
   cases h2 : rowB R s b with
   | none => rfl
   | some r => rw [h2] at h; simp at h; exact absurd h.symm hk
  rw [if_pos h2] at h
  subst h
  obtain ⟨m1, m2, m3, m4⟩ := askErr_zero h1
  obtain ⟨f1, f2⟩ := hA.few.resolve_right (by omega)
  obtain ⟨n, rfl⟩ : ∃ n : Nat, b = n := ⟨b.toNat, by omega⟩
  refine (walkAll_row w v R s n hA.rules f1 f2 m1 (by omega) (by omega)).mono fun e w' h => ?_
  unfold rowB at h2
  rw [Int.toNat_natCast] at h2
  rw [h2] at h
  exact ⟨h.2.2 rfl, h.1⟩
 ·rw [if_neg h1] at h
  obtain ⟨la, cap, rfl, q1, q2⟩ := hA.rules
  rw [← h]
  exact walkAll_bad w la R.length cap s b hA.word q1 h1
def GoodRes (w : World) (r : List Ent) (e : Ending) (w' : World) : Prop := ∃ X, e = .returned (.tuple #[.pointer (some ⟨X.b, 0, none⟩), .int .i64 0]) ∧ RowR w' w.heap.size X r ∧ Chg (fun _ => False) w w'
theorem walkAll_ok (hA : Asks w v R s) (h : rowErr R s b = 0) {r : List Ent} (hr : rowB R s b = some r) : Calls Tryz.prog 138 #[v, .string s, .int .i64 b] w (GoodRes w r) := by
 obtain ⟨h1, _⟩ := rowErr_zero h
 obtain ⟨m1, m2, m3, m4⟩ := askErr_zero h1
 obtain ⟨f1, f2⟩ := hA.few.resolve_right (by omega)
 obtain ⟨n, rfl⟩ : ∃ n : Nat, b = n := ⟨b.toNat, by omega⟩
 refine (walkAll_row w v R s n hA.rules f1 f2 m1 (by omega) (by omega)).mono fun e w' h => ?_
 unfold rowB at hr
 rw [Int.toNat_natCast] at hr
 rw [hr] at h
 obtain ⟨X, q1, q2⟩ := h.2.1 r rfl
 exact ⟨X, q1, q2, h.1⟩
set_option maxRecDepth 100000 in
theorem all_err (hA : Asks w v R s) {k : Int} (h : rowErr R s b = k) (hk : k ≠ 0) : Calls Tryz.prog 121 #[v, .string s, .int .i64 b] w fun e w' => e = .returned (.tuple #[.slice none 0 0, .int .i64 k]) ∧ Chg (fun _ => False) w w' := by
 have W := Lib.hid (walkAll_err hA h hk)
 have g : (k != 0) = true := by rw [bne_iff_ne]; exact hk
 obtain ⟨la, cap, rfl, _, _⟩ := hA.rules
 clear hA h hk
 go_enter Tryz.func121, Tryz.ntmps121
 go_wp2_with fail
 (with_reducible refine (W.out).mono ?_)
 rintro e w' ⟨rfl, kc⟩
 go_wp2
 go_ret2
 exact ⟨rfl, kc⟩
set_option maxRecDepth 100000 in
theorem all_ok (hA : Asks w v R s) (h : rowErr R s b = 0) {r : List Ent} (hr : rowB R s b = some r) : Calls Tryz.prog 121 #[v, .string s, .int .i64 b] w fun e w' => ∃ va, e = .returned (.tuple #[va, .int .i64 0]) ∧ w'.ownsRow w.heap.size 57 1 va r.length (rwCells r) ∧ Chg (fun _ => False) w w' := by
 have W := Lib.hid (walkAll_ok hA h hr)
 obtain ⟨la, cap, rfl, _, _⟩ := hA.rules
 clear hA h hr
 go_enter Tryz.func121, Tryz.ntmps121
 go_wp2_with fail
 (with_reducible refine (W.out).mono ?_)
 rintro e w' ⟨X, rfl, hX, kc⟩
 have c0 : w'.cell? ⟨X.b, 0, none⟩ = some X.wv := cell_of hX.hb rfl
 obtain ⟨aw, cw, ew⟩ := own_shape hX.hw
 rw [ew] at c0
 have HX := Lib.hid hX
 have EW := Lib.hid ew
 clear hX ew
 go_wp2
 go_ret2
 exact ⟨_, rfl, by rw [← EW.out]; exact HX.out.hw, kc⟩
end
end Go.Proofs.YthdfplafihmejaaGreat

namespace Go.Proofs.YthdfplafihmejaaGreat
open Go.RowKit Go.Maps
theorem Tryz.elemStep : ElemInfo Tryz.prog 153 2 16 := elemInfo_of (z := .agg #[.int .i64 0, .int .i64 0]) (by kernel_rfl) rfl (by decide)
/-- Steps, to be read. -/
def StepsAt (w : World) (v : Value) (G : Nat → Prop) (L : List (Int × Int)) : Prop :=
 ∃ la cap, v = .slice la L.length cap ∧ L.length ≤ maxLen ∧ ∀ (j : Nat) x, L[j]? = some x → ∃ lb lo, la = some ⟨lb, lo, none⟩ ∧ G lb ∧ w.cell? ⟨lb, lo + j * 2, none⟩ = some (.int .i64 x.1) ∧ w.cell? ⟨lb, lo + j * 2 + 1, none⟩ = some (.int .i64 x.2)
theorem StepsAt.chg {S : Nat → Prop} {w w' : World} {v : Value} {G : Nat → Prop} {L : List (Int × Int)} (h : StepsAt w v G L) (hc : Chg S w w') (hs : ∀ k, G k → ¬ S k) : StepsAt w' v G L := by
 obtain ⟨la, cap, h1, h2, h3⟩ := h
 exact ⟨la, cap, h1, h2, fun j r hj => by obtain ⟨lb, lo, q1, q2, q3, q4⟩ := h3 j r hj; exact ⟨lb, lo, q1, q2, cell_chg hc (hs lb q2) q3, cell_chg hc (hs lb q2) q4⟩⟩
theorem rule_at {R : List BRul} {k : Nat} {r : BRul} (h : R[k]? = some r) : ruleAt (R.map brul) k = brul r := by
 unfold ruleAt
 rw [List.getD_eq_getElem?_getD, List.getElem?_map, h]; rfl
theorem useAt_eq {R : List BRul} {k : Nat} {r : BRul} (h : R[k]? = some r) (u : Wd) (a : Nat) : useAt (R.map brul) u (a, k) = swapAt u a (alen r.1.data.toList) r.2.data.toList := by
 unfold useAt
 rw [rule_at h]; rfl
end Go.Proofs.YthdfplafihmejaaGreat
