/-
  The reference's All, Leads, Path.
  Layer 11: words, steps, large.
-/
import Derived.Test.YtblannomcfiffaaRFind
namespace Go.Proofs.Ytblannomcfiffaa
open Go.RowKit Go.Maps

section
variable {w : World} {v : Value} {R : List BRul} {s : ByteArray} {b : Int}
theorem rfind_err (hA : Asks w v R s) (h47 : Fit47 R) (hs : s.size ≤ 140737488355328) {k : Int} (h : rowErr R s b = k) (hk : k ≠ 0) : Calls Try.prog 26 #[v, .string s, .int .i64 b] w (FindBad w k) := by
  unfold rowErr at h
  by_cases h1 : askErr (mayB s.data.toList) b R.length = 0
  · rw [if_pos h1] at h
    have h2 : rowB R s b = none := by
      cases h2 : rowB R s b with
      | none => rfl
      | some r => rw [h2] at h; simp at h; exact absurd h.symm hk
    rw [if_pos h2] at h
    subst h
    obtain ⟨m1, m2, m3, m4⟩ := askErr_zero h1
    obtain ⟨n, rfl⟩ : ∃ n : Nat, b = n := ⟨b.toNat, by omega⟩
    refine (rfind_row w v R s n hA.rules h47 m4 m1 (by omega) (by omega)).mono fun e w' h => ?_
    unfold rowB at h2
    rw [Int.toNat_natCast] at h2
    exact h.2 h2
  · rw [if_neg h1] at h
    obtain ⟨la, cap, rfl, q1, q2⟩ := hA.rules
    rw [← h]
    exact rfind_bad w la R.length cap s b hs q1 h1
theorem rfind_ok (hA : Asks w v R s) (h47 : Fit47 R) (h : rowErr R s b = 0) {r : List Ent} (hr : rowB R s b = some r) : Calls Try.prog 26 #[v, .string s, .int .i64 b] w (FindGood w r) := by
  obtain ⟨h1, _⟩ := rowErr_zero h
  obtain ⟨m1, m2, m3, m4⟩ := askErr_zero h1
  obtain ⟨n, rfl⟩ : ∃ n : Nat, b = n := ⟨b.toNat, by omega⟩
  refine (rfind_row w v R s n hA.rules h47 m4 m1 (by omega) (by omega)).mono fun e w' h => ?_
  unfold rowB at hr
  rw [Int.toNat_natCast] at hr
  exact h.1 r hr
set_option maxRecDepth 100000 in
theorem rall_err (hA : Asks w v R s) (h47 : Fit47 R) (hs : s.size ≤ 140737488355328) {k : Int} (h : rowErr R s b = k) (hk : k ≠ 0) : Calls Try.prog 12 #[v, .string s, .int .i64 b] w fun e w' => e = .returned (.tuple #[.slice none 0 0, .int .i64 k]) ∧ Chg (fun _ => False) w w' := by
  have W := Lib.hid (rfind_err hA h47 hs h hk)
  have g : (k != 0) = true := by rw [bne_iff_ne]; exact hk
  obtain ⟨la, cap, rfl, _, _⟩ := hA.rules
  clear hA h hk
  go_enter Try.func12, Try.ntmps12
  go_wp2_with fail
  (with_reducible refine (W.out).mono ?_)
  rintro e w' ⟨rfl, kc⟩
  go_wp2
  go_ret2
  exact ⟨rfl, kc⟩
set_option maxRecDepth 100000 in
theorem rall_ok (hA : Asks w v R s) (h47 : Fit47 R) (h : rowErr R s b = 0) {r : List Ent} (hr : rowB R s b = some r) : Calls Try.prog 12 #[v, .string s, .int .i64 b] w fun e w' => ∃ va, e = .returned (.tuple #[va, .int .i64 0]) ∧ w'.ownsRow w.heap.size 23 1 va r.length (rwCells r) ∧ Chg (fun _ => False) w w' := by
  have W := Lib.hid (rfind_ok hA h47 h hr)
  obtain ⟨la, cap, rfl, _, _⟩ := hA.rules
  clear hA h hr
  go_enter Try.func12, Try.ntmps12
  go_wp2_with fail
  (with_reducible refine (W.out).mono ?_)
  rintro e w' ⟨bb, rfl, ⟨lv, fv, bv, hX⟩, kc⟩
  obtain ⟨aw, cw, rfl⟩ := own_shape hX.hl
  have c0 : w'.cell? ⟨bb, 0, none⟩ = some (.slice aw r.length cw) := cell_of hX.hb rfl
  have HX := Lib.hid hX
  clear hX
  go_wp2
  go_ret2
  exact ⟨_, rfl, HX.out.hl, kc⟩
set_option maxRecDepth 100000 in
theorem rleads_err (hA : Asks w v R s) (h47 : Fit47 R) (hs : s.size ≤ 140737488355328) (t : ByteArray) {k : Int} (h : rowErr R s b = k) (hk : k ≠ 0) : Calls Try.prog 15 #[v, .string s, .string t, .int .i64 b] w fun e w' => e = .returned (.tuple #[.bool false, .int .i64 k]) ∧ Chg (fun _ => False) w w' := by
  have W := Lib.hid (rfind_err hA h47 hs h hk)
  have g : (k != 0) = true := by rw [bne_iff_ne]; exact hk
  obtain ⟨la, cap, rfl, _, _⟩ := hA.rules
  clear hA h hk
  go_enter Try.func15, Try.ntmps15
  go_wp2_with fail
  (with_reducible refine (W.out).mono ?_)
  rintro e w' ⟨rfl, kc⟩
  go_wp2
  go_ret2
  exact ⟨rfl, kc⟩
theorem placeI_nonneg (r : List Ent) (u : Wd) : decide (0 ≤ placeI r u) = decide (u ∈ wordsR r) := by
  unfold placeI
  by_cases h : u ∈ wordsR r
  · rw [if_pos h, decide_eq_true h, decide_eq_true_eq]; omega
  · rw [if_neg h, decide_eq_false h]; rfl
set_option maxRecDepth 100000 in
theorem rleads_ok (hA : Asks w v R s) (h47 : Fit47 R) (t : ByteArray) (h : rowErr R s b = 0) {r : List Ent} (hr : rowB R s b = some r) : Calls Try.prog 15 #[v, .string s, .string t, .int .i64 b] w fun e w' => e = .returned (.tuple #[.bool (decide (t.data.toList ∈ wordsR r)), .int .i64 0]) ∧ Chg (fun _ => False) w w' := by
  have W := Lib.hid (rfind_ok hA h47 h hr)
  obtain ⟨h1, _⟩ := rowErr_zero h
  obtain ⟨m1, m2, m3, m4⟩ := askErr_zero h1
  obtain ⟨s1, s2, s3⟩ := row_some (by omega) hr
  obtain ⟨la, cap, rfl, _, _⟩ := hA.rules
  have hrl : r.length ≤ 5000 := by omega
  have PN := Lib.hid (placeI_nonneg r t.data.toList)
  have PB : -9223372036854775808 ≤ placeI r t.data.toList ∧ placeI r t.data.toList ≤ 9223372036854775807 := by
    unfold placeI
    split
    · have : (wordsR r).idxOf t.data.toList ≤ (wordsR r).length := List.idxOf_le_length
      rw [wordsR_length] at this
      omega
    · omega
  have PLA := Lib.hid (fun w' base bb lv fv bv (hX : FRow w' base bb lv fv bv r r r) => rplace_any w' base bb lv fv bv r r r t hX (by omega))
  clear hA h hr h1 m1 m2 m3 m4 s1 s2 s3
  generalize placeI r t.data.toList = pi at *
  generalize decide (t.data.toList ∈ wordsR r) = db at *
  obtain ⟨pb1, pb2⟩ := PB
  go_enter Try.func15, Try.ntmps15
  go_wp2_with fail
  (with_reducible refine (W.out).mono ?_)
  rintro e w' ⟨bb, rfl, ⟨lv, fv, bv, hX⟩, kc⟩
  have PL := Lib.hid (PLA.out _ _ _ _ _ _ hX)
  clear hX PLA
  go_wp2_with fail
  (with_reducible refine (PL.out).mono ?_)
  rintro e w2 ⟨rfl, rfl⟩
  go_wp2
  go_ret2
  exact ⟨by rw [← PN.out]; rfl, kc⟩
set_option maxRecDepth 100000 in
theorem rpath_err (hA : Asks w v R s) (h47 : Fit47 R) (hs : s.size ≤ 140737488355328) (t : ByteArray) {k : Int} (h : rowErr R s b = k) (hk : k ≠ 0) : Calls Try.prog 17 #[v, .string s, .string t, .int .i64 b] w fun e w' => e = .returned (.tuple #[.slice none 0 0, .int .i64 k]) ∧ Chg (fun _ => False) w w' := by
  have W := Lib.hid (rfind_err hA h47 hs h hk)
  have g : (k != 0) = true := by rw [bne_iff_ne]; exact hk
  obtain ⟨la, cap, rfl, _, _⟩ := hA.rules
  clear hA h hk
  go_enter Try.func17, Try.ntmps17
  go_wp2_with fail
  (with_reducible refine (W.out).mono ?_)
  rintro e w' ⟨rfl, kc⟩
  go_wp2
  go_ret2
  exact ⟨rfl, kc⟩
set_option maxRecDepth 100000 in
theorem rpath_none (hA : Asks w v R s) (h47 : Fit47 R) (t : ByteArray) (h : rowErr R s b = 0) {r : List Ent} (hr : rowB R s b = some r) (hin : t.data.toList ∉ wordsR r) : Calls Try.prog 17 #[v, .string s, .string t, .int .i64 b] w fun e w' => e = .returned (.tuple #[.slice none 0 0, .int .i64 10]) ∧ Chg (fun _ => False) w w' := by
  have W := Lib.hid (rfind_ok hA h47 h hr)
  obtain ⟨h1, _⟩ := rowErr_zero h
  obtain ⟨m1, m2, m3, m4⟩ := askErr_zero h1
  obtain ⟨s1, s2, s3⟩ := row_some (by omega) hr
  obtain ⟨la, cap, rfl, _, _⟩ := hA.rules
  have PLA := Lib.hid (fun w' base bb lv fv bv (hX : FRow w' base bb lv fv bv r r r) => rplace_any w' base bb lv fv bv r r r t hX (by omega))
  rw [show placeI r t.data.toList = -1 from if_neg hin] at PLA
  clear hA h hr h1 m1 m2 m3 m4 s1 s2 s3 hin
  go_enter Try.func17, Try.ntmps17
  go_wp2_with fail
  (with_reducible refine (W.out).mono ?_)
  rintro e w' ⟨bb, rfl, ⟨lv, fv, bv, hX⟩, kc⟩
  have PL := Lib.hid (PLA.out _ _ _ _ _ _ hX)
  clear hX PLA
  go_wp2_with fail
  (with_reducible refine (PL.out).mono ?_)
  rintro e w2 ⟨rfl, rfl⟩
  go_wp2
  go_ret2
  exact ⟨rfl, kc⟩
theorem frow_from {w : World} {base b : Nat} {lv bv : Value} {a : Option Addr} {n c : Nat} {r r1 r3 : List Ent} (h : FRow w base b lv (.slice a n c) bv r1 r r3) {i : Nat} (hi : i < r.length) : ∃ g, a = some ⟨g, 0, none⟩ ∧ w.cell? ⟨g, i, none⟩ = some (.int .i64 (entAt r i).2.1) := by
  have ho := h.hf
  obtain ⟨a', c', e⟩ := own_shape ho
  cases e
  obtain ⟨g, rfl⟩ := own_some ho (by omega)
  refine ⟨g, rfl, ?_⟩
  rw [ho.cellAt i (by omega)]
  unfold rfCells entAt
  rw [List.getElem?_map, List.getD_eq_getElem?_getD, List.getElem?_eq_getElem hi]; rfl
theorem frow_step {w : World} {base b : Nat} {lv fv : Value} {a : Option Addr} {n c : Nat} {r r1 r2 : List Ent} (h : FRow w base b lv fv (.slice a n c) r1 r2 r) {i : Nat} (hi : i < r.length) : ∃ g, a = some ⟨g, 0, none⟩ ∧ w.cell? ⟨g, i * 2, none⟩ = some (.int .i64 ((entAt r i).2.2.1 : Int)) ∧ w.cell? ⟨g, i * 2 + 1, none⟩ = some (.int .i64 ((entAt r i).2.2.2 : Int)) := by
  have ho := h.hs
  obtain ⟨a', c', e⟩ := own_shape ho
  cases e
  obtain ⟨g, rfl⟩ := own_some ho (by omega)
  have hq := hcells_get (r.map fun e => e.2.2) i (entAt r i).2.2 (by unfold entAt; rw [List.getElem?_map, List.getD_eq_getElem?_getD, List.getElem?_eq_getElem hi]; rfl)
  refine ⟨g, rfl, ?_, ?_⟩
  · rw [ho.cellAt _ (by omega), Nat.mul_comm]; exact hq.1
  · rw [ho.cellAt _ (by omega), Nat.mul_comm]; exact hq.2
set_option maxHeartbeats 1000000 in
set_option maxRecDepth 100000 in
theorem rpath_ok (hA : Asks w v R s) (h47 : Fit47 R) (t : ByteArray) (h : rowErr R s b = 0) {r : List Ent} (hr : rowB R s b = some r) (hin : t.data.toList ∈ wordsR r) :
    Calls Try.prog 17 #[v, .string s, .string t, .int .i64 b] w fun e w' => ∃ va, e = .returned (.tuple #[va, .int .i64 0]) ∧ w'.ownsRow w.heap.size 53 2 va (pathOf r ((wordsR r).idxOf t.data.toList)).length (hcells (pathOf r ((wordsR r).idxOf t.data.toList))) ∧ Chg (fun _ => False) w w' := by
  have W := Lib.hid (rfind_ok hA h47 h hr)
  obtain ⟨h1, _⟩ := rowErr_zero h
  obtain ⟨m1, m2, m3, m4⟩ := askErr_zero h1
  obtain ⟨s1, s2, s3⟩ := row_some (by omega) hr
  obtain ⟨la, cap, rfl, _, _⟩ := hA.rules
  have FR := Lib.hid (row_from hr)
  have PLA := Lib.hid (fun w' base bb lv fv bv (hX : FRow w' base bb lv fv bv r r r) => rplace_any w' base bb lv fv bv r r r t hX (by omega))
  rw [show placeI r t.data.toList = (((wordsR r).idxOf t.data.toList : Nat) : Int) from if_pos hin] at PLA
  have hil : (wordsR r).idxOf t.data.toList < r.length := by rw [← wordsR_length]; exact List.idxOf_lt_length_of_mem hin
  generalize (wordsR r).idxOf t.data.toList = i0 at *
  have PW := Lib.hid ((path_walks FR.out i0 hil).2)
  have hrl : r.length ≤ 5000 := by omega
  clear hA h hr hin h1 m1 m2 m3 m4 s1 s2 s3
  go_enter Try.func17, Try.ntmps17
  go_wp2_with fail
  (with_reducible refine (W.out).mono ?_)
  rintro e w1 ⟨bb, rfl, ⟨lv, fv, bv, hX⟩, kc⟩
  have PL := Lib.hid (PLA.out _ _ _ _ _ _ hX)
  obtain ⟨fa, fc, rfl⟩ := own_shape hX.hf
  obtain ⟨sa, sc, rfl⟩ := own_shape hX.hs
  have HX := Lib.hid hX
  have KC := Lib.hid kc
  clear hX PLA kc W
  go_wp2_with fail
  (with_reducible refine (PL.out).mono ?_)
  rintro e w2 ⟨rfl, rfl⟩
  go_wp2
  go_loopw [12, 13] (fun iv lv wr => ∃ (k : Nat) (L : List (Nat × Nat)), k ≤ i0 ∧ iv = .int .i64 k ∧ Hid (pathOf r i0 = pathOf r k ++ L ∧ wr.ownsRow w1.heap.size 53 2 lv L.length (hcells L) ∧ Chg (fun _ => False) w1 wr)) (fun iv _ _ => (intOf iv).toNat)
  case atStart => exact ⟨i0, [], Nat.le_refl _, rfl, Lib.hid ⟨by simp, own_empty _ _ _ _ (Nat.le_refl _), chg_alloc _ _ _⟩⟩
  case round =>
    obtain ⟨k, L, hk, rfl, HI⟩ := hrel
    have ho := HI.out.2.1
    have hc := HI.out.2.2
    obtain ⟨a13, c13, e13⟩ := own_shape ho
    subst e13
    have HO := Lib.hid ho
    have hsz := hc.size
    have hLl : L.length ≤ 5000 := by
      have h1 := PW.out
      rw [HI.out.1, List.length_append] at h1
      omega
    have hXr := FRow.chg HX.out hc (fun _ _ e => e)
    have hfr := frow_from hXr (show k < r.length by omega)
    have hst := frow_step hXr (show k < r.length by omega)
    obtain ⟨gf, rfl, f0⟩ := hfr
    obtain ⟨gs, rfl, f1, f2⟩ := hst
    have c1 : wr.cell? ⟨bb, 1, none⟩ = some (.slice (some ⟨gf, 0, none⟩) r.length fc) := cell_of hXr.hb rfl
    have c2 : wr.cell? ⟨bb, 2, none⟩ = some (.slice (some ⟨gs, 0, none⟩) r.length sc) := cell_of hXr.hb rfl
    have HC := Lib.hid hc
    have hkr : k < r.length := by omega
    clear ho hXr hc
    by_cases hk0 : 0 < k
    · obtain ⟨j, hjk, hj1, hj2⟩ := FR.out.back k hk0 (by omega)
      have PS := Lib.hid (path_succ FR.out (by omega) hk0 hj1 hjk)
      rw [hj1] at f0
      generalize (entAt r k).2.2 = st at *
      obtain ⟨st1, st2⟩ := st
      simp only at f1 f2
      have GK := Lib.hid (show ∀ W, Chg (fun _ => False) wr W → W.cell? ⟨bb, 1, none⟩ = some (.slice (some ⟨gf, 0, none⟩) r.length fc) ∧ W.cell? ⟨gf, k, none⟩ = some (.int .i64 (j : Int)) from fun W h => ⟨cell_chg h (fun e => e) c1, cell_chg h (fun e => e) f0⟩)
      clear hj1 hj2
      go_wp2_with (at_builtin; refine wpList_pushS rfl (.tmp 45) (.tmp 46) 33 rfl 53 2 16 Try.underlying33 Try.elemStep wr.heap.size _ 1 [.int .i64 (st1 : Int), .int .i64 (st2 : Int)] rfl (World.ownsRow_lit wr #[.int .i64 (st1 : Int), .int .i64 (st2 : Int)] 1 (Nat.le_refl _) (by unfold maxLen; omega) rfl) a13 L.length c13 (hcells L) rfl ?n1 ?n2 ?n3 ?n4 ?n5 ?n6 ?n7 ?next2)
      case n1 => rw [hcells_length]; omega
      case n2 =>
        intro j u hj
        have hjl := (List.getElem?_eq_some_iff.1 hj).1
        rw [hcells_length] at hjl
        obtain ⟨g, rfl⟩ := own_some HO.out (by omega)
        refine ⟨g, 0, rfl, ?_⟩
        refine cell_chg (chg_alloc (fun _ => False) wr _) (fun e => e) ?_
        rw [Nat.zero_add, HO.out.cellAt j (by omega)]; exact hj
      case n3 =>
        intro e
        obtain ⟨_, ⟨q1, q2⟩ | ⟨g, cap, cur, q1, _⟩⟩ := HO.out
        · simp at q1; exact ⟨q2, q1.2.2⟩
        · rw [e] at q1; cases q1
      case n4 =>
        intro u hu
        unfold hcells at hu
        rw [List.mem_flatMap] at hu
        obtain ⟨x, _, hx⟩ := hu
        simp at hx
        rcases hx with rfl | rfl <;> rfl
      case n5 => omega
      case n6 => unfold maxLen; omega
      case n7 => simp
      intro v2 w2 o2 g2
      have k2 : Chg (fun _ => False) wr w2 := (chg_alloc (fun _ => False) wr (.cells #[.int .i64 (st1 : Int), .int .i64 (st2 : Int)] 53)).next (Chg.of_grown g2) (fun x hx e => by
        have e2 : wr.heap.size = x := by simpa [Value.ownBlock] using e
        omega)
      obtain ⟨d1, d0⟩ := GK.out _ k2
      have O2 := Lib.hid (show w2.ownsRow w1.heap.size 53 2 v2 ((st1, st2) :: L).length (hcells ((st1, st2) :: L)) from by
        have := ownsRow_down o2 hsz
        rw [List.length_cons, Nat.add_comm L.length 1]
        exact this)
      have K2 := Lib.hid (HC.out.trans k2)
      clear c1 c2 f0 f1 f2 g2 o2 k2
      go_wp2
      go_roundw
      case rel =>
        refine ⟨j, (st1, st2) :: L, by omega, rfl, Lib.hid ⟨?_, O2.out, K2.out⟩⟩
        rw [HI.out.1, PS.out]; simp
      case measure => simp [intOf]; omega
    · obtain rfl : k = 0 := by omega
      have PE := Lib.hid (show pathOf r i0 = L by rw [HI.out.1, path_zero]; rfl)
      rw [FR.out.first] at f0
      go_wp2
      go_ret2
      refine ⟨_, rfl, ?_, KC.out.trans HC.out⟩
      rw [PE.out]
      exact ownsRow_down HO.out KC.out.size
end
end Go.Proofs.Ytblannomcfiffaa

namespace Go.Proofs.Ytblannomcfiffaa
open Go.RowKit Go.Maps

theorem list_eq_of {α : Type} {a b : List α} (hl : a.length = b.length) (h : ∀ j, j < a.length → a[j]? = b[j]?) : a = b := by
  apply List.ext_getElem?
  intro j
  rcases Nat.lt_or_ge j a.length with q | q
  · exact h j q
  · rw [List.getElem?_eq_none q, List.getElem?_eq_none (by omega)]
set_option maxRecDepth 100000 in
theorem words_any (w : World) (va vb : Value) (a b : List ByteArray) (G G' : Nat → Prop) (ha : WordsAt w va G a) (hb : WordsAt w vb G' b) :
    Calls Try.prog 13 #[va, vb] w fun e w' => e = .returned (.bool (decide (a = b))) ∧ Chg (fun _ => False) w w' := by
  obtain ⟨la, ca, rfl, hl1, hl3⟩ := ha
  obtain ⟨lb, cb, rfl, hm1, hm3⟩ := hb
  have HL3 := Lib.hid hl3
  have HM3 := Lib.hid hm3
  unfold maxLen at hl1 hm1
  clear hl3 hm3
  by_cases hlen : a.length = b.length
  · have HLEN := Lib.hid hlen
    rw [← hlen] at hm1 ⊢
    clear hlen
    have hne : ((a.length : Int) != (a.length : Int)) = false := by simp
    go_enter Try.func13, Try.ntmps13
    go_wp2
    go_loopw [13] (fun iv wr => ∃ k : Nat, k ≤ a.length ∧ iv = .int .i64 k ∧ Hid (∀ j, j < k → a[j]? = b[j]?) ∧ Chg (fun _ => False) w wr) (fun iv _ => a.length - (intOf iv).toNat)
    case atStart => exact ⟨0, by omega, rfl, Lib.hid (fun j hj => by omega), Chg.refl _ _⟩
    case round =>
      obtain ⟨k, hk, rfl, HZ, hc⟩ := hrel
      by_cases hlt : k < a.length
      · obtain ⟨x, hx⟩ : ∃ x, a[k]? = some x := ⟨_, List.getElem?_eq_getElem hlt⟩
        obtain ⟨y, hy⟩ : ∃ y, b[k]? = some y := ⟨_, List.getElem?_eq_getElem (by rw [← HLEN.out]; exact hlt)⟩
        obtain ⟨ga, oa, rfl, _, a0, _⟩ := HL3.out k x hx
        obtain ⟨gb, ob, rfl, _, b0, _⟩ := HM3.out k y hy
        have c0 := cell_chg hc (fun e => e) a0
        have e0 := cell_chg hc (fun e => e) b0
        have HC := Lib.hid hc
        have HX := Lib.hid hx
        have HY := Lib.hid hy
        clear a0 b0 hc hx hy
        by_cases hxy : x = y
        · subst hxy
          have g1 : (x.toList != x.toList) = false := by simp
          have HZ2 := Lib.hid (show ∀ j, j < k + 1 → a[j]? = b[j]? from fun j hj => by
            rcases Nat.lt_or_ge j k with q | q
            · exact HZ.out j q
            · obtain rfl : j = k := by omega
              rw [HX.out, HY.out])
          go_wp2
          go_quiet (fail)
          rename_i nq
          have HC2 := Lib.hid (HC.out.drewN nq)
          go_wp2
          go_roundw
          case rel => exact ⟨k + 1, by omega, by go_num, HZ2, HC2.out⟩
          case measure => simp [intOf]; omega
        · have n0 : ¬ x.data.toList = y.data.toList := fun e => hxy (ba_ext e)
          have g1 : (x.toList != y.toList) = true := by rw [bytes_ne, decide_eq_false n0]; rfl
          have g2 : (x.toList == y.toList) = false := by rw [bytes_eq, decide_eq_false n0]
          have g3 : ¬ x.toList = y.toList := by rw [beq_eq_false_iff_ne] at g2; exact g2
          have RES := Lib.hid (show decide (a = b) = false by
            rw [decide_eq_false_iff_not]
            rintro rfl
            have h1 := HX.out
            rw [HY.out] at h1
            exact hxy (Option.some.inj h1).symm)
          clear hxy n0
          go_wp2
          go_quiet (fail)
          rename_i nq
          have HC2 := Lib.hid (HC.out.drewN nq)
          go_wp2
          go_ret
          exact ⟨by rw [RES.out]; rfl, HC2.out⟩
      · obtain rfl : k = a.length := by omega
        have RES := Lib.hid (show decide (a = b) = true by
          rw [decide_eq_true_eq]; exact list_eq_of HLEN.out HZ.out)
        go_wp2
        go_ret
        exact ⟨by rw [RES.out]; rfl, hc⟩
  · have RES := Lib.hid (show decide (a = b) = false by rw [decide_eq_false_iff_not]; rintro rfl; exact hlen rfl)
    have hne : ((a.length : Int) != (b.length : Int)) = true := by rw [bne_iff_ne]; omega
    have hne2 : ((a.length : Int) == (b.length : Int)) = false := by rw [beq_eq_false_iff_ne]; omega
    go_enter Try.func13, Try.ntmps13
    go_wp2
    go_ret
    exact ⟨by rw [RES.out]; rfl, Chg.refl _ _⟩
/-- 'steps', of lists that are the same. -/
theorem steps_same (w : World) (va vb : Value) (a : List (Int × Int)) (G G' : Nat → Prop) (ha : StepsAt w va G a) (hb : StepsAt w vb G' a) :
    Calls Try.prog 18 #[va, vb] w fun e w' => e = .returned (.bool true) ∧ Chg (fun _ => False) w w' := by
  obtain ⟨la, ca, rfl, hl1, hl3⟩ := ha
  obtain ⟨lb, cb, rfl, hm1, hm3⟩ := hb
  have HL3 := Lib.hid hl3
  have HM3 := Lib.hid hm3
  unfold maxLen at hl1 hm1
  clear hl3 hm3
  have hne : ((a.length : Int) != (a.length : Int)) = false := by simp
  go_enter Try.func18, Try.ntmps18
  go_wp2
  go_loopw [13] (fun iv wr => ∃ k : Nat, k ≤ a.length ∧ iv = .int .i64 k ∧ Chg (fun _ => False) w wr) (fun iv _ => a.length - (intOf iv).toNat)
  case atStart => exact ⟨0, by omega, rfl, Chg.refl _ _⟩
  case round =>
    obtain ⟨k, hk, rfl, hc⟩ := hrel
    by_cases hlt : k < a.length
    · obtain ⟨⟨x1, x2⟩, hx⟩ : ∃ x, a[k]? = some x := ⟨_, List.getElem?_eq_getElem hlt⟩
      obtain ⟨ga, oa, rfl, _, a0, a1⟩ := HL3.out k _ hx
      obtain ⟨gb, ob, rfl, _, b0, b1⟩ := HM3.out k _ hx
      have c0 := cell_chg hc (fun e => e) a0
      have c1 := cell_chg hc (fun e => e) a1
      have e0 := cell_chg hc (fun e => e) b0
      have e1 := cell_chg hc (fun e => e) b1
      have HC := Lib.hid hc
      simp only at c0 c1 e0 e1
      have g1 : (x1 == x1) = true := by simp
      have g2 : (x2 == x2) = true := by simp
      clear a0 b0 a1 b1 hc hx
      go_wp2
      go_quiet (fail)
      rename_i nq
      have HC2 := Lib.hid (HC.out.drewN nq)
      go_wp2
      go_roundw
      case rel => exact ⟨k + 1, by omega, by go_num, HC2.out⟩
      case measure => simp [intOf]; omega
    · obtain rfl : k = a.length := by omega
      go_wp2
      go_ret
      exact ⟨rfl, hc⟩
def rulesW (R : List BRul) : List ByteArray := R.flatMap fun r => [r.1, r.2]
def largeB (R : List BRul) (l : List ByteArray) : Bool := (decide (30 < R.length) && decide (R.length ≤ 400)) || (l ++ rulesW (R.take 401)).any (fun x => decide (100 < x.size))
theorem largeB_false {R : List BRul} {l : List ByteArray} (h : largeB R l = false) : ((R.length ≤ 30 ∧ ∀ r ∈ R, r.1.size ≤ 100 ∧ r.2.size ≤ 100) ∨ 400 < R.length) ∧ ∀ x ∈ l, x.size ≤ 100 := by
  unfold largeB at h
  rw [Bool.or_eq_false_iff, List.any_eq_false] at h
  obtain ⟨h1, h2⟩ := h
  have h3 : ∀ x ∈ l ++ rulesW (R.take 401), x.size ≤ 100 := fun x hx => by have := h2 x hx; simpa using this
  refine ⟨?_, fun x hx => h3 x (List.mem_append_left _ hx)⟩
  by_cases h4 : 400 < R.length
  · exact .inr h4
  · refine .inl ⟨?_, fun r hr => ?_⟩
    · by_cases h5 : 30 < R.length
      · simp [h5] at h1; omega
      · omega
    · have e : R.take 401 = R := List.take_of_length_le (by omega)
      rw [e] at h3
      refine ⟨h3 _ (List.mem_append_right _ ?_), h3 _ (List.mem_append_right _ ?_)⟩ <;>
        exact List.mem_flatMap.2 ⟨r, hr, by simp⟩
theorem rulesW_length (R : List BRul) : (rulesW R).length = 2 * R.length := by
  unfold rulesW
  induction R with
  | nil => rfl
  | cons a t ih => rw [List.flatMap_cons, List.length_append, ih]; simp; omega
set_option maxHeartbeats 1000000 in
set_option maxRecDepth 100000 in
theorem large_any (w : World) (v vl : Value) (R : List BRul) (l : List ByteArray) (base : Nat) (hv : RulesAt w v (· < base) R) (hl : w.ownsRow base 23 1 vl l.length (wcells l)) (hll : l.length ≤ 1000) (hb : base ≤ w.heap.size) (hls : ∀ x ∈ l, x.size ≤ maxLen) :
    Calls Try.prog 10 #[v, vl] w fun e w' => e = .returned (.bool (largeB R l)) ∧ Chg (fun x => base ≤ x) w w' := by
  have HV := Lib.hid hv
  obtain ⟨la, cap, rfl, hl0, hl1⟩ := hv
  have HR := Lib.hid (show ∀ x ∈ rulesW (R.take 401), x.size ≤ maxLen from fun x hx => by
    unfold rulesW at hx
    rw [List.mem_flatMap] at hx
    obtain ⟨r, hr, hx⟩ := hx
    obtain ⟨j, hj⟩ := List.mem_iff_getElem?.1 (List.mem_of_mem_take hr)
    obtain ⟨_, _, _, _, _, _, q1, q2⟩ := hl1 j r hj
    simp at hx
    rcases hx with rfl | rfl
    · exact q1
    · exact q2)
  obtain ⟨al, cl, rfl⟩ := own_shape hl
  have HL := Lib.hid hl
  have HLS := Lib.hid hls
  unfold maxLen at hl0
  clear hl hl1 hls
  by_cases h30 : 30 < R.length ∧ R.length ≤ 400
  · have g1 : decide (30 < R.length) = true := by rw [decide_eq_true_eq]; omega
    have g2 : decide (R.length ≤ 400) = true := by rw [decide_eq_true_eq]; omega
    have g1' : decide ((30 : Int) < (R.length : Int)) = true := by rw [decide_eq_true_eq]; omega
    have g2' : decide ((R.length : Int) ≤ 400) = true := by rw [decide_eq_true_eq]; omega
    have RES := Lib.hid (show largeB R l = true by unfold largeB; rw [g1, g2]; rfl)
    clear h30
    go_enter Try.func10, Try.ntmps10
    go_wp2
    go_ret
    exact ⟨by rw [RES.out]; rfl, Chg.refl _ _⟩
  · have RB := Lib.hid (show largeB R l = (l ++ rulesW (R.take 401)).any (fun x => decide (100 < x.size)) by
      unfold largeB
      have : (decide (30 < R.length) && decide (R.length ≤ 400)) = false := by
        rw [Bool.and_eq_false_iff, decide_eq_false_iff_not, decide_eq_false_iff_not]; omega
      rw [this, Bool.false_or])
    by_cases h31 : 30 < R.length
    · have g1' : decide ((30 : Int) < (R.length : Int)) = true := by rw [decide_eq_true_eq]; omega
      have g2' : decide ((R.length : Int) ≤ 400) = false := by rw [decide_eq_false_iff_not]; omega
      go_enter Try.func10, Try.ntmps10
      go_wp2
      go_loopw [1, 5] (fun lv iv wr => ∃ k : Nat, k ≤ R.length ∧ k ≤ 401 ∧ iv = .int .i64 k ∧ Hid (wr.ownsRow base 23 1 lv (l ++ rulesW (R.take k)).length (wcells (l ++ rulesW (R.take k))) ∧ Chg (fun x => base ≤ x) w wr)) (fun _ iv _ => 402 - (intOf iv).toNat)
      case atStart => exact ⟨0, by omega, by omega, rfl, Lib.hid ⟨by simpa [rulesW] using HL.out, Chg.refl _ _⟩⟩
      case round =>
        obtain ⟨k, hk, hk4, rfl, HI⟩ := hrel
        obtain ⟨a1, c1, e1⟩ := own_shape HI.out.1
        subst e1
        have HO := Lib.hid HI.out.1
        have hsz := HI.out.2.size
        have htl : (l ++ rulesW (R.take k)).length ≤ 2000 := by rw [List.length_append, rulesW_length, List.length_take]; omega
        by_cases hlt : k < R.length ∧ k ≤ 400
        · have g3 : decide (k < R.length) = true := by rw [decide_eq_true_eq]; omega
          have g4 : decide ((k : Int) ≤ 400) = true := by rw [decide_eq_true_eq]; omega
          obtain ⟨⟨ra, rb⟩, hr⟩ : ∃ r, R[k]? = some r := ⟨_, List.getElem?_eq_getElem hlt.1⟩
          have hvr := HV.out.chg HI.out.2 (fun x hx e => by omega)
          obtain ⟨la', cap', e2, _, hvl⟩ := hvr
          cases e2
          obtain ⟨ga, gc, rfl, hga, d0, d1, _, _⟩ := hvl k _ hr
          simp only at d0 d1
          have TK := Lib.hid (show l ++ rulesW (R.take (k + 1)) = (l ++ rulesW (R.take k)) ++ [ra, rb] by
            unfold rulesW
            rw [List.take_add_one, hr, List.flatMap_append, ← List.append_assoc]; rfl)
          have KR := Lib.hid HI.out.2
          have hbr : base ≤ wr.heap.size := by omega
          have hkl : k < R.length := hlt.1
          have hk400 : k ≤ 400 := hlt.2
          clear hvl hr hlt
          generalize l ++ rulesW (R.take k) = T at *
          go_wp2_with fail
          refine wp_region_plan (N := 50) [.rd [0, 1, 2, 3, 4, 5, 6, 7, 8, 9, 10], .ef 11, .ef 12, .rd [13]] (fun w' => w'.cell? ⟨ga, gc + k * 2, none⟩ = some (.string ra) ∧ w'.cell? ⟨ga, gc + k * 2 + 1, none⟩ = some (.string rb)) (by kernel_rfl) (by kernel_rfl) (by kernel_rfl) (by kernel_rfl) (Nat.le_of_ble_eq_true rfl) ⟨d0, d1⟩ ?_
          refine plan_rd (A := ?A1a) ?h1a ?h2a
          case h1a =>
            rintro w' ⟨q0, q1⟩ K hK
            simp only [opsAt, List.filterMap_cons, List.filterMap_nil, List.getElem?_toArray, List.getElem?_cons_succ, List.getElem?_cons_zero]
            repeat still_step
            refine wpStill_nil ?_
            exact hK
          have hgb : ga < base := hga
          have e0 : wr.drew.cell? ⟨ga, gc + k * 2, none⟩ = some (.string ra) := d0
          have e1 : wr.drew.cell? ⟨ga, gc + k * 2 + 1, none⟩ = some (.string rb) := d1
          have OD := Lib.hid (own_chg HO.out (chg_drew (fun _ => False) wr) (fun _ _ e => e))
          have KD := Lib.hid (KR.out.drew)
          have hbd : base ≤ wr.drew.heap.size := hbr
          clear d0 d1 HO KR HI
          generalize wr.drew = wd at *
          refine plan_ef rfl ?_
          go_wp2_with fail
          refine ⟨⟨cell_chg (chg_alloc (fun _ => False) wd _) (fun e => e) e0, cell_chg (chg_alloc (fun _ => False) wd _) (fun e => e) e1⟩, ?_⟩
          refine plan_ef rfl ?_
          refine wpList_pushN rfl (.tmp 25) (.tmp 36) 26 rfl 23 1 16 Try.underlying26 Try.elemWord base _ _ _ rfl (OD.out.alloc _) _ 2 [.string ra, .string rb] 23 (0, 0) rfl (obj_alloc_new _ _) rfl (by intro u hu; simp at hu; rcases hu with rfl | rfl <;> rfl) (by omega) (by unfold maxLen; omega) (by simp; omega) ?_
          intro v2 w2 o2 g2
          have kk := (chg_alloc (fun x => base ≤ x) wd (.cells #[.string ra, .string rb] 23)).grown g2 (fun x hx _ => (OD.out.lt x hx).1)
          have q0 := cell_chg kk (by omega) e0
          have q1 := cell_chg kk (by omega) e1
          have O2 := Lib.hid (show w2.ownsRow base 23 1 v2 (T ++ [ra, rb]).length (wcells (T ++ [ra, rb])) from by
            rw [List.length_append]; unfold wcells at o2 ⊢; rw [List.map_append]; exact o2)
          have K2 := Lib.hid (show Chg (fun x => base ≤ x) w w2 from (KD.out.alloc (.cells #[.string ra, .string rb] 23)).grown g2 (fun x hx _ => (OD.out.lt x hx).1))
          clear o2 g2 OD KD
          clear kk e0 e1
          go_wp2_with fail
          refine ⟨⟨q0, q1⟩, ?_⟩
          refine plan_rd (A := ?A2a) ?h3a ?h4a
          case h3a =>
            intro w' hS K hK
            clear hS
            simp only [opsAt, List.filterMap_cons, List.filterMap_nil, List.getElem?_toArray, List.getElem?_cons_succ, List.getElem?_cons_zero]
            repeat still_step
            refine wpStill_nil ?_
            exact hK
          refine plan_nil ?_
          go_wp2
          go_roundw
          case rel => exact ⟨k + 1, by omega, by omega, by go_num, Lib.hid ⟨by rw [TK.out]; exact O2.out, K2.out⟩⟩
          case measure => simp [intOf]; omega
        · have TE := Lib.hid (show l ++ rulesW (R.take 401) = l ++ rulesW (R.take k) by
            by_cases hq : k < R.length
            · obtain rfl : k = 401 := by omega
              rfl
            · rw [List.take_of_length_le (i := 401) (by omega), List.take_of_length_le (i := k) (by omega)])
          have GO : (decide (k < R.length) = false) ∨ (decide (k < R.length) = true ∧ decide ((k : Int) ≤ 400) = false) := by
            by_cases hq : k < R.length
            · exact .inr ⟨by rw [decide_eq_true_eq]; exact hq, by rw [decide_eq_false_iff_not]; omega⟩
            · exact .inl (by rw [decide_eq_false_iff_not]; exact hq)
          have HT := Lib.hid (show ∀ x ∈ l ++ rulesW (R.take 401), x.size ≤ maxLen from fun x hx => by
            rcases List.mem_append.1 hx with q | q
            · exact HLS.out x q
            · exact HR.out x q)
          rw [TE.out] at RB HT
          have KR := Lib.hid HI.out.2
          clear hlt TE HI HL HV HR HLS
          generalize l ++ rulesW (R.take k) = T at *
          have WT := Lib.hid (show ∀ (j : Nat) x, T[j]? = some x → ∃ g, a1 = some ⟨g, 0, none⟩ ∧ wr.cell? ⟨g, j, none⟩ = some (.string x) ∧ x.size ≤ maxLen from fun j x hj => by
            obtain ⟨a', c', e', _, hcl⟩ := own_get HO.out
            cases e'
            obtain ⟨g, q1, q2, q3⟩ := hcl j (.string x) (by unfold wcells; rw [List.getElem?_map, hj]; rfl)
            exact ⟨g, q1, q3, HT.out x (List.mem_of_getElem? hj)⟩)
          clear HO HT
          obtain ⟨w0, hw0⟩ : ∃ w0, w0 = wr := ⟨_, rfl⟩
          rcases GO with g3 | ⟨g3, g4⟩
          all_goals
            go_wp2
            go_loop [40] (fun iv => ∃ j : Nat, j ≤ T.length ∧ iv = .int .i64 j ∧ Hid (∀ i x, i < j → T[i]? = some x → x.size ≤ 100)) (fun iv => T.length - (intOf iv).toNat)
            case atStart => exact ⟨0, by omega, rfl, Lib.hid (fun i x hi => by omega)⟩
            case round =>
              obtain ⟨j, hj, rfl, HZ⟩ := hrel
              by_cases hjt : j < T.length
              · obtain ⟨x, hx⟩ : ∃ x, T[j]? = some x := ⟨_, List.getElem?_eq_getElem hjt⟩
                obtain ⟨gx, rfl, cx, hxs⟩ := WT.out j x hx
                unfold maxLen at hxs
                have HX := Lib.hid hx
                clear hx
                by_cases h4 : 100 < x.size
                · have R1 := Lib.hid (show largeB R l = true by rw [RB.out, List.any_eq_true]; exact ⟨x, List.mem_of_getElem? HX.out, by simpa using h4⟩)
                  have g6 : decide (100 < (x.size : Int)) = true := by rw [decide_eq_true_eq]; omega
                  go_wp2
                  go_ret
                  exact ⟨by rw [R1.out]; rfl, KR.out⟩
                · have g6 : decide (100 < (x.size : Int)) = false := by rw [decide_eq_false_iff_not]; omega
                  have HZ2 := Lib.hid (show ∀ i y, i < j + 1 → T[i]? = some y → y.size ≤ 100 from fun i y hi hy => by
                    rcases Nat.lt_or_ge i j with q | q
                    · exact HZ.out i y q hy
                    · obtain rfl : i = j := by omega
                      rw [HX.out] at hy; cases hy; omega)
                  go_wp2
                  go_round
                  case rel => exact ⟨j + 1, by omega, by go_num, HZ2⟩
                  case measure => simp [intOf]; omega
              · obtain rfl : j = T.length := by omega
                have R1 := Lib.hid (show largeB R l = false by
                  rw [RB.out, List.any_eq_false]
                  intro x hx
                  obtain ⟨i, hi⟩ := List.mem_iff_getElem?.1 hx
                  have := HZ.out i x (List.getElem?_eq_some_iff.1 hi).1 hi
                  simp; omega)
                go_wp2
                go_ret
                exact ⟨by rw [R1.out]; rfl, KR.out⟩
    · have g1' : decide ((30 : Int) < (R.length : Int)) = false := by rw [decide_eq_false_iff_not]; omega
      go_enter Try.func10, Try.ntmps10
      go_wp2
      go_loopw [1, 5] (fun lv iv wr => ∃ k : Nat, k ≤ R.length ∧ k ≤ 401 ∧ iv = .int .i64 k ∧ Hid (wr.ownsRow base 23 1 lv (l ++ rulesW (R.take k)).length (wcells (l ++ rulesW (R.take k))) ∧ Chg (fun x => base ≤ x) w wr)) (fun _ iv _ => 402 - (intOf iv).toNat)
      case atStart => exact ⟨0, by omega, by omega, rfl, Lib.hid ⟨by simpa [rulesW] using HL.out, Chg.refl _ _⟩⟩
      case round =>
        obtain ⟨k, hk, hk4, rfl, HI⟩ := hrel
        obtain ⟨a1, c1, e1⟩ := own_shape HI.out.1
        subst e1
        have HO := Lib.hid HI.out.1
        have hsz := HI.out.2.size
        have htl : (l ++ rulesW (R.take k)).length ≤ 2000 := by rw [List.length_append, rulesW_length, List.length_take]; omega
        by_cases hlt : k < R.length ∧ k ≤ 400
        · have g3 : decide (k < R.length) = true := by rw [decide_eq_true_eq]; omega
          have g4 : decide ((k : Int) ≤ 400) = true := by rw [decide_eq_true_eq]; omega
          obtain ⟨⟨ra, rb⟩, hr⟩ : ∃ r, R[k]? = some r := ⟨_, List.getElem?_eq_getElem hlt.1⟩
          have hvr := HV.out.chg HI.out.2 (fun x hx e => by omega)
          obtain ⟨la', cap', e2, _, hvl⟩ := hvr
          cases e2
          obtain ⟨ga, gc, rfl, hga, d0, d1, _, _⟩ := hvl k _ hr
          simp only at d0 d1
          have TK := Lib.hid (show l ++ rulesW (R.take (k + 1)) = (l ++ rulesW (R.take k)) ++ [ra, rb] by
            unfold rulesW
            rw [List.take_add_one, hr, List.flatMap_append, ← List.append_assoc]; rfl)
          have KR := Lib.hid HI.out.2
          have hbr : base ≤ wr.heap.size := by omega
          have hkl : k < R.length := hlt.1
          have hk400 : k ≤ 400 := hlt.2
          clear hvl hr hlt
          generalize l ++ rulesW (R.take k) = T at *
          go_wp2_with fail
          refine wp_region_plan (N := 50) [.rd [0, 1, 2, 3, 4, 5, 6, 7, 8, 9, 10], .ef 11, .ef 12, .rd [13]] (fun w' => w'.cell? ⟨ga, gc + k * 2, none⟩ = some (.string ra) ∧ w'.cell? ⟨ga, gc + k * 2 + 1, none⟩ = some (.string rb)) (by kernel_rfl) (by kernel_rfl) (by kernel_rfl) (by kernel_rfl) (Nat.le_of_ble_eq_true rfl) ⟨d0, d1⟩ ?_
          refine plan_rd (A := ?A1b) ?h1b ?h2b
          case h1b =>
            rintro w' ⟨q0, q1⟩ K hK
            simp only [opsAt, List.filterMap_cons, List.filterMap_nil, List.getElem?_toArray, List.getElem?_cons_succ, List.getElem?_cons_zero]
            repeat still_step
            refine wpStill_nil ?_
            exact hK
          have hgb : ga < base := hga
          have e0 : wr.drew.cell? ⟨ga, gc + k * 2, none⟩ = some (.string ra) := d0
          have e1 : wr.drew.cell? ⟨ga, gc + k * 2 + 1, none⟩ = some (.string rb) := d1
          have OD := Lib.hid (own_chg HO.out (chg_drew (fun _ => False) wr) (fun _ _ e => e))
          have KD := Lib.hid (KR.out.drew)
          have hbd : base ≤ wr.drew.heap.size := hbr
          clear d0 d1 HO KR HI
          generalize wr.drew = wd at *
          refine plan_ef rfl ?_
          go_wp2_with fail
          refine ⟨⟨cell_chg (chg_alloc (fun _ => False) wd _) (fun e => e) e0, cell_chg (chg_alloc (fun _ => False) wd _) (fun e => e) e1⟩, ?_⟩
          refine plan_ef rfl ?_
          refine wpList_pushN rfl (.tmp 25) (.tmp 36) 26 rfl 23 1 16 Try.underlying26 Try.elemWord base _ _ _ rfl (OD.out.alloc _) _ 2 [.string ra, .string rb] 23 (0, 0) rfl (obj_alloc_new _ _) rfl (by intro u hu; simp at hu; rcases hu with rfl | rfl <;> rfl) (by omega) (by unfold maxLen; omega) (by simp; omega) ?_
          intro v2 w2 o2 g2
          have kk := (chg_alloc (fun x => base ≤ x) wd (.cells #[.string ra, .string rb] 23)).grown g2 (fun x hx _ => (OD.out.lt x hx).1)
          have q0 := cell_chg kk (by omega) e0
          have q1 := cell_chg kk (by omega) e1
          have O2 := Lib.hid (show w2.ownsRow base 23 1 v2 (T ++ [ra, rb]).length (wcells (T ++ [ra, rb])) from by
            rw [List.length_append]; unfold wcells at o2 ⊢; rw [List.map_append]; exact o2)
          have K2 := Lib.hid (show Chg (fun x => base ≤ x) w w2 from (KD.out.alloc (.cells #[.string ra, .string rb] 23)).grown g2 (fun x hx _ => (OD.out.lt x hx).1))
          clear o2 g2 OD KD
          clear kk e0 e1
          go_wp2_with fail
          refine ⟨⟨q0, q1⟩, ?_⟩
          refine plan_rd (A := ?A2b) ?h3b ?h4b
          case h3b =>
            intro w' hS K hK
            clear hS
            simp only [opsAt, List.filterMap_cons, List.filterMap_nil, List.getElem?_toArray, List.getElem?_cons_succ, List.getElem?_cons_zero]
            repeat still_step
            refine wpStill_nil ?_
            exact hK
          refine plan_nil ?_
          go_wp2
          go_roundw
          case rel => exact ⟨k + 1, by omega, by omega, by go_num, Lib.hid ⟨by rw [TK.out]; exact O2.out, K2.out⟩⟩
          case measure => simp [intOf]; omega
        · have TE := Lib.hid (show l ++ rulesW (R.take 401) = l ++ rulesW (R.take k) by
            by_cases hq : k < R.length
            · obtain rfl : k = 401 := by omega
              rfl
            · rw [List.take_of_length_le (i := 401) (by omega), List.take_of_length_le (i := k) (by omega)])
          have GO : (decide (k < R.length) = false) ∨ (decide (k < R.length) = true ∧ decide ((k : Int) ≤ 400) = false) := by
            by_cases hq : k < R.length
            · exact .inr ⟨by rw [decide_eq_true_eq]; exact hq, by rw [decide_eq_false_iff_not]; omega⟩
            · exact .inl (by rw [decide_eq_false_iff_not]; exact hq)
          have HT := Lib.hid (show ∀ x ∈ l ++ rulesW (R.take 401), x.size ≤ maxLen from fun x hx => by
            rcases List.mem_append.1 hx with q | q
            · exact HLS.out x q
            · exact HR.out x q)
          rw [TE.out] at RB HT
          have KR := Lib.hid HI.out.2
          clear hlt TE HI HL HV HR HLS
          generalize l ++ rulesW (R.take k) = T at *
          have WT := Lib.hid (show ∀ (j : Nat) x, T[j]? = some x → ∃ g, a1 = some ⟨g, 0, none⟩ ∧ wr.cell? ⟨g, j, none⟩ = some (.string x) ∧ x.size ≤ maxLen from fun j x hj => by
            obtain ⟨a', c', e', _, hcl⟩ := own_get HO.out
            cases e'
            obtain ⟨g, q1, q2, q3⟩ := hcl j (.string x) (by unfold wcells; rw [List.getElem?_map, hj]; rfl)
            exact ⟨g, q1, q3, HT.out x (List.mem_of_getElem? hj)⟩)
          clear HO HT
          obtain ⟨w0, hw0⟩ : ∃ w0, w0 = wr := ⟨_, rfl⟩
          rcases GO with g3 | ⟨g3, g4⟩
          all_goals
            go_wp2
            go_loop [40] (fun iv => ∃ j : Nat, j ≤ T.length ∧ iv = .int .i64 j ∧ Hid (∀ i x, i < j → T[i]? = some x → x.size ≤ 100)) (fun iv => T.length - (intOf iv).toNat)
            case atStart => exact ⟨0, by omega, rfl, Lib.hid (fun i x hi => by omega)⟩
            case round =>
              obtain ⟨j, hj, rfl, HZ⟩ := hrel
              by_cases hjt : j < T.length
              · obtain ⟨x, hx⟩ : ∃ x, T[j]? = some x := ⟨_, List.getElem?_eq_getElem hjt⟩
                obtain ⟨gx, rfl, cx, hxs⟩ := WT.out j x hx
                unfold maxLen at hxs
                have HX := Lib.hid hx
                clear hx
                by_cases h4 : 100 < x.size
                · have R1 := Lib.hid (show largeB R l = true by rw [RB.out, List.any_eq_true]; exact ⟨x, List.mem_of_getElem? HX.out, by simpa using h4⟩)
                  have g6 : decide (100 < (x.size : Int)) = true := by rw [decide_eq_true_eq]; omega
                  go_wp2
                  go_ret
                  exact ⟨by rw [R1.out]; rfl, KR.out⟩
                · have g6 : decide (100 < (x.size : Int)) = false := by rw [decide_eq_false_iff_not]; omega
                  have HZ2 := Lib.hid (show ∀ i y, i < j + 1 → T[i]? = some y → y.size ≤ 100 from fun i y hi hy => by
                    rcases Nat.lt_or_ge i j with q | q
                    · exact HZ.out i y q hy
                    · obtain rfl : i = j := by omega
                      rw [HX.out] at hy; cases hy; omega)
                  go_wp2
                  go_round
                  case rel => exact ⟨j + 1, by omega, by go_num, HZ2⟩
                  case measure => simp [intOf]; omega
              · obtain rfl : j = T.length := by omega
                have R1 := Lib.hid (show largeB R l = false by
                  rw [RB.out, List.any_eq_false]
                  intro x hx
                  obtain ⟨i, hi⟩ := List.mem_iff_getElem?.1 hx
                  have := HZ.out i x (List.getElem?_eq_some_iff.1 hi).1 hi
                  simp; omega)
                go_wp2
                go_ret
                exact ⟨by rw [R1.out]; rfl, KR.out⟩
end Go.Proofs.Ytblannomcfiffaa
