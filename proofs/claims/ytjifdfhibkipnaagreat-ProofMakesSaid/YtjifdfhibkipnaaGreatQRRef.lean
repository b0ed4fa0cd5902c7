/-
  The reference's Walk and Path, beside the program's.
-/
import Derived.Test.YtjifdfhibkipnaaGreatRRefA
import Derived.Test.YtjifdfhibkipnaaGreatQMake
import Derived.Test.YtjifdfhibkipnaaGreatRLeadR
import Derived.Test.YtjifdfhibkipnaaGreatRTellR1
import Derived.Test.YtjifdfhibkipnaaGreatQCheck
namespace Go.Proofs.YtjifdfhibkipnaaGreat
open Go.RowKit Go.Maps
section
variable {w : World} {v : Value} {R : List BRul} {s : ByteArray} {b : Int}
set_option maxRecDepth 100000 in
theorem rpath_err (hA : Asks w v R s) (h47 : Fit47 R) (hs : s.size ≤ 140737488355328) (t : ByteArray) {k : Int} (h : rowErr R s b = k) (hk : k ≠ 0) : Calls Tryz.prog 32 #[v, .string s, .string t, .int .i64 b] w fun e w' => e = .returned (.tuple #[.slice none 0 0, .int .i64 k]) ∧ Chg (fun _ => False) w w' := by
  have W := Lib.hid (rfind_err hA h47 hs h hk)
  have g : (k != 0) = true := by rw [bne_iff_ne]; exact hk
  obtain ⟨la, cap, rfl, _, _⟩ := hA.rules
  clear hA h hk
  go_enter Tryz.func32, Tryz.ntmps32
  go_wp2_with fail
  (with_reducible refine (W.out).mono ?_)
  rintro e w' ⟨rfl, kc⟩
  go_wp2
  go_ret2
  exact ⟨rfl, kc⟩
set_option maxRecDepth 100000 in
theorem rpath_none (hA : Asks w v R s) (h47 : Fit47 R) (t : ByteArray) (h : rowErr R s b = 0) {r : List Ent} (hr : rowB R s b = some r) (hin : t.data.toList ∉ wordsR r) : Calls Tryz.prog 32 #[v, .string s, .string t, .int .i64 b] w fun e w' => e = .returned (.tuple #[.slice none 0 0, .int .i64 10]) ∧ Chg (fun _ => False) w w' := by
  have W := Lib.hid (rfind_ok hA h47 h hr)
  obtain ⟨h1, _⟩ := rowErr_zero h
  obtain ⟨m1, m2, m3, m4⟩ := askErr_zero h1
  obtain ⟨s1, s2, s3⟩ := row_some (by omega) hr
  obtain ⟨la, cap, rfl, _, _⟩ := hA.rules
  have PLA := Lib.hid (fun w' base bb lv fv bv (hX : FRow w' base bb lv fv bv r r r) => rplace_any w' base bb lv fv bv r r r t hX (by omega))
  rw [show placeI r t.data.toList = -1 from if_neg hin] at PLA
  clear hA h hr h1 m1 m2 m3 m4 s1 s2 s3 hin
  go_enter Tryz.func32, Tryz.ntmps32
  go_wp2_with fail
  (with_reducible refine (W.out).mono ?_)
  rintro e w' ⟨bb, rfl, ⟨lv, fv, bv, hX⟩, kc⟩
  have PL := Lib.hid (PLA.out _ _ _ _ _ _ hX)
  clear hX PLA
  go_wp2_with fail
  (with_reducible refine (PL.out).mono ?_)
  rintro e w2 ⟨rfl, rfl⟩
  go_wp2
  go_ret2
  exact ⟨rfl, kc⟩
theorem frow_from {w : World} {base b : Nat} {lv bv : Value} {a : Option Addr} {n c : Nat} {r r1 r3 : List Ent} (h : FRow w base b lv (.slice a n c) bv r1 r r3) {i : Nat} (hi : i < r.length) : ∃ g, a = some ⟨g, 0, none⟩ ∧ w.cell? ⟨g, i, none⟩ = some (.int .i64 (entAt r i).2.1) := by
  have ho := h.hf
  obtain ⟨a', c', e⟩ := own_shape ho
  cases e
  obtain ⟨g, rfl⟩ := own_some ho (by omega)
  refine ⟨g, rfl, ?_⟩
  rw [ho.cellAt i (by omega)]
  unfold rfCells entAt
  rw [List.getElem?_map, List.getD_eq_getElem?_getD, List.getElem?_eq_getElem hi]; rfl
theorem frow_step {w : World} {base b : Nat} {lv fv : Value} {a : Option Addr} {n c : Nat} {r r1 r2 : List Ent} (h : FRow w base b lv fv (.slice a n c) r1 r2 r) {i : Nat} (hi : i < r.length) : ∃ g, a = some ⟨g, 0, none⟩ ∧ w.cell? ⟨g, i * 2, none⟩ = some (.int .i64 ((entAt r i).2.2.1 : Int)) ∧ w.cell? ⟨g, i * 2 + 1, none⟩ = some (.int .i64 ((entAt r i).2.2.2 : Int)) := by
  have ho := h.hs
  obtain ⟨a', c', e⟩ := own_shape ho
  cases e
  obtain ⟨g, rfl⟩ := own_some ho (by omega)
  have hq := hcells_get (r.map fun e => e.2.2) i (entAt r i).2.2 (by unfold entAt; rw [List.getElem?_map, List.getD_eq_getElem?_getD, List.getElem?_eq_getElem hi]; rfl)
  refine ⟨g, rfl, ?_, ?_⟩
  · rw [ho.cellAt _ (by omega), Nat.mul_comm]; exact hq.1
  · rw [ho.cellAt _ (by omega), Nat.mul_comm]; exact hq.2
set_option maxHeartbeats 1000000 in
set_option maxRecDepth 100000 in
theorem rpath_ok (hA : Asks w v R s) (h47 : Fit47 R) (t : ByteArray) (h : rowErr R s b = 0) {r : List Ent} (hr : rowB R s b = some r) (hin : t.data.toList ∈ wordsR r) :
    Calls Tryz.prog 32 #[v, .string s, .string t, .int .i64 b] w fun e w' => ∃ va, e = .returned (.tuple #[va, .int .i64 0]) ∧ w'.ownsRow w.heap.size 45 2 va (pathOf r ((wordsR r).idxOf t.data.toList)).length (hcells (pathOf r ((wordsR r).idxOf t.data.toList))) ∧ Chg (fun _ => False) w w' := by
  have W := Lib.hid (rfind_ok hA h47 h hr)
  obtain ⟨h1, _⟩ := rowErr_zero h
  obtain ⟨m1, m2, m3, m4⟩ := askErr_zero h1
  obtain ⟨s1, s2, s3⟩ := row_some (by omega) hr
  obtain ⟨la, cap, rfl, _, _⟩ := hA.rules
  have FR := Lib.hid (row_from hr)
  have PLA := Lib.hid (fun w' base bb lv fv bv (hX : FRow w' base bb lv fv bv r r r) => rplace_any w' base bb lv fv bv r r r t hX (by omega))
  rw [show placeI r t.data.toList = (((wordsR r).idxOf t.data.toList : Nat) : Int) from if_pos hin] at PLA
  have hil : (wordsR r).idxOf t.data.toList < r.length := by rw [← wordsR_length]; exact List.idxOf_lt_length_of_mem hin
  generalize (wordsR r).idxOf t.data.toList = i0 at *
  have PW := Lib.hid ((path_walks FR.out i0 hil).2)
  have hrl : r.length ≤ 5000 := by omega
  clear hA h hr hin h1 m1 m2 m3 m4 s1 s2 s3
  go_enter Tryz.func32, Tryz.ntmps32
  go_wp2_with fail
  (with_reducible refine (W.out).mono ?_)
  rintro e w1 ⟨bb, rfl, ⟨lv, fv, bv, hX⟩, kc⟩
  have PL := Lib.hid (PLA.out _ _ _ _ _ _ hX)
  obtain ⟨fa, fc, rfl⟩ := own_shape hX.hf
  obtain ⟨sa, sc, rfl⟩ := own_shape hX.hs
  have HX := Lib.hid hX
  have KC := Lib.hid kc
  clear hX PLA kc W
  go_wp2_with fail
  (with_reducible refine (PL.out).mono ?_)
  rintro e w2 ⟨rfl, rfl⟩
  go_wp2
  go_loopw [12, 13] (fun iv lv wr => ∃ (k : Nat) (L : List (Nat × Nat)), k ≤ i0 ∧ iv = .int .i64 k ∧ Hid (pathOf r i0 = pathOf r k ++ L ∧ wr.ownsRow w1.heap.size 45 2 lv L.length (hcells L) ∧ Chg (fun _ => False) w1 wr)) (fun iv _ _ => (intOf iv).toNat)
  case atStart => exact ⟨i0, [], Nat.le_refl _, rfl, Lib.hid ⟨by simp, own_empty _ _ _ _ (Nat.le_refl _), chg_alloc _ _ _⟩⟩
  case round =>
    obtain ⟨k, L, hk, rfl, HI⟩ := hrel
    have ho := HI.out.2.1
    have hc := HI.out.2.2
    obtain ⟨a13, c13, e13⟩ := own_shape ho
    subst e13
    have HO := Lib.hid ho
    have hsz := hc.size
    have hLl : L.length ≤ 5000 := by
      have h1 := PW.out
      rw [HI.out.1, List.length_append] at h1
      omega
    have hXr := FRow.chg HX.out hc (fun _ _ e => e)
    have hfr := frow_from hXr (show k < r.length by omega)
    have hst := frow_step hXr (show k < r.length by omega)
    obtain ⟨gf, rfl, f0⟩ := hfr
    obtain ⟨gs, rfl, f1, f2⟩ := hst
    have c1 : wr.cell? ⟨bb, 1, none⟩ = some (.slice (some ⟨gf, 0, none⟩) r.length fc) := cell_of hXr.hb rfl
    have c2 : wr.cell? ⟨bb, 2, none⟩ = some (.slice (some ⟨gs, 0, none⟩) r.length sc) := cell_of hXr.hb rfl
    have HC := Lib.hid hc
    have hkr : k < r.length := by omega
    clear ho hXr hc
    by_cases hk0 : 0 < k
    · obtain ⟨j, hjk, hj1, hj2⟩ := FR.out.back k hk0 (by omega)
      have PS := Lib.hid (path_succ FR.out (by omega) hk0 hj1 hjk)
      rw [hj1] at f0
      generalize (entAt r k).2.2 = st at *
      obtain ⟨st1, st2⟩ := st
      simp only at f1 f2
      have GK := Lib.hid (show ∀ W, Chg (fun _ => False) wr W → W.cell? ⟨bb, 1, none⟩ = some (.slice (some ⟨gf, 0, none⟩) r.length fc) ∧ W.cell? ⟨gf, k, none⟩ = some (.int .i64 (j : Int)) from fun W h => ⟨cell_chg h (fun e => e) c1, cell_chg h (fun e => e) f0⟩)
      clear hj1 hj2
      go_wp2_with (at_builtin; refine wpList_pushS rfl (.tmp 45) (.tmp 46) 28 rfl 45 2 16 Tryz.underlying28 Tryz.elemStep wr.heap.size _ 1 [.int .i64 (st1 : Int), .int .i64 (st2 : Int)] rfl (World.ownsRow_lit wr #[.int .i64 (st1 : Int), .int .i64 (st2 : Int)] 1 (Nat.le_refl _) (by unfold maxLen; omega) rfl) a13 L.length c13 (hcells L) rfl ?n1 ?n2 ?n3 ?n4 ?n5 ?n6 ?n7 ?next2)
      case n1 => rw [hcells_length]; omega
      case n2 =>
        intro j u hj
        have hjl := (List.getElem?_eq_some_iff.1 hj).1
        rw [hcells_length] at hjl
        obtain ⟨g, rfl⟩ := own_some HO.out (by omega)
        refine ⟨g, 0, rfl, ?_⟩
        refine cell_chg (chg_alloc (fun _ => False) wr _) (fun e => e) ?_
        rw [Nat.zero_add, HO.out.cellAt j (by omega)]; exact hj
      case n3 =>
        intro e
        obtain ⟨_, ⟨q1, q2⟩ | ⟨g, cap, cur, q1, _⟩⟩ := HO.out
        · simp at q1; exact ⟨q2, q1.2.2⟩
        · rw [e] at q1; cases q1
      case n4 =>
        intro u hu
        unfold hcells at hu
        rw [List.mem_flatMap] at hu
        obtain ⟨x, _, hx⟩ := hu
        simp at hx
        rcases hx with rfl | rfl <;> rfl
      case n5 => omega
      case n6 => unfold maxLen; omega
      case n7 => simp
      intro v2 w2 o2 g2
      have k2 : Chg (fun _ => False) wr w2 := (chg_alloc (fun _ => False) wr (.cells #[.int .i64 (st1 : Int), .int .i64 (st2 : Int)] 45)).next (Chg.of_grown g2) (fun x hx e => by
        have e2 : wr.heap.size = x := by simpa [Value.ownBlock] using e
        omega)
      obtain ⟨d1, d0⟩ := GK.out _ k2
      have O2 := Lib.hid (show w2.ownsRow w1.heap.size 45 2 v2 ((st1, st2) :: L).length (hcells ((st1, st2) :: L)) from by
        have := ownsRow_down o2 hsz
        rw [List.length_cons, Nat.add_comm L.length 1]
        exact this)
      have K2 := Lib.hid (HC.out.trans k2)
      clear c1 c2 f0 f1 f2 g2 o2 k2
      go_wp2
      go_roundw
      case rel =>
        refine ⟨j, (st1, st2) :: L, by omega, rfl, Lib.hid ⟨?_, O2.out, K2.out⟩⟩
        rw [HI.out.1, PS.out]; simp
      case measure => simp [intOf]; omega
    · obtain rfl : k = 0 := by omega
      have PE := Lib.hid (show pathOf r i0 = L by rw [HI.out.1, path_zero]; rfl)
      rw [FR.out.first] at f0
      go_wp2
      go_ret2
      refine ⟨_, rfl, ?_, KC.out.trans HC.out⟩
      rw [PE.out]
      exact ownsRow_down HO.out KC.out.size
theorem rpath_row (hA : Asks w v R s) (h47 : Fit47 R) (t : ByteArray) (h : tellPE R s t b = 0) : Calls Tryz.prog 32 #[v, .string s, .string t, .int .i64 b] w fun e w' => ∃ va, e = .returned (.tuple #[va, .int .i64 0]) ∧ w'.ownsRow w.heap.size 45 2 va (tellP R s t b).length (scells (tellP R s t b)) ∧ Chg (fun _ => False) w w' := by
  unfold tellP
  rw [if_pos h]
  unfold tellPE at h
  by_cases h0 : rowErr R s b = 0
  · rw [if_pos h0] at h
    obtain ⟨_, r, hr⟩ := rowErr_zero h0
    have er : rowD R s b = r := by unfold rowD; rw [hr]; rfl
    rw [er] at h ⊢
    by_cases hin : t.data.toList ∈ wordsR r
    · have e2 := scells_cast (pathOf r ((wordsR r).idxOf t.data.toList))
      unfold castS at e2
      rw [e2, List.length_map]
      exact rpath_ok hA h47 t h0 hr hin
    · rw [if_neg hin] at h
      cases h
  · rw [if_neg h0] at h
    exact absurd h h0
theorem rpath_no (hA : Asks w v R s) (h47 : Fit47 R) (hs : s.size ≤ 140737488355328) (t : ByteArray) (h : tellPE R s t b ≠ 0) : Calls Tryz.prog 32 #[v, .string s, .string t, .int .i64 b] w fun e w' => e = .returned (.tuple #[.slice none 0 0, .int .i64 (tellPE R s t b)]) ∧ Chg (fun _ => False) w w' := by
  by_cases h0 : rowErr R s b = 0
  · obtain ⟨_, r, hr⟩ := rowErr_zero h0
    have er : rowD R s b = r := by unfold rowD; rw [hr]; rfl
    unfold tellPE at h ⊢
    rw [if_pos h0, er] at h ⊢
    by_cases hin : t.data.toList ∈ wordsR r
    · rw [if_pos hin] at h
      exact absurd rfl h
    · rw [if_neg hin]
      exact rpath_none hA h47 t h0 hr hin
  · unfold tellPE
    rw [if_neg h0]
    exact rpath_err hA h47 hs t rfl h0
end
end Go.Proofs.YtjifdfhibkipnaaGreat
