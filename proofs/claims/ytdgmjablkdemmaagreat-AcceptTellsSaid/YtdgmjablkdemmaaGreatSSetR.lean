/-
  Sets of words: the reference's May.
-/
import Derived.Test.YtdgmjablkdemmaaGreatSSetB
import Derived.Test.YtdgmjablkdemmaaGreatTree
import Derived.Test.YtdgmjablkdemmaaGreatMRefs
namespace Go.Proofs.YtdgmjablkdemmaaGreat
open Go.RowKit Go.Maps

def Sizes (l : List ByteArray) : Prop := ∀ x ∈ l, x.size ≤ 140737488355328
theorem setB_no {l : List ByteArray} (h : ¬ SetMay (lists l)) : setB l = false := decide_eq_false h
set_option maxHeartbeats 2000000 in
set_option maxRecDepth 100000 in
theorem rsetMay_any (w : World) (v : Value) (G : Nat → Prop) (l : List ByteArray) (hv : WordsAt w v G l) (hz : Sizes l) :
    Calls Tryz.prog 68 #[v] w fun e w' => e = .returned (.bool (setB l)) ∧ Chg (fun _ => False) w w' := by
  obtain ⟨la, cap, rfl, hl0, hcl⟩ := hv
  have HCL := Lib.hid hcl
  have HZ := Lib.hid hz
  unfold maxLen at hl0
  clear hcl hz
  have NO := Lib.hid (show ∀ h : ¬ SetMay (lists l), setB l = false from fun h => setB_no h)
  by_cases h1 : l.length < 1
  · have R := Lib.hid (NO.out (fun q => by have := q.1; rw [lists_len] at this; omega))
    have g1 : decide ((l.length : Int) < 1) = true := by rw [decide_eq_true_eq]; omega
    go_enter Tryz.func68, Tryz.ntmps68
    go_wp2
    go_ret
    exact ⟨by rw [R.out]; rfl, Chg.refl _ _⟩
  have g1 : decide ((l.length : Int) < 1) = false := by rw [decide_eq_false_iff_not]; omega
  by_cases h2 : 16 < l.length
  · have R := Lib.hid (NO.out (fun q => by have := q.2.1; rw [lists_len] at this; omega))
    have g2 : decide (16 < (l.length : Int)) = true := by rw [decide_eq_true_eq]; omega
    go_enter Tryz.func68, Tryz.ntmps68
    go_wp2
    go_ret
    exact ⟨by rw [R.out]; rfl, Chg.refl _ _⟩
  have g2 : decide (16 < (l.length : Int)) = false := by rw [decide_eq_false_iff_not]; omega
  go_enter Tryz.func68, Tryz.ntmps68
  go_wp2
  go_loopw [3] (fun iv wr => ∃ k : Nat, k ≤ l.length ∧ iv = .int .i64 k ∧ Hid ((∀ j, j < k → mayB ((lists l).getD j []) = true ∧ (0 < j → lessB ((lists l).getD (j - 1) []) ((lists l).getD j []) = true)) ∧ Chg (fun _ => False) w wr)) (fun iv _ => l.length - (intOf iv).toNat)
  case atStart => exact ⟨0, by omega, rfl, Lib.hid ⟨fun j hj => by omega, Chg.refl _ _⟩⟩
  case round =>
    obtain ⟨k, hk, rfl, HI⟩ := hrel
    by_cases hlt : k < l.length
    · obtain ⟨x, hx⟩ : ∃ x, l[k]? = some x := ⟨_, List.getElem?_eq_getElem hlt⟩
      obtain ⟨lb, lo, rfl, _, c0', hxm⟩ := HCL.out k x hx
      have c0 := cell_chg HI.out.2 (fun e => e) c0'
      have GX := Lib.hid (lists_getB hx)
      have KC := Lib.hid HI.out.2
      have PRE := Lib.hid HI.out.1
      have MA := Lib.hid (fun w => rmay_any w x (HZ.out x (List.mem_of_getElem? hx)))
      clear c0' HI
      cases hm : mayB x.data.toList with
      | false =>
        rw [hm] at MA
        have R := Lib.hid (NO.out (fun q => by have := (q.2.2 k (by rw [lists_len]; exact hlt)).1; rw [GX.out, hm] at this; cases this))
        clear hm hx
        go_wp2_with fail
        refine wp_region_plan (N := 41) [.rd [0, 1, 2, 3], .ef 4, .rd [5, 6, 7, 8, 9, 10, 11, 12, 13, 14, 15, 16, 17, 18], .ef 19, .rd [20, 21, 22]] (fun w' => w'.cell? ⟨lb, lo + k, none⟩ = some (.string x)) (by kernel_rfl) (by kernel_rfl) (by kernel_rfl) (by kernel_rfl) (Nat.le_of_ble_eq_true rfl) c0 ?_
        refine plan_rd (A := ?A1) ?h1 ?h2
        case h1 =>
          rintro w' z0 K hK
          simp only [opsAt, List.filterMap_cons, List.filterMap_nil, List.getElem?_toArray, List.getElem?_cons_succ, List.getElem?_cons_zero]
          repeat still_step
          refine wpStill_nil ?_
          exact hK
        have e0 : wr.drew.cell? ⟨lb, lo + k, none⟩ = some (.string x) := c0
        have KD := Lib.hid (KC.out.drew)
        clear c0 KC
        generalize wr.drew = wd at *
        refine plan_ef rfl ?_
        go_wp2_with fail
        (with_reducible refine (MA.out _).mono ?_)
        rintro e w4 ⟨rfl, k4⟩
        have e1 := cell_chg k4 (fun e => e) e0
        have K4 := Lib.hid (KD.out.trans k4)
        clear k4 e0 KD
        go_wp2_with fail
        refine ⟨e1, ?_⟩
        refine plan_rd (A := ?A2) ?h3 ?h4
        case h3 =>
          rintro w' z0 K hK
          simp only [opsAt, List.filterMap_cons, List.filterMap_nil, List.getElem?_toArray, List.getElem?_cons_succ, List.getElem?_cons_zero]
          refine WS.out ?_
          repeat (refine ws_step (fun K hK => ?_); go_simp; refine hK _ ?_; clear hK K)
          refine ws_nil ?_
          exact hK
        refine plan_ef rfl ?_
        refine wpList_skip (by simp [Region.wanted, yielded, undef]) ?_
        go_wp2_with fail
        refine ⟨e1, ?_⟩
        refine plan_rd (A := ?A3) ?h5 ?h6
        case h5 =>
          rintro w' z0 K hK
          simp only [opsAt, List.filterMap_cons, List.filterMap_nil, List.getElem?_toArray, List.getElem?_cons_succ, List.getElem?_cons_zero]
          refine WS.out ?_
          repeat (refine ws_step (fun K hK => ?_); go_simp; refine hK _ ?_; clear hK K)
          refine ws_nil ?_
          exact hK
        refine plan_nil ?_
        go_wp2
        go_ret
        exact ⟨by rw [R.out]; rfl, K4.out⟩
      | true =>
        rw [hm] at MA
        by_cases hk0 : k = 0
        · have g3 : decide (0 < (k : Int)) = false := by rw [decide_eq_false_iff_not]; omega
          have g4 : decide (0 < k) = false := by rw [decide_eq_false_iff_not]; omega
          have PR := Lib.hid (show ∀ j, j < k + 1 → mayB ((lists l).getD j []) = true ∧ (0 < j → lessB ((lists l).getD (j - 1) []) ((lists l).getD j []) = true) from fun j hj => by
            obtain rfl : j = k := by omega
            exact ⟨by rw [GX.out]; exact hm, fun h => by omega⟩)
          clear hm hk0 hx
          go_wp2_with fail
          refine wp_region_plan (N := 41) [.rd [0, 1, 2, 3], .ef 4, .rd [5, 6, 7, 8, 9, 10, 11, 12, 13, 14, 15, 16, 17, 18], .ef 19, .rd [20, 21, 22]] (fun w' => w'.cell? ⟨lb, lo + k, none⟩ = some (.string x)) (by kernel_rfl) (by kernel_rfl) (by kernel_rfl) (by kernel_rfl) (Nat.le_of_ble_eq_true rfl) c0 ?_
          refine plan_rd (A := ?A11) ?h11 ?h12
          case h11 =>
            rintro w' z0 K hK
            simp only [opsAt, List.filterMap_cons, List.filterMap_nil, List.getElem?_toArray, List.getElem?_cons_succ, List.getElem?_cons_zero]
            refine WS.out ?_
            repeat (refine ws_step (fun K hK => ?_); go_simp; refine hK _ ?_; clear hK K)
            refine ws_nil ?_
            exact hK
          have D := Lib.hid (chg_drew (fun _ => False) wr)
          have e0 := cell_chg D.out (fun e => e) c0
          have KD := Lib.hid (KC.out.drew)
          clear c0 KC D
          generalize wr.drew = wd at *
          refine plan_ef rfl ?_
          go_wp2_with fail
          (with_reducible refine (MA.out _).mono ?_)
          rintro e w4 ⟨rfl, k4⟩
          have f0 := cell_chg k4 (fun e => e) e0
          have K4 := Lib.hid (KD.out.trans k4)
          clear k4 e0 KD
          go_wp2_with fail
          refine ⟨f0, ?_⟩
          refine plan_rd (A := ?A12) ?h13 ?h14
          case h13 =>
            rintro w' z0 K hK
            simp only [opsAt, List.filterMap_cons, List.filterMap_nil, List.getElem?_toArray, List.getElem?_cons_succ, List.getElem?_cons_zero]
            refine WS.out ?_
            repeat (refine ws_step (fun K hK => ?_); go_simp; refine hK _ ?_; clear hK K)
            refine ws_nil ?_
            exact hK
          refine plan_ef rfl ?_
          refine wpList_skip (by simp [Region.wanted, yielded, undef]) ?_
          go_wp2_with fail
          refine ⟨f0, ?_⟩
          refine plan_rd (A := ?A13) ?h15 ?h16
          case h15 =>
            rintro w' z0 K hK
            simp only [opsAt, List.filterMap_cons, List.filterMap_nil, List.getElem?_toArray, List.getElem?_cons_succ, List.getElem?_cons_zero]
            refine WS.out ?_
            repeat (refine ws_step (fun K hK => ?_); go_simp; refine hK _ ?_; clear hK K)
            refine ws_nil ?_
            exact hK
          refine plan_nil ?_
          go_wp2
          go_roundw
          case rel => exact ⟨k + 1, by omega, by go_num, Lib.hid ⟨PR.out, K4.out⟩⟩
          case measure => simp [intOf]; omega
        · obtain ⟨y, hy⟩ : ∃ y, l[k - 1]? = some y := ⟨_, List.getElem?_eq_getElem (by omega)⟩
          obtain ⟨lb', lo', e1, _, c1', hym⟩ := HCL.out (k - 1) y hy
          cases e1
          have GY := Lib.hid (lists_getB hy)
          obtain ⟨n, hn⟩ : ∃ n, n = k - 1 := ⟨_, rfl⟩
          rw [← hn] at c1' GY
          have c1 := cell_chg KC.out (fun e => e) c1'
          have g3 : decide (0 < (k : Int)) = true := by rw [decide_eq_true_eq]; omega
          have g4 : decide (0 < k) = true := by rw [decide_eq_true_eq]; omega
          have q1 : IntKind.i64.wrap ((k : Int) - 1) = (n : Int) := by rw [IntKind.wrap_i64]; omega
          have q2 : n < l.length := by omega
          have q3 : (n : Int) < (l.length : Int) := by omega
          have HN := Lib.hid hn
          have LS := Lib.hid (fun w => rless_any w y x hym)
          have HM := Lib.hid hm
          clear hy hn c1' hm hx
          cases hl : lessB y.data.toList x.data.toList with
          | false =>
            rw [hl] at LS
            have R := Lib.hid (NO.out (fun q => by have := (q.2.2 k (by rw [lists_len]; exact hlt)).2 (by omega); rw [GX.out, ← HN.out, GY.out, hl] at this; cases this))
            clear hl
            go_wp2_with fail
            refine wp_region_plan (N := 41) [.rd [0, 1, 2, 3], .ef 4, .rd [5, 6, 7, 8, 9, 10, 11, 12, 13, 14, 15, 16, 17, 18], .ef 19, .rd [20, 21, 22]] (fun w' => w'.cell? ⟨lb, lo + k, none⟩ = some (.string x) ∧ w'.cell? ⟨lb, lo + n, none⟩ = some (.string y)) (by kernel_rfl) (by kernel_rfl) (by kernel_rfl) (by kernel_rfl) (Nat.le_of_ble_eq_true rfl) ⟨c0, c1⟩ ?_
            refine plan_rd (A := ?A21) ?h21 ?h22
            case h21 =>
              rintro w' ⟨z0, z1⟩ K hK
              simp only [opsAt, List.filterMap_cons, List.filterMap_nil, List.getElem?_toArray, List.getElem?_cons_succ, List.getElem?_cons_zero]
              refine WS.out ?_
              repeat (refine ws_step (fun K hK => ?_); go_simp; refine hK _ ?_; clear hK K)
              refine ws_nil ?_
              exact hK
            have D := Lib.hid (chg_drew (fun _ => False) wr)
            have e0 := cell_chg D.out (fun e => e) c0
            have e1 := cell_chg D.out (fun e => e) c1
            have KD := Lib.hid (KC.out.drew)
            clear c0 c1 KC D
            generalize wr.drew = wd at *
            refine plan_ef rfl ?_
            go_wp2_with fail
            (with_reducible refine (MA.out _).mono ?_)
            rintro e w4 ⟨rfl, k4⟩
            have f0 := cell_chg k4 (fun e => e) e0
            have f1 := cell_chg k4 (fun e => e) e1
            have K4 := Lib.hid (KD.out.trans k4)
            clear k4 e0 e1 KD
            go_wp2_with fail
            refine ⟨⟨f0, f1⟩, ?_⟩
            refine plan_rd (A := ?A22) ?h23 ?h24
            case h23 =>
              rintro w' ⟨z0, z1⟩ K hK
              simp only [opsAt, List.filterMap_cons, List.filterMap_nil, List.getElem?_toArray, List.getElem?_cons_succ, List.getElem?_cons_zero]
              refine WS.out ?_
              repeat (refine ws_step (fun K hK => ?_); go_simp; refine hK _ ?_; clear hK K)
              refine ws_nil ?_
              exact hK
            refine plan_ef rfl ?_
            go_wp2_with fail
            (with_reducible refine (LS.out _).mono ?_)
            rintro e w5 ⟨rfl, d5⟩
            have g0 := drawn_cell d5 f0
            have g1 := drawn_cell d5 f1
            have K5 := Lib.hid (K4.out.trans d5.chg)
            clear d5 f0 f1 K4
            go_wp2_with fail
            refine ⟨⟨g0, g1⟩, ?_⟩
            refine plan_rd (A := ?A23) ?h25 ?h26
            case h25 =>
              rintro w' ⟨z0, z1⟩ K hK
              simp only [opsAt, List.filterMap_cons, List.filterMap_nil, List.getElem?_toArray, List.getElem?_cons_succ, List.getElem?_cons_zero]
              refine WS.out ?_
              repeat (refine ws_step (fun K hK => ?_); go_simp; refine hK _ ?_; clear hK K)
              refine ws_nil ?_
              exact hK
            refine plan_nil ?_
            go_wp2
            go_ret
            exact ⟨by rw [R.out]; rfl, K5.out⟩
          | true =>
            rw [hl] at LS
            have PR := Lib.hid (show ∀ j, j < k + 1 → mayB ((lists l).getD j []) = true ∧ (0 < j → lessB ((lists l).getD (j - 1) []) ((lists l).getD j []) = true) from fun j hj => by
              rcases Nat.lt_or_ge j k with q | q
              · exact PRE.out j q
              · obtain rfl : j = k := by omega
                exact ⟨by rw [GX.out]; exact HM.out, fun _ => by rw [GX.out, ← HN.out, GY.out]; exact hl⟩)
            clear hl
            go_wp2_with fail
            refine wp_region_plan (N := 41) [.rd [0, 1, 2, 3], .ef 4, .rd [5, 6, 7, 8, 9, 10, 11, 12, 13, 14, 15, 16, 17, 18], .ef 19, .rd [20, 21, 22]] (fun w' => w'.cell? ⟨lb, lo + k, none⟩ = some (.string x) ∧ w'.cell? ⟨lb, lo + n, none⟩ = some (.string y)) (by kernel_rfl) (by kernel_rfl) (by kernel_rfl) (by kernel_rfl) (Nat.le_of_ble_eq_true rfl) ⟨c0, c1⟩ ?_
            refine plan_rd (A := ?A31) ?h31 ?h32
            case h31 =>
              rintro w' ⟨z0, z1⟩ K hK
              simp only [opsAt, List.filterMap_cons, List.filterMap_nil, List.getElem?_toArray, List.getElem?_cons_succ, List.getElem?_cons_zero]
              refine WS.out ?_
              repeat (refine ws_step (fun K hK => ?_); go_simp; refine hK _ ?_; clear hK K)
              refine ws_nil ?_
              exact hK
            have D := Lib.hid (chg_drew (fun _ => False) wr)
            have e0 := cell_chg D.out (fun e => e) c0
            have e1 := cell_chg D.out (fun e => e) c1
            have KD := Lib.hid (KC.out.drew)
            clear c0 c1 KC D
            generalize wr.drew = wd at *
            refine plan_ef rfl ?_
            go_wp2_with fail
            (with_reducible refine (MA.out _).mono ?_)
            rintro e w4 ⟨rfl, k4⟩
            have f0 := cell_chg k4 (fun e => e) e0
            have f1 := cell_chg k4 (fun e => e) e1
            have K4 := Lib.hid (KD.out.trans k4)
            clear k4 e0 e1 KD
            go_wp2_with fail
            refine ⟨⟨f0, f1⟩, ?_⟩
            refine plan_rd (A := ?A32) ?h33 ?h34
            case h33 =>
              rintro w' ⟨z0, z1⟩ K hK
              simp only [opsAt, List.filterMap_cons, List.filterMap_nil, List.getElem?_toArray, List.getElem?_cons_succ, List.getElem?_cons_zero]
              refine WS.out ?_
              repeat (refine ws_step (fun K hK => ?_); go_simp; refine hK _ ?_; clear hK K)
              refine ws_nil ?_
              exact hK
            refine plan_ef rfl ?_
            go_wp2_with fail
            (with_reducible refine (LS.out _).mono ?_)
            rintro e w5 ⟨rfl, d5⟩
            have g0 := drawn_cell d5 f0
            have g1 := drawn_cell d5 f1
            have K5 := Lib.hid (K4.out.trans d5.chg)
            clear d5 f0 f1 K4
            go_wp2_with fail
            refine ⟨⟨g0, g1⟩, ?_⟩
            refine plan_rd (A := ?A33) ?h35 ?h36
            case h35 =>
              rintro w' ⟨z0, z1⟩ K hK
              simp only [opsAt, List.filterMap_cons, List.filterMap_nil, List.getElem?_toArray, List.getElem?_cons_succ, List.getElem?_cons_zero]
              refine WS.out ?_
              repeat (refine ws_step (fun K hK => ?_); go_simp; refine hK _ ?_; clear hK K)
              refine ws_nil ?_
              exact hK
            refine plan_nil ?_
            go_wp2
            go_roundw
            case rel => exact ⟨k + 1, by omega, by go_num, Lib.hid ⟨PR.out, K5.out⟩⟩
            case measure => simp [intOf]; omega
    · obtain rfl : k = l.length := by omega
      have R := Lib.hid (show setB l = true from decide_eq_true ⟨by rw [lists_len]; omega, by rw [lists_len]; omega, fun j hj => HI.out.1 j (by rw [lists_len] at hj; exact hj)⟩)
      go_wp2
      go_ret
      exact ⟨by rw [R.out]; rfl, HI.out.2⟩
end Go.Proofs.YtdgmjablkdemmaaGreat
