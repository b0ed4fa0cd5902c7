/-
  The reference's Find.
-/
import Derived.Test.YtjifdfhibkipnaaGreatRRefA
namespace Go.Proofs.YtjifdfhibkipnaaGreat
open Go.RowKit Go.Maps

def FindBad (w : World) (k : Int) (e : Ending) (w' : World) : Prop := e = .returned (.tuple #[.pointer none, .int .i64 k]) ∧ Chg (fun _ => False) w w'
def FindGood (w : World) (r : List Ent) (e : Ending) (w' : World) : Prop := ∃ b, e = .returned (.tuple #[.pointer (some ⟨b, 0, none⟩), .int .i64 0]) ∧ RowF w' w.heap.size b r ∧ Chg (fun _ => False) w w'
def FindRes (w : World) (o : Option (List Ent)) (e : Ending) (w' : World) : Prop := (∀ r, o = some r → FindGood w r e w') ∧ (o = none → FindBad w 12 e w')
/-- What holds of Find's outer loop. -/
structure FOut (w : World) (R : List Rul) (s : Wd) (bnd b i : Nat) (r : List Ent) (W : World) : Prop where
  row : RowF W w.heap.size b r
  goes : rowOf R s bnd = outerR R bnd (bnd - i) i r
  le : i ≤ bnd
  len : r.length ≤ bnd
  nd : (wordsR r).Nodup
  may : ∀ u ∈ wordsR r, mayB u = true
  chg : Chg (fun _ => False) w W
/-- What holds inside. -/
structure FIn (w : World) (R : List Rul) (bnd b i : Nat) (r0 : List Ent) (a k : Nat) (r : List Ent) (W : World) : Prop where
  row : RowF W w.heap.size b r
  pre : rowPre R bnd i r0 (wordAt r0 i) a k = some r
  chg : Chg (fun _ => False) w W
theorem FIn.facts {w W : World} {R : List Rul} {s : Wd} {bnd b i a k : Nat} {r0 r : List Ent} {W0 : World} (h : FIn w R bnd b i r0 a k r W) (h0 : FOut w R s bnd b i r0 W0) (hi : i < r0.length) : r.length ≤ bnd ∧ i < r.length ∧ wordAt r i = wordAt r0 i := by
  obtain ⟨q1, q2, ⟨t, rfl⟩, _, _⟩ := innerR_some h.pre h0.nd h0.len
  exact ⟨q2, by rw [List.length_append]; omega, wordAt_append t hi⟩
theorem FOut.next {w W W0 : World} {R : List Rul} {s : Wd} {bnd b i : Nat} {r0 r : List Ent} (h0 : FOut w R s bnd b i r0 W0) (hi : i < r0.length) (h : FIn w R bnd b i r0 (alen (wordAt r0 i)) 0 r W) : FOut w R s bnd b (i + 1) r W := by
  have hp := h.pre
  rw [rowPre_end] at hp
  obtain ⟨q1, q2, ⟨t, rfl⟩, q4, _⟩ := innerR_some hp h0.nd h0.len
  have h1 := h0.len
  refine ⟨h.row, ?_, by omega, q2, q1, fun u hu => ?_, h.chg⟩
  · rw [h0.goes, show bnd - i = (bnd - (i + 1)) + 1 by omega, outerR, if_pos hi, hp]; rfl
  · rcases q4 u hu with q | q
    · exact h0.may u q
    · exact (step_may (h0.may _ (wordAt_mem hi)) q).1
theorem FOut.over {w W0 : World} {R : List Rul} {s : Wd} {bnd b i a k : Nat} {r0 : List Ent} (h0 : FOut w R s bnd b i r0 W0) (hi : i < r0.length) (ha : a < alen (wordAt r0 i)) (hk : k ≤ R.length) (h : rowPre R bnd i r0 (wordAt r0 i) a k = none) : rowOf R s bnd = none := by
  have hn := inner_prefix_none (pre_prefix R (wordAt r0 i) ha hk) h
  have h1 := h0.len
  rw [h0.goes, show bnd - i = (bnd - (i + 1)) + 1 by omega, outerR, if_pos hi, hn]; rfl
theorem FOut.done {w W0 : World} {R : List Rul} {s : Wd} {bnd b i : Nat} {r0 : List Ent} (h0 : FOut w R s bnd b i r0 W0) (hi : ¬ i < r0.length) : rowOf R s bnd = some r0 := by
  rw [h0.goes]
  cases hf : bnd - i with
  | zero => rfl
  | succ f => rw [outerR, if_neg hi]
set_option maxRecDepth 100000 in
theorem rfind_bad (w : World) (la : Option Addr) (n cap : Nat) (s : ByteArray) (b : Int) (hs : s.size ≤ 140737488355328) (hn : n ≤ maxLen) (h : askErr (mayB s.data.toList) b n ≠ 0) :
    Calls Tryz.prog 51 #[.slice la n cap, .string s, .int .i64 b] w (FindBad w (askErr (mayB s.data.toList) b n)) := by
  have MAY := Lib.hid (rmay_any w s hs)
  generalize hk : askErr (mayB s.data.toList) b n = k at *
  have HK := Lib.hid hk
  have H := Lib.hid h
  clear h hk
  unfold maxLen at hn
  cases hm : mayB s.data.toList with
  | false =>
    rw [hm] at MAY HK
    obtain rfl : k = 2 := HK.out.symm
    clear hm
    go_enter Tryz.func51, Tryz.ntmps51
    go_wp2_with fail
    (with_reducible refine (MAY.out).mono ?_)
    rintro e w1 ⟨rfl, k1⟩
    go_wp2
    go_ret2
    exact ⟨rfl, k1⟩
  | true =>
    rw [hm] at MAY HK
    clear hm
    by_cases h1 : b < 1
    · have g1 : decide (b < 1) = true := by rw [decide_eq_true_iff]; exact h1
      obtain rfl : k = 1 := by rw [← HK.out]; simp [askErr, h1]
      clear h1
      go_enter Tryz.func51, Tryz.ntmps51
      go_wp2_with fail
      (with_reducible refine (MAY.out).mono ?_)
      rintro e w1 ⟨rfl, k1⟩
      go_wp2
      go_ret2
      exact ⟨rfl, k1⟩
    · have g1 : decide (b < 1) = false := by rw [decide_eq_false_iff_not]; exact h1
      by_cases h2 : 5000 < b
      · have g2 : decide (5000 < b) = true := by rw [decide_eq_true_iff]; exact h2
        obtain rfl : k = 1 := by rw [← HK.out]; simp [askErr, h2]
        clear h1 h2
        go_enter Tryz.func51, Tryz.ntmps51
        go_wp2_with fail
        (with_reducible refine (MAY.out).mono ?_)
        rintro e w1 ⟨rfl, k1⟩
        go_wp2
        go_ret2
        exact ⟨rfl, k1⟩
      · have g2 : decide (5000 < b) = false := by rw [decide_eq_false_iff_not]; exact h2
        have h3 : 400 < n := by
          by_cases h3 : 400 < n
          · exact h3
          · exact absurd (by rw [← HK.out]; simp [askErr, h1, h2, h3]) H.out
        have g3 : decide (400 < n) = true := by rw [decide_eq_true_iff]; exact h3
        have g4 : decide ((400 : Int) < (n : Int)) = true := by rw [decide_eq_true_iff]; omega
        obtain rfl : k = 3 := by rw [← HK.out]; simp [askErr, h1, h2, h3]
        clear h1 h2
        go_enter Tryz.func51, Tryz.ntmps51
        go_wp2_with fail
        (with_reducible refine (MAY.out).mono ?_)
        rintro e w1 ⟨rfl, k1⟩
        go_wp2
        go_ret2
        exact ⟨rfl, k1⟩
theorem rowF_start (w : World) (base : Nat) (s : ByteArray) (hb : base ≤ w.heap.size) : FRow ((((w.alloc (.cells #[.string s] 24)).alloc (.cells #[.int .i64 (-1)] 3)).alloc (.cells #[.int .i64 0, .int .i64 0] 45)).alloc (.cells #[.slice (some ⟨w.heap.size, 0, none⟩) 1 1, .slice (some ⟨w.heap.size + 1, 0, none⟩) 1 1, .slice (some ⟨w.heap.size + 1 + 1, 0, none⟩) 1 1] 122)) base (w.heap.size + 1 + 1 + 1) (.slice (some ⟨w.heap.size, 0, none⟩) 1 1) (.slice (some ⟨w.heap.size + 1, 0, none⟩) 1 1) (.slice (some ⟨w.heap.size + 1 + 1, 0, none⟩) 1 1) (startR s.data.toList) (startR s.data.toList) (startR s.data.toList) := by
  have e0 : (w.alloc (.cells #[.string s] 24)).heap.size = w.heap.size + 1 := by simp
  have e1 : ((w.alloc (.cells #[.string s] 24)).alloc (.cells #[.int .i64 (-1)] 3)).heap.size = w.heap.size + 1 + 1 := by simp
  have e2 : (((w.alloc (.cells #[.string s] 24)).alloc (.cells #[.int .i64 (-1)] 3)).alloc (.cells #[.int .i64 0, .int .i64 0] 45)).heap.size = w.heap.size + 1 + 1 + 1 := by simp
  refine ⟨?_, ?_, ?_, ?_, by omega⟩
  · have := obj_alloc_new (((w.alloc (.cells #[.string s] 24)).alloc (.cells #[.int .i64 (-1)] 3)).alloc (.cells #[.int .i64 0, .int .i64 0] 45)) (.cells #[.slice (some ⟨w.heap.size, 0, none⟩) 1 1, .slice (some ⟨w.heap.size + 1, 0, none⟩) 1 1, .slice (some ⟨w.heap.size + 1 + 1, 0, none⟩) 1 1] 122)
    rw [e2] at this
    exact this
  · have := World.ownsRow_lit (base := base) (e := 24) (size := 1) w #[.string s] 1 hb (by unfold maxLen; omega) rfl
    have h2 : rwCells (startR s.data.toList) = [.string s] := by simp [rwCells, startR, bar_of]
    rw [h2]
    exact ((this.alloc _).alloc _).alloc _
  · have := World.ownsRow_lit (base := base) (e := 3) (size := 1) (w.alloc (.cells #[.string s] 24)) #[.int .i64 (-1)] 1 (by omega) (by unfold maxLen; omega) rfl
    rw [e0] at this
    exact (this.alloc _).alloc _
  · have := World.ownsRow_lit (base := base) (e := 45) (size := 2) ((w.alloc (.cells #[.string s] 24)).alloc (.cells #[.int .i64 (-1)] 3)) #[.int .i64 0, .int .i64 0] 1 (by omega) (by unfold maxLen; omega) rfl
    rw [e1] at this
    exact this.alloc _
theorem Tryz.sizeSteps : (Tryz.prog.info? 28).map (·.size) = some 1 := by kernel_rfl
theorem useV_shape (o : Option Wd) : ∃ ux ox, useV o = .tuple #[.string ux, .bool ox] := by
  cases o <;> exact ⟨_, _, rfl⟩
set_option maxHeartbeats 4000000 in
set_option maxRecDepth 100000 in
theorem rfind_row (w : World) (v : Value) (R : List BRul) (s : ByteArray) (bnd : Nat) (hv : RulesAt w v (· < w.heap.size) R) (h47 : Fit47 R) (hR : R.length ≤ 400) (hmay : mayB s.data.toList = true) (h1 : 1 ≤ bnd) (h2 : bnd ≤ 5000) :
    Calls Tryz.prog 51 #[v, .string s, .int .i64 (bnd : Int)] w (FindRes w (rowOf (R.map brul) s.data.toList bnd)) := by
  have HV := Lib.hid hv
  have H47 := Lib.hid h47
  obtain ⟨la, cap, rfl, hl0, _⟩ := hv
  have hs8 := may_size hmay
  have MAY := Lib.hid (rmay_any w s (by omega))
  rw [hmay] at MAY
  have HMAY := Lib.hid hmay
  clear hmay h47
  have g1 : decide ((bnd : Int) < 1) = false := by rw [decide_eq_false_iff_not]; omega
  have g2 : decide ((5000 : Int) < (bnd : Int)) = false := by rw [decide_eq_false_iff_not]; omega
  have g3 : decide (400 < R.length) = false := by rw [decide_eq_false_iff_not]; omega
  have g4 : decide ((400 : Int) < (R.length : Int)) = false := by rw [decide_eq_false_iff_not]; omega
  go_enter Tryz.func51, Tryz.ntmps51
  go_wp2_with fail
  (with_reducible refine (MAY.out).mono ?_)
  rintro e w1 ⟨rfl, k1⟩
  have K1 := Lib.hid k1
  clear k1 MAY
  go_wp2
  have r2 := rowF_start w1 w.heap.size s K1.out.size
  have k2 := ((((chg_alloc (fun _ => False) w1 (.cells #[.string s] 24)).alloc (.cells #[.int .i64 (-1)] 3)).alloc (.cells #[.int .i64 0, .int .i64 0] 45)).alloc (.cells #[.slice (some ⟨w1.heap.size, 0, none⟩) 1 1, .slice (some ⟨w1.heap.size + 1, 0, none⟩) 1 1, .slice (some ⟨w1.heap.size + 1 + 1, 0, none⟩) 1 1] 122))
  have R2 := Lib.hid r2
  have K2 := Lib.hid (K1.out.trans k2)
  clear r2 k2
  generalize (((w1.alloc (.cells #[.string s] 24)).alloc (.cells #[.int .i64 (-1)] 3)).alloc (.cells #[.int .i64 0, .int .i64 0] 45)).alloc (.cells #[.slice (some ⟨w1.heap.size, 0, none⟩) 1 1, .slice (some ⟨w1.heap.size + 1, 0, none⟩) 1 1, .slice (some ⟨w1.heap.size + 1 + 1, 0, none⟩) 1 1] 122) = w2 at *
  generalize w1.heap.size + 1 + 1 + 1 = bb at *
  go_loopw [9] (fun iv wr => ∃ (i : Nat) (r : List Ent), iv = .int .i64 i ∧ Hid (FOut w (R.map brul) s.data.toList bnd bb i r wr)) (fun iv _ => bnd + 1 - (intOf iv).toNat)
  case atStart =>
    refine ⟨0, startR s.data.toList, rfl, Lib.hid ⟨⟨_, _, _, R2.out⟩, rfl, by omega, by simpa [startR] using h1, by simp [startR, wordsR], fun u hu => ?_, K2.out⟩⟩
    simp [startR, wordsR] at hu
    subst hu
    exact HMAY.out
  case round =>
    obtain ⟨i, r0, rfl, HO⟩ := hrel
    obtain ⟨lv0, fv0, bv0, hrow⟩ := HO.out.row
    obtain ⟨la0, lc0, rfl⟩ := own_shape hrow.hl
    have c0 : wr.cell? ⟨bb, 0, none⟩ = some (.slice la0 r0.length lc0) := cell_of hrow.hb rfl
    have hile := HO.out.le
    have hlen := HO.out.len
    by_cases hi : i < r0.length
    · go_wp2
      obtain ⟨w0, hw0⟩ : ∃ w0, w0 = wr := ⟨_, rfl⟩
      have HO0 := Lib.hid (show FOut w (R.map brul) s.data.toList bnd bb i r0 w0 by rw [hw0]; exact HO.out)
      have hmu := HO.out.may _ (wordAt_mem hi)
      have ROW := Lib.hid hrow
      have hub : (bar (wordAt r0 i)).size = 2 * alen (wordAt r0 i) := by
        have := may_size (a := bar (wordAt r0 i)) (by rw [bar_list]; exact hmu)
        have e := size_list (bar (wordAt r0 i))
        rw [bar_list] at e
        unfold alen; omega
      have hul : alen (wordAt r0 i) ≤ 8 := ((mayB_iff _).1 hmu).2.2.1
      have q2 : (((bar (wordAt r0 i)).size : Int) / 2) = ((alen (wordAt r0 i) : Nat) : Int) := by omega
      have HMU := Lib.hid hmu
      have HUB := Lib.hid hub
      clear hmu hub hw0 hrow
      go_loopw [10] (fun av wr => ∃ (a : Nat) (r : List Ent), av = .int .i64 a ∧ a ≤ alen (wordAt r0 i) ∧ Hid (FIn w (R.map brul) bnd bb i r0 a 0 r wr)) (fun av _ => 9 - (intOf av).toNat)
      case atStart => exact ⟨0, r0, rfl, by omega, Lib.hid ⟨HO.out.row, rowPre_zero _ _ _ _ _, HO.out.chg⟩⟩
      case round =>
        obtain ⟨a, r1, rfl, hale, HA⟩ := hrel
        obtain ⟨f1, f2, f3⟩ := HA.out.facts HO0.out hi
        obtain ⟨lv1, fv1, bv1, hrow1⟩ := HA.out.row
        obtain ⟨la1, lc1, rfl⟩ := own_shape hrow1.hl
        obtain ⟨gl1, rfl, cw1⟩ := frow_word hrow1 f2
        rw [f3] at cw1
        have cb1 : wr.cell? ⟨bb, 0, none⟩ = some (.slice (some ⟨gl1, 0, none⟩) r1.length lc1) := cell_of hrow1.hb rfl
        clear hrow1 c0
        by_cases ha : a < alen (wordAt r0 i)
        · go_wp2
          clear cw1 cb1
          go_loopw [11] (fun kv wr => ∃ (k : Nat) (r : List Ent), kv = .int .i64 k ∧ k ≤ R.length ∧ Hid (FIn w (R.map brul) bnd bb i r0 a k r wr)) (fun kv _ => R.length - (intOf kv).toNat)
          case atStart => exact ⟨0, r1, rfl, by omega, HA⟩
          case round =>
            obtain ⟨k, r, rfl, hkle, HK⟩ := hrel
            by_cases hk : k < R.length
            · obtain ⟨e1, e2, e3⟩ := HK.out.facts HO0.out hi
              obtain ⟨lv, fv, bv, hrow⟩ := HK.out.row
              obtain ⟨laa, lac, rfl⟩ := own_shape hrow.hl
              obtain ⟨lfa, lfc, rfl⟩ := own_shape hrow.hf
              obtain ⟨lba, lbc, rfl⟩ := own_shape hrow.hs
              obtain ⟨gl, rfl, _⟩ := frow_word hrow e2
              have ka := chg_alloc (fun _ => False) wr (.cells #[.int .i64 (a : Int), .int .i64 (k : Int)] 45)
              have oa := obj_alloc_new wr (.cells #[.int .i64 (a : Int), .int .i64 (k : Int)] 45)
              have KA := Lib.hid (HK.out.chg.trans ka)
              have ra := FRow.chg hrow ka (fun _ _ e => e)
              have hgw : wr.heap.size < (wr.alloc (.cells #[.int .i64 (a : Int), .int .i64 (k : Int)] 45)).heap.size := by simp
              have PRE := Lib.hid HK.out.pre
              have hbase : w.heap.size ≤ wr.heap.size := HK.out.chg.size
              have LT := Lib.hid (And.intro (fun x hx => (hrow.hl.lt x hx).2) (And.intro (fun x hx => (hrow.hf.lt x hx).2) (And.intro (fun x hx => (hrow.hs.lt x hx).2) (lt_of_obj hrow.hb))))
              clear hrow ka
              go_wp2_with fail
              generalize wr.alloc (.cells #[.int .i64 (a : Int), .int .i64 (k : Int)] 45) = wa at *
              obtain ⟨gl', egl, cw⟩ := frow_word ra e2
              cases egl
              rw [e3] at cw
              have cb : wa.cell? ⟨bb, 0, none⟩ = some (.slice (some ⟨gl, 0, none⟩) r.length lac) := cell_of ra.hb rfl
              have s0 : wa.cell? ⟨wr.heap.size, 0, none⟩ = some (.int .i64 (a : Int)) := cell_of oa rfl
              have s1 : wa.cell? ⟨wr.heap.size, 1, none⟩ = some (.int .i64 (k : Int)) := cell_of oa rfl
              have RA := Lib.hid ra
              have OA := Lib.hid oa
              have USE := Lib.hid (ruse_any wa.drew _ R (bar (wordAt r0 i)) (a : Int) (k : Int) (rules_up HV.out (KA.out.drew)) H47.out (by rw [bar_list]; exact HMU.out) (by omega))
              rw [bar_list] at USE
              obtain ⟨ux, ox, hux⟩ := useV_shape (stepI (R.map brul) (wordAt r0 i) ((a : Int), (k : Int)))
              rw [hux] at USE
              have HUX := Lib.hid hux
              clear ra oa hux
              refine wp_region_plan (N := 124) [.rd [0, 1, 2, 3, 4, 5, 6, 7, 8], .ef 9, .rd [10, 11, 12, 13, 14]] (fun w' => w'.cell? ⟨bb, 0, none⟩ = some (.slice (some ⟨gl, 0, none⟩) r.length lac) ∧ w'.cell? ⟨gl, i, none⟩ = some (.string (bar (wordAt r0 i))) ∧ w'.cell? ⟨wr.heap.size, 0, none⟩ = some (.int .i64 (a : Int)) ∧ w'.cell? ⟨wr.heap.size, 1, none⟩ = some (.int .i64 (k : Int))) (by kernel_rfl) (by kernel_rfl) (by kernel_rfl) (by kernel_rfl) (Nat.le_of_ble_eq_true rfl) ⟨cb, cw, s0, s1⟩ ?_
              refine plan_rd (A := ?A1) ?h11 ?h12
              case h11 =>
                rintro w' ⟨q0, q1, q2, q3⟩ K hK
                simp only [opsAt, List.filterMap_cons, List.filterMap_nil, List.getElem?_toArray, List.getElem?_cons_succ, List.getElem?_cons_zero]
                repeat still_step
                refine wpStill_nil ?_
                exact hK
              have kd := chg_drew (fun _ => False) wa
              have RD := Lib.hid (FRow.chg RA.out kd (fun _ _ e => e))
              have OD := Lib.hid (kd.obj (fun e => e) OA.out)
              have KD := Lib.hid (KA.out.drew)
              have hgd : wr.heap.size < wa.drew.heap.size := hgw
              have cw2 : wa.drew.cell? ⟨gl, i, none⟩ = some (.string (bar (wordAt r0 i))) := cw
              clear cw cb s0 s1 kd RA OA KA
              generalize wa.drew = wd at *
              refine plan_ef rfl ?_
              go_wp2_with fail
              (with_reducible refine (USE.out).mono ?_)
              rintro e w3 ⟨rfl, k3⟩
              have r3 := FRow.chg RD.out k3 (fun _ _ e => e)
              have c3 : w3.cell? ⟨bb, 0, none⟩ = some (.slice (some ⟨gl, 0, none⟩) r.length lac) := cell_of r3.hb rfl
              have K3 := Lib.hid (KD.out.trans k3)
              have R3 := Lib.hid r3
              have O3 := Lib.hid (k3.obj (fun e => e) OD.out)
              have cw3 := cell_chg k3 (fun e => e) cw2
              have hg3 : w.heap.size ≤ w3.heap.size := K3.out.size
              have hgd3 : wr.heap.size < w3.heap.size := Nat.lt_of_lt_of_le hgd k3.size
              clear k3 r3 RD OD KD cw2
              go_wp2_with fail
              refine ⟨⟨c3, cw3, cell_of O3.out rfl, cell_of O3.out rfl⟩, ?_⟩
              refine plan_rd (A := ?A2) ?h13 ?h14
              case h13 =>
                intro w' hS K hK
                clear hS
                simp only [opsAt, List.filterMap_cons, List.filterMap_nil, List.getElem?_toArray, List.getElem?_cons_succ, List.getElem?_cons_zero]
                repeat still_step
                refine wpStill_nil ?_
                exact hK
              refine plan_nil ?_
              clear cw3
              cases hst : stepI (R.map brul) (wordAt r0 i) ((a : Int), (k : Int)) with
              | none =>
                rw [hst] at HUX
                obtain ⟨rfl, rfl⟩ : ux = ⟨#[]⟩ ∧ ox = false := by have := HUX.out; unfold useV at this; simp at this; exact ⟨this.1.symm, this.2⟩
                have NX := Lib.hid (show rowPre (R.map brul) bnd i r0 (wordAt r0 i) a (k + 1) = some r by rw [rowPre_no (by rw [List.length_map]; exact hk) ha hst]; exact PRE.out)
                have NN := Lib.hid (show FIn w (R.map brul) bnd bb i r0 a (k + 1) r w3 from ⟨⟨_, _, _, R3.out⟩, NX.out, K3.out⟩)
                clear hst
                go_wp2
                go_roundw
                case rel => exact ⟨k + 1, r, by go_num, by omega, NN⟩
                case measure => simp [intOf]; omega
              | some v =>
                rw [hst] at HUX
                obtain ⟨rfl, rfl⟩ : ux = bar v ∧ ox = true := by have := HUX.out; unfold useV at this; simp at this; exact ⟨this.1.symm, this.2⟩
                have YES := Lib.hid (rowPre_yes (b := bnd) (i := i) (r := r0) (by rw [List.length_map]; exact hk) ha hst PRE.out)
                have SMAY := Lib.hid (stepI_may HMU.out hst)
                clear hst
                have PL := Lib.hid (rplace_any w3 w.heap.size bb _ _ _ r r r (bar v) R3.out (by omega))
                rw [bar_list] at PL
                by_cases hin : v ∈ wordsR r
                · have NX := Lib.hid (show rowPre (R.map brul) bnd i r0 (wordAt r0 i) a (k + 1) = some r by rw [YES.out, if_pos hin])
                  have NN := Lib.hid (show FIn w (R.map brul) bnd bb i r0 a (k + 1) r w3 from ⟨⟨_, _, _, R3.out⟩, NX.out, K3.out⟩)
                  rw [show placeI r v = (((wordsR r).idxOf v : Nat) : Int) from if_pos hin] at PL
                  clear hin
                  generalize (wordsR r).idxOf v = ix at *
                  go_wp2_with fail
                  (with_reducible refine (PL.out).mono ?_)
                  rintro e w4 ⟨rfl, rfl⟩
                  go_wp2
                  go_roundw
                  case rel => exact ⟨k + 1, r, by go_num, by omega, NN⟩
                  case measure => simp [intOf]; omega
                · rw [show placeI r v = -1 from if_neg hin] at PL
                  by_cases hbl : r.length = bnd
                  · have NX := Lib.hid (show rowOf (R.map brul) s.data.toList bnd = none from HO0.out.over (k := k + 1) hi ha (by rw [List.length_map]; omega) (by rw [YES.out, if_neg hin, if_pos hbl]))
                    have g5 : ((r.length : Int) == (bnd : Int)) = true := by rw [beq_iff_eq]; omega
                    clear hin hbl
                    go_wp2_with fail
                    (with_reducible refine (PL.out).mono ?_)
                    rintro e w4 ⟨rfl, rfl⟩
                    go_wp2
                    go_ret2
                    refine ⟨fun r hr => ?_, fun _ => ⟨rfl, K3.out⟩⟩
                    rw [NX.out] at hr; cases hr
                  · have NX := Lib.hid (show rowPre (R.map brul) bnd i r0 (wordAt r0 i) a (k + 1) = some (r ++ [(v, ((i : Int), (a, k)))]) by rw [YES.out, if_neg hin, if_neg hbl])
                    have g5 : ((r.length : Int) == (bnd : Int)) = false := by rw [beq_eq_false_iff_ne]; omega
                    clear hin hbl
                    go_wp2_with fail
                    (with_reducible refine (PL.out).mono ?_)
                    rintro e w4 ⟨rfl, rfl⟩
                    go_wp2_with (at_builtin; refine wpList_pushN rfl (.tmp 97) (.tmp 99) 57 rfl 24 1 16 Tryz.underlying57 Tryz.elemWord w.heap.size _ _ _ rfl (R3.out.hl.alloc _) _ 1 [.string (bar v)] 24 (0, 0) rfl (obj_alloc_new _ _) rfl ?x1 ?x2 ?x3 ?x4 ?nx1)
                    case x1 => intro u hu; simp at hu; subst hu; rfl
                    case x2 => omega
                    case x3 => unfold maxLen; omega
                    case x4 => simp; omega
                    intro v4 w4 o4 g4
                    have r3a := FRow.chg R3.out (chg_alloc (fun _ => False) w3 (.cells #[.string (bar v)] 24)) (fun _ _ e => e)
                    have r4 := FRow.stepL (e := (v, ((i : Int), (a, k)))) r3a g4 o4
                    have h4b := (Chg.of_grown g4).obj (fun q => by have := own_ty r3a.hl q r3a.hb; cases this) r3a.hb
                    have c4 : w4.cell? ⟨bb, 0, none⟩ = some (.slice (some ⟨gl, 0, none⟩) r.length lac) := cell_of h4b rfl
                    have z4 : w4.frozen? ⟨bb, 0, none⟩ = false := frozen_of h4b
                    obtain ⟨a4, cp4, rfl⟩ := own_shape o4
                    have d4 : (w4.setCell ⟨bb, 0, none⟩ (.slice a4 (r.length + 1) cp4)).cell? ⟨bb, 1, none⟩ = some (.slice lfa r.length lfc) := cell_of r4.hb rfl
                    have k4 : Chg (fun x => w.heap.size ≤ x ∧ x < wr.heap.size) w3 (w4.setCell ⟨bb, 0, none⟩ (.slice a4 (r.length + 1) cp4)) := (((chg_alloc _ w3 (.cells #[.string (bar v)] 24)).grown g4 (fun x hx _ => ⟨(r3a.hl.lt x hx).1, LT.out.1 x hx⟩)).setCell (p := ⟨bb, 0, none⟩) (fun _ => ⟨R3.out.bb, LT.out.2.2.2⟩) _)
                    have R4 := Lib.hid r4
                    have O4 := Lib.hid (k4.obj (k := wr.heap.size) (fun q => by omega) O3.out)
                    have K4 := Lib.hid (show Chg (fun _ => False) w (w4.setCell ⟨bb, 0, none⟩ (.slice a4 (r.length + 1) cp4)) from K3.out.next k4 (fun x hx e => by have := e.1; omega))
                    have hg4 : w.heap.size ≤ (w4.setCell ⟨bb, 0, none⟩ (.slice a4 (r.length + 1) cp4)).heap.size := K4.out.size
                    have N4 := Lib.hid (show ((w4.setCell ⟨bb, 0, none⟩ (.slice a4 (r.length + 1) cp4)).alloc (.cells #[.int .i64 (i : Int)] 3)).heap[w4.heap.size]? = some (.cells #[.int .i64 (i : Int)] 3 (0, 0)) by
                      have hz : (w4.setCell ⟨bb, 0, none⟩ (.slice a4 (r.length + 1) cp4)).heap.size = w4.heap.size := by simp [World.setCell]
                      rw [← hz]; exact obj_alloc_new _ _)
                    clear r3a r4 h4b g4 o4 k4 R3 O3 K3
                    go_wp2_with (at_builtin; refine wpList_pushN rfl (.tmp 107) (.tmp 109) 48 rfl 3 1 8 Tryz.underlying48 Tryz.elemInt w.heap.size _ _ _ rfl (R4.out.hf.alloc _) _ 1 [.int .i64 (i : Int)] 3 (0, 0) rfl N4.out rfl ?y1 ?y2 ?y3 ?y4 ?nx2)
                    case y1 => intro u hu; simp at hu; subst hu; rfl
                    case y2 => omega
                    case y3 => unfold maxLen; omega
                    case y4 => exact Nat.le_trans hg4 (by simp)
                    intro v5 w5 o5 g5
                    generalize w4.setCell ⟨bb, 0, none⟩ (.slice a4 (r.length + 1) cp4) = w4' at *
                    have r4a := FRow.chg R4.out (chg_alloc (fun _ => False) w4' (.cells #[.int .i64 (i : Int)] 3)) (fun _ _ e => e)
                    have r5 := FRow.stepF (e := (v, ((i : Int), (a, k)))) r4a g5 o5
                    have h5b := (Chg.of_grown g5).obj (fun q => by have := own_ty r4a.hf q r4a.hb; cases this) r4a.hb
                    have c5 : w5.cell? ⟨bb, 1, none⟩ = some (.slice lfa r.length lfc) := cell_of h5b rfl
                    have z5 : w5.frozen? ⟨bb, 1, none⟩ = false := frozen_of h5b
                    obtain ⟨a5, cp5, rfl⟩ := own_shape o5
                    have k5 : Chg (fun x => w.heap.size ≤ x ∧ x < wr.heap.size) w4' (w5.setCell ⟨bb, 1, none⟩ (.slice a5 (r.length + 1) cp5)) := (((chg_alloc _ w4' (.cells #[.int .i64 (i : Int)] 3)).grown g5 (fun x hx _ => ⟨(r4a.hf.lt x hx).1, LT.out.2.1 x hx⟩)).setCell (p := ⟨bb, 1, none⟩) (fun _ => ⟨R4.out.bb, LT.out.2.2.2⟩) _)
                    have R5 := Lib.hid r5
                    have O5 := Lib.hid (k5.obj (k := wr.heap.size) (fun q => by omega) O4.out)
                    have K5 := Lib.hid (show Chg (fun _ => False) w (w5.setCell ⟨bb, 1, none⟩ (.slice a5 (r.length + 1) cp5)) from K4.out.next k5 (fun x hx e => by have := e.1; omega))
                    clear r4a r5 h5b g5 o5 k5 R4 O4 K4 c4 z4 d4 c3
                    go_wp2_with fail
                    generalize w5.setCell ⟨bb, 1, none⟩ (.slice a5 (r.length + 1) cp5) = w5' at *
                    have d5 : w5'.cell? ⟨bb, 2, none⟩ = some (.slice lba r.length lbc) := cell_of R5.out.hb rfl
                    have s5 : w5'.cell? ⟨wr.heap.size, 0, none⟩ = some (.int .i64 (a : Int)) := cell_of O5.out rfl
                    have s6 : w5'.cell? ⟨wr.heap.size, 1, none⟩ = some (.int .i64 (k : Int)) := cell_of O5.out rfl
                    clear c5 z5
                    refine wp_region_planL (N := 124) [.rd [0, 1, 2, 3, 4, 5], .ef 6, .ef 7, .ef 8, .ef 9, .ef 10] 10 (fun w' => w'.cell? ⟨bb, 2, none⟩ = some (.slice lba r.length lbc) ∧ w'.cell? ⟨wr.heap.size, 0, none⟩ = some (.int .i64 (a : Int)) ∧ w'.cell? ⟨wr.heap.size, 1, none⟩ = some (.int .i64 (k : Int))) (by kernel_rfl) (by kernel_rfl) (by kernel_rfl) (by kernel_rfl) (by kernel_rfl) (Nat.le_of_ble_eq_true rfl) ⟨d5, s5, s6⟩ ?_
                    refine planL_rd (A := ?A3) ?h15 ?h16
                    case h15 =>
                      rintro w' ⟨q0, q1, q2⟩ K hK
                      simp only [opsAt, List.filterMap_cons, List.filterMap_nil, List.getElem?_toArray, List.getElem?_cons_succ, List.getElem?_cons_zero]
                      repeat still_step
                      refine wpStill_nil ?_
                      exact hK
                    refine planL_ef rfl ?_
                    go_wp2_with fail
                    have kb := (chg_drew (fun _ => False) w5').alloc (.cells #[.int .i64 (a : Int), .int .i64 (k : Int)] 45)
                    refine ⟨by first | exact .inr ⟨cell_chg kb (fun e => e) d5, cell_chg kb (fun e => e) s5, cell_chg kb (fun e => e) s6⟩ | exact ⟨cell_chg kb (fun e => e) d5, cell_chg kb (fun e => e) s5, cell_chg kb (fun e => e) s6⟩, ?_⟩
                    refine planL_ef rfl ?_
                    have r6 := FRow.chg R5.out kb (fun _ _ e => e)
                    refine wpList_pushN rfl (.tmp 117) (.tmp 119) 28 rfl 45 2 16 Tryz.underlying28 Tryz.elemStep w.heap.size _ _ _ rfl r6.hs _ 1 [.int .i64 (a : Int), .int .i64 (k : Int)] 45 (0, 0) rfl (obj_alloc_new _ _) rfl (by intro u hu; simp at hu; rcases hu with rfl | rfl <;> rfl) (by omega) (by unfold maxLen; omega) (by have := K5.out.size; simp; omega) ?_
                    intro v7 w7 o7 g7
                    have r7 := FRow.stepS (e := (v, ((i : Int), (a, k)))) r6 g7 o7
                    have h7b := (Chg.of_grown g7).obj (fun q => by have := own_ty r6.hs q r6.hb; cases this) r6.hb
                    have c7 : w7.cell? ⟨bb, 2, none⟩ = some (.slice lba r.length lbc) := cell_of h7b rfl
                    have z7 : w7.frozen? ⟨bb, 2, none⟩ = false := frozen_of h7b
                    have o7s := (Chg.of_grown g7).obj (k := wr.heap.size) (fun q => by have := LT.out.2.2.1 _ q; omega) (kb.obj (fun e => e) O5.out)
                    have t5 : w7.cell? ⟨wr.heap.size, 0, none⟩ = some (.int .i64 (a : Int)) := cell_of o7s rfl
                    have t6 : w7.cell? ⟨wr.heap.size, 1, none⟩ = some (.int .i64 (k : Int)) := cell_of o7s rfl
                    obtain ⟨a7, cp7, rfl⟩ := own_shape o7
                    have k7 : Chg (fun x => w.heap.size ≤ x) w5' (w7.setCell ⟨bb, 2, none⟩ (.slice a7 (r.length + 1) cp7)) := ((kb.mono (fun _ _ e => e.elim)).grown g7 (fun x hx _ => (r6.hs.lt x hx).1)).setCell (p := ⟨bb, 2, none⟩) (fun _ => R5.out.bb) _
                    have R7 := Lib.hid r7
                    have K7 := Lib.hid (show Chg (fun _ => False) w (w7.setCell ⟨bb, 2, none⟩ (.slice a7 (r.length + 1) cp7)) from K5.out.next k7 (fun x hx e => by omega))
                    clear r6 r7 h7b o7s o7 g7 k7 kb d5 s5 s6 R5 O5 K5
                    go_wp2_with fail
                    refine ⟨by first | exact .inr ⟨c7, t5, t6⟩ | exact ⟨c7, t5, t6⟩, ?_⟩
                    refine planL_ef rfl ?_
                    go_wp2_with fail
                    refine ⟨by first | exact .inr ⟨c7, t5, t6⟩ | exact ⟨c7, t5, t6⟩, ?_⟩
                    refine planL_ef rfl ?_
                    go_wp2_with fail
                    refine ⟨by first | exact .inr ⟨c7, t5, t6⟩ | exact ⟨c7, t5, t6⟩, ?_⟩
                    refine planL_ef rfl ?_
                    refine wpList_store_one rfl 28 (.tmp 122) (.tmp 120) rfl bb 2 rfl (.slice a7 (r.length + 1) cp7) rfl rfl rfl Tryz.sizeSteps _ c7 z7 ?_
                    intro w8 hw8
                    rw [← hw8] at R7 K7
                    clear hw8 c7 z7 t5 t6
                    refine ⟨.inl rfl, planL_nil ?_⟩
                    have NN := Lib.hid (show FIn w (R.map brul) bnd bb i r0 a (k + 1) (r ++ [(v, ((i : Int), (a, k)))]) w8 from ⟨⟨_, _, _, R7.out⟩, NX.out, K7.out⟩)
                    clear R7 K7
                    go_wp2
                    go_roundw
                    case rel => exact ⟨k + 1, _, by go_num, by omega, NN⟩
                    case measure => simp [intOf]; omega
            · obtain rfl : k = R.length := by omega
              have NX := Lib.hid (show FIn w (R.map brul) bnd bb i r0 (a + 1) 0 r wr from ⟨HK.out.row, by have := HK.out.pre; rw [← List.length_map (f := brul), rowPre_next] at this; exact this, HK.out.chg⟩)
              go_wp2
              go_roundw
              case rel => exact ⟨a + 1, r, by go_num, by omega, NX⟩
              case measure => simp [intOf]; omega
        · obtain rfl : a = alen (wordAt r0 i) := by omega
          have NX := Lib.hid (HO0.out.next hi HA.out)
          go_wp2
          go_roundw
          case rel => exact ⟨i + 1, r1, by go_num, NX⟩
          case measure => simp [intOf]; omega
    · have RES := Lib.hid (HO.out.done hi)
      go_wp2
      go_ret2
      refine ⟨fun r hr => ?_, fun hr => ?_⟩
      · rw [RES.out] at hr
        cases hr
        exact ⟨bb, rfl, HO.out.row, HO.out.chg⟩
      · rw [RES.out] at hr; cases hr
end Go.Proofs.YtjifdfhibkipnaaGreat
