/-
  Package journal: lay, Commit.
-/
import Derived.Test.YtnmgnhhipgiggaaJHead
import Derived.Test.YtnmgnhhipgiggaaPlan
namespace Go.Proofs.Ytnmgnhhipgiggaa
open Go.RowKit

theorem size_list (s : ByteArray) : s.data.toList.length = s.size := by rw [Array.length_toList]; rfl
theorem ext_take (s : ByteArray) (n : Nat) : (s.extract 0 n).data.toList = s.data.toList.take n := by
  simp [ByteArray.data_extract]
theorem ext_drop (s : ByteArray) (n : Nat) : (s.extract n s.size).data.toList = s.data.toList.drop n := by
  have h : s.size = s.data.toList.length := (size_list s).symm
  rw [ByteArray.data_extract, Array.toList_extract, List.extract_eq_take_drop, h, ← List.length_drop, List.take_length]
theorem ext_drop_all (s : ByteArray) : (s.extract s.size s.size).data.toList = [] := by
  simp
set_option maxHeartbeats 1000000 in
theorem lay_any (w : World) (B : DB) (b : Nat) (d : Dev) (j : Jr) (f : Nat) (s : ByteArray) (h : DevAt w B d) (hj : JAt w B b j) (hb : ¬ B.S b) (hf : f ≤ 1) (hs : s.size ≤ (B.n - 1) / 2 * 32) :
    Calls Try.prog 37 #[jptr b, .int .i64 f, .string s] w fun e w' => e = .returned (.int .i64 (d.lay (1 + f * ((B.n - 1) / 2)) s.data.toList).2) ∧ DevAt w' B (d.lay (1 + f * ((B.n - 1) / 2)) s.data.toList).1 ∧ Chg B.S w w' := by
  have n65 := h.ok.hi
  have n3 := h.ok.lo
  have H := Lib.hid h; clear h
  have HJ := Lib.hid hj; clear hj
  have hle : (B.n - 1) / 2 ≤ 32 := by omega
  obtain ⟨m, hm⟩ : ∃ m, (B.n - 1) / 2 = m := ⟨_, rfl⟩
  rw [hm] at hs hle ⊢
  have HM := Lib.hid hm; clear hm
  have hfm : f * m ≤ 32 := by rcases (by omega : f = 0 ∨ f = 1) with rfl | rfl <;> omega
  have FM := Lib.hid (show (f : Int) * (m : Int) = ((f * m : Nat) : Int) by push_cast; rfl)
  unfold jptr
  go_enter Try.func37, Try.ntmps37
  go_wp2
  go_loopw [2, 7] (fun t i wr => ∃ (k : Nat) (s' : ByteArray) (d' : Dev), i = .int .i64 k ∧ t = .string s' ∧ 32 * k + s'.size ≤ m * 32 + 31 ∧ (0 < s'.size → 32 * k + s'.size ≤ m * 32) ∧ Hid (d.lay (1 + f * m) s.data.toList = d'.lay (1 + f * m + k) s'.data.toList) ∧ DevAt wr B d' ∧ Chg B.S w wr) (fun t _ _ => match t with | .string s' => s'.size | _ => 0)
  case atStart => exact ⟨0, s, d, rfl, rfl, by omega, fun _ => by omega, rfl, H.out, Chg.refl _ _⟩
  case round =>
    obtain ⟨k, s', d', rfl, rfl, hk1, hk2, HL, hd, hc⟩ := hrel
    have HD := Lib.hid hd
    have HC := Lib.hid hc
    have JR := Lib.hid (HJ.out.chg hc hb)
    clear hd hc
    have j0 := JR.out.c0
    by_cases h0 : 0 < s'.size
    · have hk3 := hk2 h0
      clear hk2 hk1
      have FST := Lib.hid (first_at wr.drew b B f j0 HD.out.c0 n3 n65 (by omega) (by omega))
      rw [HM.out, FM.out] at FST
      have HDD := Lib.hid (HD.out.chg (chg_drew (fun _ => False) wr) (fun _ _ e => e))
      have EI := Lib.hid (show (1 + (f : Int) * (m : Int) + (k : Int)) = ((1 + f * m + k : Nat) : Int) by push_cast; omega)
      have LU := Lib.hid (lay_pos d' (1 + f * m + k) s'.data.toList (by rw [size_list]; exact h0))
      have Z1 := Lib.hid (ext_take s' 32)
      have Z2 := Lib.hid (ext_drop s' 32)
      have SZ := Lib.hid (size_list s')
      by_cases h32 : s'.size ≤ 32
      · have T32 := Lib.hid (List.take_of_length_le (i := 32) (l := s'.data.toList) (by rw [size_list]; exact h32))
        have D32 := Lib.hid (List.drop_of_length_le (i := 32) (l := s'.data.toList) (by rw [size_list]; exact h32))
        rw [T32.out] at LU
        go_wp2
        refine wp_still_tail_drew 12 (by kernel_rfl) (by kernel_rfl) ?_
        simp only [List.take_succ_cons, List.take_zero, List.drop_succ_cons, List.drop_zero]
        repeat still_step
        still_call (FST.out.mono fun _ _ h => ⟨h.1, h.2.symm⟩)
        repeat still_step
        refine wpStill_nil ?_
        go_wp2_with fail
        rw [EI.out]
        refine (write_any wr.drew B d' _ s' HDD.out (by unfold maxLen; omega)).mono ?_
        rintro e w1 ⟨rfl, d1, k1⟩
        have D1 := Lib.hid d1
        have K1 := Lib.hid k1
        clear d1 k1
        generalize d'.write ((1 + f * m + k : Nat) : Int) s'.data.toList = A at *
        by_cases hr : A.2 = 0
        · rw [if_pos hr, D32.out] at LU
          rw [hr]
          clear hr
          go_wp2
          go_roundw
          case rel =>
            refine ⟨k + 1, _, A.1, by go_num, rfl, ?_, ?_, ?_, D1.out, (HC.out.drew).trans K1.out⟩
            · first | (simp; done) | (simp; omega)
            · intro hx; simp at hx
            · show _ = _
              rw [HL.out, LU.out]; rfl
          case measure => simp; omega
        · rw [if_neg hr] at LU
          have hr1 : (A.2 == 0) = false := by simpa using hr
          have hr2 : (A.2 != 0) = true := by simpa using hr
          clear hr
          go_wp2
          go_ret
          rw [HL.out, LU.out]
          exact ⟨rfl, D1.out, (HC.out.drew).trans K1.out⟩
      · have h33 : 32 ≤ s'.size := by omega
        have h34 : (32 : Int) ≤ s'.size := by omega
        rw [← Z1.out, ← Z2.out] at LU
        go_wp2
        refine wp_still_tail_drew 12 (by kernel_rfl) (by kernel_rfl) ?_
        simp only [List.take_succ_cons, List.take_zero, List.drop_succ_cons, List.drop_zero]
        repeat still_step
        still_call (FST.out.mono fun _ _ h => ⟨h.1, h.2.symm⟩)
        repeat still_step
        refine wpStill_nil ?_
        go_wp2_with fail
        rw [EI.out]
        refine (write_any wr.drew B d' _ (s'.extract 0 32) HDD.out (by unfold maxLen; simp; omega)).mono ?_
        rintro e w1 ⟨rfl, d1, k1⟩
        have D1 := Lib.hid d1
        have K1 := Lib.hid k1
        clear d1 k1
        generalize d'.write ((1 + f * m + k : Nat) : Int) (s'.extract 0 32).data.toList = A at *
        by_cases hr : A.2 = 0
        · rw [if_pos hr] at LU
          rw [hr]
          clear hr
          go_wp2
          go_roundw
          case rel =>
            refine ⟨k + 1, _, A.1, by go_num, rfl, ?_, ?_, ?_, D1.out, (HC.out.drew).trans K1.out⟩
            · simp; omega
            · intro hx; simp; omega
            · show _ = _
              rw [HL.out, LU.out]; rfl
          case measure => simp; omega
        · rw [if_neg hr] at LU
          have hr1 : (A.2 == 0) = false := by simpa using hr
          have hr2 : (A.2 != 0) = true := by simpa using hr
          clear hr
          go_wp2
          go_ret
          rw [HL.out, LU.out]
          exact ⟨rfl, D1.out, (HC.out.drew).trans K1.out⟩
    · have hz : s'.size = 0 := by omega
      have LU := Lib.hid (lay_nil d' (1 + f * m + k) s'.data.toList (by rw [size_list]; exact hz))
      have hd0 : decide (0 < (s'.size : Int)) = false := by rw [decide_eq_false_iff_not]; omega
      clear hz hk1 hk2
      go_wp2_with fail
      refine (barrier_any _ B d' HD.out).mono ?_
      rintro e w1 ⟨rfl, d1, k1⟩
      have D1 := Lib.hid d1
      have K1 := Lib.hid k1
      clear d1 k1
      go_wp2
      go_ret
      rw [HL.out, LU.out]
      exact ⟨rfl, D1.out, HC.out.trans K1.out⟩

set_option maxHeartbeats 1000000 in
theorem commit_any (w : World) (B : DB) (b : Nat) (d : Dev) (j : Jr) (s : ByteArray) (h : DevAt w B d) (hj : JAt w B b j) (hb : ¬ B.S b) (hh : j.half ≤ 1) (hn0 : -9223372036854775808 ≤ j.number) (hn1 : j.number ≤ 9223372036854775807) (hm : s.size ≤ maxLen) :
    Calls Try.prog 14 #[jptr b, .string s] w fun e w' =>
      e = .returned (.int .i64 (commit d j s).2.1) ∧ DevAt w' B (commit d j s).1 ∧ JAt w' B b (commit d j s).2.2 ∧ Chg (fun k => B.S k ∨ k = b) w w' := by
  have n65 := h.ok.hi
  have n3 := h.ok.lo
  have j0 := hj.c0
  have j1 := hj.c1
  have j2 := hj.c2
  have d0 := h.c0
  have H := Lib.hid h
  have HJ := Lib.hid hj
  have hmm : d.m = (B.n - 1) / 2 := by unfold Dev.m; rw [h.ok.lnow]
  clear h hj
  have DEAD := Lib.hid (dead_any w B d H.out)
  have ROOM := Lib.hid (room_at w b B j0 d0 n3 n65)
  unfold jptr
  by_cases hdd : d.dead = true
  · have e : commit d j s = (d, 20, j) := by simp [commit, hdd]
    rw [e]
    rw [hdd] at DEAD
    clear e hdd
    go_enter Try.func14, Try.ntmps14
    go_wp2_with fail
    refine (DEAD.out).mono ?_
    rintro e w' ⟨rfl, rfl⟩
    go_wp2
    go_ret
    exact ⟨rfl, H.out, HJ.out, Chg.refl _ _⟩
  have hdd : d.dead = false := by simpa using hdd
  have HDD := Lib.hid hdd
  rw [hdd] at DEAD
  clear hdd
  have HMM := Lib.hid hmm
  have hle : (B.n - 1) / 2 ≤ 32 := by omega
  obtain ⟨m, hme⟩ : ∃ m, (B.n - 1) / 2 = m := ⟨_, rfl⟩
  rw [hme] at HMM ROOM hle
  have HME := Lib.hid hme
  clear hme hmm
  unfold maxLen at hm
  by_cases hr : m * 32 < s.size
  · have e : commit d j s = (d, 4, j) := by simp [commit, HDD.out, HMM.out, hr]
    rw [e]
    clear e
    go_enter Try.func14, Try.ntmps14
    go_wp2_with fail
    refine (DEAD.out).mono ?_
    rintro e w' ⟨rfl, rfl⟩
    go_wp2_with fail
    refine (ROOM.out).mono ?_
    rintro e w' ⟨rfl, rfl⟩
    go_wp2
    go_ret
    exact ⟨rfl, H.out, HJ.out, Chg.refl _ _⟩
  by_cases hnn : 4611686018427387904 ≤ j.number
  · have e : commit d j s = (d, 3, j) := by simp [commit, HDD.out, HMM.out, hr, hnn]
    rw [e]
    clear e
    go_enter Try.func14, Try.ntmps14
    go_wp2_with fail
    refine (DEAD.out).mono ?_
    rintro e w' ⟨rfl, rfl⟩
    go_wp2_with fail
    refine (ROOM.out).mono ?_
    rintro e w' ⟨rfl, rfl⟩
    go_wp2
    go_ret
    exact ⟨rfl, H.out, HJ.out, Chg.refl _ _⟩
  have LAY := Lib.hid (lay_any w B b d j (1 - j.half) s H.out HJ.out hb (by omega) (by rw [HME.out]; omega))
  rw [HME.out] at LAY
  have CE := Lib.hid (show commit d j s = (let a := d.lay (1 + (1 - j.half) * m) s.data.toList
    if a.2 ≠ 0 then (a.1, a.2, j)
    else
      let b := a.1.write 0 (headBytes (j.number + 1) (1 - j.half) s.size)
      if b.2 ≠ 0 then (b.1, b.2, j)
      else
        let c := b.1.barrier
        if c.2 ≠ 0 then (c.1, c.2, j) else (c.1, 0, ⟨j.number + 1, 1 - j.half, s⟩)) by
    unfold commit; rw [HDD.out, HMM.out, if_neg (by decide), if_neg hr, if_neg hnn])
  generalize hA : d.lay (1 + (1 - j.half) * m) s.data.toList = A at *
  have EH := Lib.hid (show (1 - (j.half : Int)) = ((1 - j.half : Nat) : Int) by omega)
  have hx1 : 1 - j.half ≤ 1 := by omega
  generalize hX : 1 - j.half = X at *
  have HX := Lib.hid hX
  clear hA hX
  go_enter Try.func14, Try.ntmps14
  go_wp2_with fail
  refine (DEAD.out).mono ?_
  rintro e w' ⟨rfl, rfl⟩
  go_wp2_with fail
  refine (ROOM.out).mono ?_
  rintro e w' ⟨rfl, rfl⟩
  go_wp2_with fail
  rw [EH.out]
  refine (LAY.out).mono ?_
  rintro e w1 ⟨rfl, d1, k1⟩
  have D1 := Lib.hid d1
  have K1 := Lib.hid k1
  have J1 := Lib.hid (HJ.out.chg k1 hb)
  clear d1 k1
  by_cases ha : A.2 = 0
  · rw [ha]
    simp only [ha, ne_eq, not_true_eq_false, if_false] at CE
    clear ha
    have q0 := J1.out.c0
    have q1 := J1.out.c1
    have D1' := Lib.hid (D1.out.chg (chg_drew (fun _ => False) w1) (fun _ _ e => e))
    have HL := Lib.hid (headBytes_length (j.number + 1) X s.size)
    have hs2 : s.size ≤ 2000 := by omega
    have WR := Lib.hid (fun w2 (D2 : DevAt w2 B A.1) => (show Calls Try.prog 20 #[B.ptr, .int .i64 0, .string ⟨(headBytes (j.number + 1) X s.size).toArray⟩] w2 fun e w' => e = .returned (.int .i64 (A.1.write 0 (headBytes (j.number + 1) X s.size)).2) ∧ DevAt w' B (A.1.write 0 (headBytes (j.number + 1) X s.size)).1 ∧ Chg B.S w2 w' from
      write_any w2 B A.1 0 _ D2 (by show (headBytes (j.number + 1) X s.size).toArray.size ≤ maxLen; rw [List.size_toArray, HL.out]; unfold maxLen; omega)))
    generalize A.1.write 0 (headBytes (j.number + 1) X s.size) = Bw at *
    have hnn' : j.number < 4611686018427387904 := by omega
    go_wp2
    refine wp_region_plan (N := 80) [.rd [0, 1, 2, 3, 4, 5, 6, 7, 8, 9, 10, 11], .ef 12, .ef 13, .rd [14]] (fun w' => w'.cell? ⟨b, 0, none⟩ = some (.pointer (some ⟨B.b, 0, none⟩)) ∧ w'.cell? ⟨b, 1, none⟩ = some (.int .i64 j.number)) (by kernel_rfl) (by kernel_rfl) (by kernel_rfl) (by kernel_rfl) (Nat.le_of_ble_eq_true rfl) ⟨q0, q1⟩ ?_
    refine plan_rd (A := ?A1) ?h1 ?h2
    case h1 =>
      intro w' hS K hK
      obtain ⟨s0, s1⟩ := hS
      simp only [opsAt, List.filterMap_cons, List.filterMap_nil, List.getElem?_toArray, List.getElem?_cons_succ, List.getElem?_cons_zero]
      repeat still_step
      refine wpStill_nil ?_
      exact hK
    refine plan_ef rfl ?_
    go_wp2_with fail
    refine (head_any _ (j.number + 1) X s.size hx1 hs2).mono ?_
    rintro e w2 ⟨rfl, k2⟩
    have K2 := Lib.hid k2
    have D2 := Lib.hid (D1'.out.chg k2 (fun _ _ e => e))
    have J2 := Lib.hid ((J1.out.chg (chg_drew (fun _ => False) w1) (fun e => e)).chg k2 (fun e => e))
    clear k2
    go_wp2_with fail
    refine ⟨⟨J2.out.c0, J2.out.c1⟩, ?_⟩
    refine plan_ef rfl ?_
    go_wp2_with fail
    refine (WR.out w2 D2.out).mono ?_
    rintro e w3 ⟨rfl, d3, k3⟩
    have D3 := Lib.hid d3
    have K3 := Lib.hid k3
    have J3 := Lib.hid (J2.out.chg k3 hb)
    clear d3 k3
    go_wp2_with fail
    refine ⟨⟨J3.out.c0, J3.out.c1⟩, ?_⟩
    refine plan_rd (A := ?A2) ?h3 ?h4
    case h3 =>
      intro w' hS K hK
      clear hS
      simp only [opsAt, List.filterMap_cons, List.filterMap_nil, List.getElem?_toArray, List.getElem?_cons_succ, List.getElem?_cons_zero]
      repeat still_step
      refine wpStill_nil ?_
      exact hK
    refine plan_nil ?_
    by_cases hbw : Bw.2 = 0
    · rw [hbw]
      simp only [hbw, not_true_eq_false, if_false] at CE
      clear hbw
      have q0' := J3.out.c0
      have BAR := Lib.hid (barrier_any w3 B Bw.1 D3.out)
      generalize Bw.1.barrier = Cb at *
      go_wp2_with fail
      refine (BAR.out).mono ?_
      rintro e w4 ⟨rfl, d4, k4⟩
      have D4 := Lib.hid d4
      have K4 := Lib.hid k4
      have J4 := Lib.hid (J3.out.chg k4 hb)
      clear d4 k4 q0 q1 q0'
      have K5 := Lib.hid (show Chg B.S w w4 from (K1.out.drew).trans ((K2.out.mono (fun _ _ e => e.elim)).trans (K3.out.trans K4.out)))
      by_cases hcb : Cb.2 = 0
      · rw [hcb]
        simp only [hcb, not_true_eq_false, if_false] at CE
        clear hcb
        have r1 := J4.out.c1
        have r2 := J4.out.c2
        have r3 := J4.out.c3
        have f1 : w4.frozen? ⟨b, 1, none⟩ = false := frozen_of J4.out.hb
        have f2 : w4.frozen? ⟨b, 2, none⟩ = false := frozen_of J4.out.hb
        have f3 : w4.frozen? ⟨b, 3, none⟩ = false := frozen_of J4.out.hb
        go_wp2
        go_ret
        rw [CE.out]
        have q := ((chg_cell w4 b 1 (.int .i64 (j.number + 1))).trans (chg_cell _ b 2 (.int .i64 X))).trans (chg_cell _ b 3 (.string s))
        refine ⟨rfl, D4.out.chg q (fun k hk e => hb (e ▸ hk)), ⟨?_⟩, (K5.out.mono (fun k _ h => .inl h)).trans (q.mono (fun k _ h => .inr h))⟩
        rw [obj_setCell (obj_setCell (obj_setCell J4.out.hb _) _) _]; rfl
      · have hcb1 : (Cb.2 == 0) = false := by simpa using hcb
        have hcb2 : (Cb.2 != 0) = true := by simpa using hcb
        simp only [hcb, not_false_eq_true, if_true] at CE
        clear hcb
        go_wp2
        go_ret
        rw [CE.out]
        exact ⟨rfl, D4.out, J4.out, K5.out.mono (fun k _ h => .inl h)⟩
    · have hbw1 : (Bw.2 == 0) = false := by simpa using hbw
      have hbw2 : (Bw.2 != 0) = true := by simpa using hbw
      simp only [hbw, not_false_eq_true, if_true] at CE
      clear hbw
      have K4 := Lib.hid (show Chg B.S w w3 from (K1.out.drew).trans ((K2.out.mono (fun _ _ e => e.elim)).trans K3.out))
      go_wp2
      go_ret
      rw [CE.out]
      exact ⟨rfl, D3.out, J3.out, K4.out.mono (fun k _ h => .inl h)⟩
  · have ha1 : (A.2 == 0) = false := by simpa using ha
    have ha2 : (A.2 != 0) = true := by simpa using ha
    simp only [ne_eq, ha, not_false_eq_true, if_true] at CE
    clear ha
    go_wp2
    go_ret
    rw [CE.out]
    exact ⟨rfl, D1.out, J1.out, K1.out.mono (fun k _ h => .inl h)⟩
end Go.Proofs.Ytnmgnhhipgiggaa
