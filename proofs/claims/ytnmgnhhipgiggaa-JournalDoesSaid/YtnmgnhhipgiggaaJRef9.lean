/-
  The reference of layer 20: Commit.
-/
import Derived.Test.YtnmgnhhipgiggaaJRef8
import Derived.Test.YtnmgnhhipgiggaaJLay
namespace Go.Proofs.Ytnmgnhhipgiggaa
open Go.RowKit

theorem ext_mid (s : ByteArray) (a b : Nat) : (s.extract a b).data.toList = (s.data.toList.drop a).take (b - a) := by
  rw [ByteArray.data_extract, Array.toList_extract, List.extract_eq_take_drop]
theorem wrap_sum (q k : Int) (h0 : 0 ≤ q) (h1 : q ≤ 32) (h2 : 0 ≤ k) (h3 : k ≤ 1000) : wrap64 (wrap64 (1 + wrap64 q) + k) = 1 + q + k := by
  rw [IntWalk.wrap64_in q ⟨by omega, by omega⟩, IntWalk.wrap64_in (1 + q) ⟨by omega, by omega⟩, IntWalk.wrap64_in _ ⟨by omega, by omega⟩]
/-- The rest of Commit, behind the laying. -/
def commitAt (A : Dev × Int) (j : Jr) (X : Nat) (s : ByteArray) : Dev × Int × Jr :=
  if A.2 ≠ 0 then (A.1, A.2, j)
  else
    let b := A.1.write 0 (headBytes (j.number + 1) X s.size)
    if b.2 ≠ 0 then (b.1, b.2, j)
    else
      let c := b.1.barrier
      if c.2 ≠ 0 then (c.1, c.2, j) else (c.1, 0, ⟨j.number + 1, X, s⟩)

set_option maxHeartbeats 4000000 in
set_option maxRecDepth 100000 in
theorem rcommit_any (w : World) (R : RB) (b : Nat) (d : Dev) (j : Jr) (s : ByteArray) (h : RDevAt w R d) (hj : RJAt w R b j) (hb : ¬ R.S b) (hh : j.half ≤ 1) (hn0 : -9223372036854775808 ≤ j.number) (hn1 : j.number ≤ 9223372036854775807) (_hm : s.size ≤ maxLen) :
    Calls Try.prog 15 #[jptr b, .string s] w fun e w' =>
      e = .returned (.int .i64 (commit d j s).2.1) ∧ RDevAt w' R (commit d j s).1 ∧ RJAt w' R b (commit d j s).2.2 ∧ Chg (fun k => R.S k ∨ k = b) w w' := by
  have n65 := h.ok.hi
  have n3 := h.ok.lo
  have j0 := hj.c0
  have j1 := hj.c1
  have j2 := hj.c2
  have d1 := h.c1
  have d4 := h.c4
  have H := Lib.hid h
  have HJ := Lib.hid hj
  have hmm : d.m = (R.n - 1) / 2 := by unfold Dev.m; rw [h.ok.lnow]
  clear h hj
  have ROOM := Lib.hid (rroom_any w R.n (by omega) (by omega))
  have hle : (R.n - 1) / 2 ≤ 32 := by omega
  obtain ⟨m, hme⟩ : ∃ m, (R.n - 1) / 2 = m := ⟨_, rfl⟩
  have hmi : ((R.n : Int) - 1) / 2 = (m : Int) := by omega
  rw [hmi] at ROOM
  rw [hme] at hmm hle
  have HMM := Lib.hid hmm
  have HME := Lib.hid hme
  have HMI := Lib.hid hmi
  clear hmm hme hmi
  unfold maxLen at _hm
  unfold jptr
  by_cases hdd : d.dead = true
  · have e : commit d j s = (d, 20, j) := by simp [commit, hdd]
    rw [e]
    rw [hdd] at d4
    clear e hdd
    go_enter Try.func15, Try.ntmps15
    go_wp2
    go_ret
    exact ⟨rfl, H.out, HJ.out, Chg.refl _ _⟩
  have hdd : d.dead = false := by simpa using hdd
  have HDD := Lib.hid hdd
  rw [hdd] at d4
  clear hdd
  by_cases hr : m * 32 < s.size
  · have e : commit d j s = (d, 4, j) := by simp [commit, HDD.out, HMM.out, hr]
    rw [e]
    clear e
    go_enter Try.func15, Try.ntmps15
    go_wp2_with fail
    refine (ROOM.out).mono ?_
    rintro e w' ⟨rfl, rfl⟩
    go_wp2
    go_ret
    exact ⟨rfl, H.out, HJ.out, Chg.refl _ _⟩
  by_cases hnn : 4611686018427387904 ≤ j.number
  · have e : commit d j s = (d, 3, j) := by simp [commit, HDD.out, HMM.out, hr, hnn]
    rw [e]
    clear e
    go_enter Try.func15, Try.ntmps15
    go_wp2_with fail
    refine (ROOM.out).mono ?_
    rintro e w' ⟨rfl, rfl⟩
    go_wp2
    go_ret
    exact ⟨rfl, H.out, HJ.out, Chg.refl _ _⟩
  have CE := Lib.hid (show commit d j s = commitAt (d.lay (1 + (1 - j.half) * m) s.data.toList) j (1 - j.half) s by
    unfold commit commitAt; rw [HDD.out, HMM.out, if_neg (by decide), if_neg hr, if_neg hnn])
  rw [CE.out]
  clear CE HDD
  have EH := Lib.hid (show (1 - (j.half : Int)) = ((1 - j.half : Nat) : Int) by omega)
  have hx1 : 1 - j.half ≤ 1 := by omega
  obtain ⟨hf, hhf⟩ : ∃ hf, hf = j.half := ⟨_, rfl⟩
  rw [← hhf] at j2 hh hx1 EH ⊢
  have HHF := Lib.hid hhf
  clear hhf
  generalize hX : 1 - hf = X at *
  have hXi : 1 - (hf : Int) = (X : Int) := by omega
  clear EH hX
  have hfm : X * m ≤ 32 := by rcases (by omega : X = 0 ∨ X = 1) with rfl | rfl <;> omega
  have px : (X : Int) * (m : Int) = ((X * m : Nat) : Int) := by push_cast; rfl
  have hmi := HMI.out
  have hrm : s.size ≤ m * 32 := by omega
  have hnum : j.number < 4611686018427387904 := by omega
  have HSL := Lib.hid (size_list s)
  clear hr hnn _hm
  generalize X * m = p at *
  go_enter Try.func15, Try.ntmps15
  go_wp2_with fail
  refine (ROOM.out).mono ?_
  rintro e w' ⟨rfl, rfl⟩
  go_wp2
  clear j1 j2
  go_loopw [7, 8, 9] (fun i en ev wr => ∃ (k : Nat) (d' : Dev), i = .int .i64 k ∧ 32 * k ≤ s.size + 31 ∧ Hid (d.lay (1 + p) s.data.toList = d'.lay (1 + p + k) (s.data.toList.drop (32 * k))) ∧ RDevAt wr R d' ∧ Chg R.S w wr) (fun i _ _ _ => s.size + 32 - 32 * (intOf i).toNat)
  case atStart => exact ⟨0, d, rfl, by omega, rfl, H.out, Chg.refl _ _⟩
  case round =>
    obtain ⟨k, d', rfl, hk, HL, hd, hc⟩ := hrel
    have HD := Lib.hid hd
    have HC := Lib.hid hc
    have JR := Lib.hid (HJ.out.chg hc hb)
    clear hd hc
    have q0 := JR.out.c0
    by_cases h0 : 32 * k < s.size
    · have LU := Lib.hid (lay_pos d' (1 + p + k) (s.data.toList.drop (32 * k)) (by rw [List.length_drop, HSL.out]; omega))
      rw [List.drop_drop] at LU
      have HDD := Lib.hid (HD.out.chg (chg_drew (fun _ => False) wr) (fun _ _ e => e))
      by_cases h32 : 32 * k + 32 ≤ s.size
      · have EM := Lib.hid (ext_mid s (k * 32) (k * 32 + 32))
        have hlt : decide ((s.size : Int) < (k : Int) * 32 + 32) = false := by rw [decide_eq_false_iff_not]; omega
        rw [show k * 32 + 32 - k * 32 = 32 from by omega, show s.data.toList.drop (k * 32) = s.data.toList.drop (32 * k) from by rw [Nat.mul_comm]] at EM
        rw [← EM.out] at LU
        go_wp2
        have w1 : IntKind.i64.wrap ((R.n : Int) - 1) = (R.n : Int) - 1 := by rw [IntKind.wrap_i64]; omega
        have w2 : ((R.n : Int) - 1).tdiv 2 = (m : Int) := by rw [Int.tdiv_eq_ediv_of_nonneg (by omega)]; exact HMI.out
        have w3 : IntKind.i64.wrap ((X : Int) * (m : Int)) = (X : Int) * (m : Int) := by rw [px, IntKind.wrap_i64]; omega
        have w4 : IntKind.i64.wrap (1 + (X : Int) * (m : Int)) = 1 + (X : Int) * (m : Int) := by rw [px, IntKind.wrap_i64]; omega
        have w5 : IntKind.i64.wrap (1 + (X : Int) * (m : Int) + (k : Int)) = ((1 + p + k : Nat) : Int) := by rw [px, IntKind.wrap_i64]; omega
        have w6 : IntKind.i64.wrap ((k : Int) * 32) = (k : Int) * 32 := by rw [IntKind.wrap_i64]; omega
        have b1 : 0 ≤ (k : Int) * 32 := by omega
        have b2 : (k : Int) * 32 + 32 ≤ (s.size : Int) := by omega
        have b3 : k * 32 + 32 ≤ s.size := by omega
        have b4 : 0 ≤ (k : Int) * 32 + 32 := by omega
        have b5 : (k : Int) * 32 ≤ (k : Int) * 32 + 32 := by omega
        have b6 : k * 32 ≤ s.size := by omega
        have t1 : ((k : Int) * 32).toNat = k * 32 := by omega
        have t2 : ((k : Int) * 32 + 32).toNat = k * 32 + 32 := by omega
        have PX := Lib.hid px
        clear px
        refine wp_still_tail_drew 17 (by kernel_rfl) (by kernel_rfl) ?_
        simp only [List.take_succ_cons, List.take_zero, List.drop_succ_cons, List.drop_zero]
        repeat still_step
        refine wpStill_nil ?_
        clear w1 w2 w3 w4 w5 w6 b1 b2 b3 b4 b5 b6 t1 t2
        go_wp2_with fail
        rw [wrap_sum _ _ (by rw [PX.out]; omega) (by rw [PX.out]; omega) (by omega) (by omega), PX.out, show (1 + (p : Int) + (k : Int)) = ((1 + p + k : Nat) : Int) from by omega]
        refine (rwrite_any wr.drew R d' _ (s.extract (k * 32) (k * 32 + 32)) HDD.out (by unfold maxLen; simp; omega)).mono ?_
        rintro e w1 ⟨rfl, d1, k1⟩
        have D1 := Lib.hid d1
        have K1 := Lib.hid k1
        clear d1 k1
        generalize d'.write ((1 + p + k : Nat) : Int) (s.extract (k * 32) (k * 32 + 32)).data.toList = A at *
        by_cases hr : A.2 = 0
        · rw [if_pos hr] at LU
          rw [hr]
          clear hr
          go_wp2
          go_roundw
          case rel =>
            refine ⟨k + 1, A.1, by go_num, by omega, ?_, D1.out, (HC.out.drew).trans K1.out⟩
            show _ = _
            rw [HL.out, LU.out, show 32 * (k + 1) = 32 * k + 32 from by omega]; rfl
          case measure => simp [intOf]; omega
        · rw [if_neg hr] at LU
          have hr1 : (A.2 == 0) = false := by simpa using hr
          have hr2 : (A.2 != 0) = true := by simpa using hr
          have CA := Lib.hid (show commitAt A j X s = (A.1, A.2, j) by unfold commitAt; rw [if_pos hr])
          have JE := Lib.hid (JR.out.chg (chg_drew (fun _ => False) wr) (fun e => e))
          clear hr
          go_wp2
          go_ret
          rw [HL.out, LU.out, CA.out]
          exact ⟨rfl, D1.out, JE.out.chg K1.out hb, ((HC.out.drew).trans K1.out).mono (fun k _ h => .inl h)⟩
      · have EM := Lib.hid (show (s.extract (k * 32) s.size).data.toList = (s.data.toList.drop (32 * k)).take 32 by rw [ext_mid, show k * 32 = 32 * k from by omega, List.take_of_length_le (by rw [List.length_drop, HSL.out]; omega), List.take_of_length_le (by rw [List.length_drop, HSL.out]; omega)])
        have hlt : decide ((s.size : Int) < (k : Int) * 32 + 32) = true := by rw [decide_eq_true_eq]; omega
        rw [← EM.out] at LU
        go_wp2
        have w1 : IntKind.i64.wrap ((R.n : Int) - 1) = (R.n : Int) - 1 := by rw [IntKind.wrap_i64]; omega
        have w2 : ((R.n : Int) - 1).tdiv 2 = (m : Int) := by rw [Int.tdiv_eq_ediv_of_nonneg (by omega)]; exact HMI.out
        have w3 : IntKind.i64.wrap ((X : Int) * (m : Int)) = (X : Int) * (m : Int) := by rw [px, IntKind.wrap_i64]; omega
        have w4 : IntKind.i64.wrap (1 + (X : Int) * (m : Int)) = 1 + (X : Int) * (m : Int) := by rw [px, IntKind.wrap_i64]; omega
        have w5 : IntKind.i64.wrap (1 + (X : Int) * (m : Int) + (k : Int)) = ((1 + p + k : Nat) : Int) := by rw [px, IntKind.wrap_i64]; omega
        have w6 : IntKind.i64.wrap ((k : Int) * 32) = (k : Int) * 32 := by rw [IntKind.wrap_i64]; omega
        have b1 : 0 ≤ (k : Int) * 32 := by omega
        have b2 : (s.size : Int) ≤ (s.size : Int) := by omega
        have b3 : s.size ≤ s.size := by omega
        have b4 : 0 ≤ (s.size : Int) := by omega
        have b5 : (k : Int) * 32 ≤ (s.size : Int) := by omega
        have b6 : k * 32 ≤ s.size := by omega
        have t1 : ((k : Int) * 32).toNat = k * 32 := by omega
        have t2 : ((s.size : Int)).toNat = s.size := by omega
        have PX := Lib.hid px
        clear px
        refine wp_still_tail_drew 17 (by kernel_rfl) (by kernel_rfl) ?_
        simp only [List.take_succ_cons, List.take_zero, List.drop_succ_cons, List.drop_zero]
        repeat still_step
        refine wpStill_nil ?_
        clear w1 w2 w3 w4 w5 w6 b1 b2 b3 b4 b5 b6 t1 t2
        go_wp2_with fail
        rw [wrap_sum _ _ (by rw [PX.out]; omega) (by rw [PX.out]; omega) (by omega) (by omega), PX.out, show (1 + (p : Int) + (k : Int)) = ((1 + p + k : Nat) : Int) from by omega]
        refine (rwrite_any wr.drew R d' _ (s.extract (k * 32) (s.size)) HDD.out (by unfold maxLen; simp; omega)).mono ?_
        rintro e w1 ⟨rfl, d1, k1⟩
        have D1 := Lib.hid d1
        have K1 := Lib.hid k1
        clear d1 k1
        generalize d'.write ((1 + p + k : Nat) : Int) (s.extract (k * 32) (s.size)).data.toList = A at *
        by_cases hr : A.2 = 0
        · rw [if_pos hr] at LU
          rw [hr]
          clear hr
          go_wp2
          go_roundw
          case rel =>
            refine ⟨k + 1, A.1, by go_num, by omega, ?_, D1.out, (HC.out.drew).trans K1.out⟩
            show _ = _
            rw [HL.out, LU.out, show 32 * (k + 1) = 32 * k + 32 from by omega]; rfl
          case measure => simp [intOf]; omega
        · rw [if_neg hr] at LU
          have hr1 : (A.2 == 0) = false := by simpa using hr
          have hr2 : (A.2 != 0) = true := by simpa using hr
          have CA := Lib.hid (show commitAt A j X s = (A.1, A.2, j) by unfold commitAt; rw [if_pos hr])
          have JE := Lib.hid (JR.out.chg (chg_drew (fun _ => False) wr) (fun e => e))
          clear hr
          go_wp2
          go_ret
          rw [HL.out, LU.out, CA.out]
          exact ⟨rfl, D1.out, JE.out.chg K1.out hb, ((HC.out.drew).trans K1.out).mono (fun k _ h => .inl h)⟩
    · have LU := Lib.hid (lay_nil d' (1 + p + k) (s.data.toList.drop (32 * k)) (by rw [List.length_drop, HSL.out]; omega))
      have LE := Lib.hid (HL.out.trans LU.out)
      have hlt : decide ((k : Int) * 32 < (s.size : Int)) = false := by rw [decide_eq_false_iff_not]; omega
      have BAR := Lib.hid (rbarrier_any wr R d' HD.out)
      clear LU HL h0
      generalize d'.barrier = A at *
      unfold RB.ptr at BAR
      go_wp2_with fail
      refine (BAR.out).mono ?_
      rintro e w1 ⟨rfl, d1', k1⟩
      have D1 := Lib.hid d1'
      have K1 := Lib.hid (HC.out.trans k1)
      have J1 := Lib.hid (JR.out.chg k1 hb)
      clear d1' k1 q0 BAR HD HC JR
      by_cases ha : A.2 = 0
      · have CE := Lib.hid (show commitAt A j X s = (let b := A.1.write 0 (headBytes (j.number + 1) X s.size)
          if b.2 ≠ 0 then (b.1, b.2, j)
          else
            let c := b.1.barrier
            if c.2 ≠ 0 then (c.1, c.2, j) else (c.1, 0, ⟨j.number + 1, X, s⟩)) by unfold commitAt; rw [if_neg (fun e => e ha)])
        rw [ha]
        clear ha
        have q0 := J1.out.c0
        have q1 := J1.out.c1
        have HL := Lib.hid (headBytes_length (j.number + 1) X s.size)
        have WR := Lib.hid (fun w2 (D2 : RDevAt w2 R A.1) => (show Calls Try.prog 21 #[R.ptr, .int .i64 0, .string ⟨(headBytes (j.number + 1) X s.size).toArray⟩] w2 fun e w' => e = .returned (.int .i64 (A.1.write 0 (headBytes (j.number + 1) X s.size)).2) ∧ RDevAt w' R (A.1.write 0 (headBytes (j.number + 1) X s.size)).1 ∧ Chg R.S w2 w' from
          rwrite_any w2 R A.1 0 _ D2 (by show (headBytes (j.number + 1) X s.size).toArray.size ≤ maxLen; rw [List.size_toArray, HL.out]; unfold maxLen; omega)))
        generalize A.1.write 0 (headBytes (j.number + 1) X s.size) = Bw at *
        unfold RB.ptr at WR
        have wn : IntKind.i64.wrap (j.number + 1) = j.number + 1 := by rw [IntKind.wrap_i64]; omega
        go_wp2
        refine wp_region_plan (N := 124) [.rd [0, 1, 2, 3, 4, 5, 6, 7, 8, 9, 10, 11], .ef 12, .ef 13, .rd [14]] (fun w' => w'.cell? ⟨b, 0, none⟩ = some (.pointer (some ⟨R.b, 0, none⟩)) ∧ w'.cell? ⟨b, 1, none⟩ = some (.int .i64 j.number)) (by kernel_rfl) (by kernel_rfl) (by kernel_rfl) (by kernel_rfl) (Nat.le_of_ble_eq_true rfl) ⟨q0, q1⟩ ?_
        refine plan_rd (A := ?A1) ?h1 ?h2
        case h1 =>
          intro w' hS K hK
          obtain ⟨s0, s1⟩ := hS
          simp only [opsAt, List.filterMap_cons, List.filterMap_nil, List.getElem?_toArray, List.getElem?_cons_succ, List.getElem?_cons_zero]
          repeat still_step
          refine wpStill_nil ?_
          exact hK
        clear wn
        refine plan_ef rfl ?_
        go_wp2_with fail
        refine (rhead_any _ (j.number + 1) X s.size hx1 (by omega)).mono ?_
        rintro e w2 ⟨rfl, k2⟩
        have D2 := Lib.hid ((D1.out.chg (chg_drew (fun _ => False) w1) (fun _ _ e => e)).chg k2 (fun _ _ e => e))
        have J2 := Lib.hid ((J1.out.chg (chg_drew (fun _ => False) w1) (fun e => e)).chg k2 (fun e => e))
        have K2 := Lib.hid (K1.out.trans (((chg_drew (fun _ => False) w1).trans k2).mono (fun _ _ e => e.elim)))
        clear k2 q0 q1 D1 J1 K1
        go_wp2_with fail
        refine ⟨⟨J2.out.c0, J2.out.c1⟩, ?_⟩
        refine plan_ef rfl ?_
        go_wp2_with fail
        refine (WR.out w2 D2.out).mono ?_
        rintro e w3 ⟨rfl, d3, k3⟩
        have D3 := Lib.hid d3
        have K3 := Lib.hid (K2.out.trans k3)
        have J3 := Lib.hid (J2.out.chg k3 hb)
        clear d3 k3 WR K2 J2 D2
        go_wp2_with fail
        refine ⟨⟨J3.out.c0, J3.out.c1⟩, ?_⟩
        refine plan_rd (A := ?A2) ?h3 ?h4
        case h3 =>
          intro w' hS K hK
          clear hS
          simp only [opsAt, List.filterMap_cons, List.filterMap_nil, List.getElem?_toArray, List.getElem?_cons_succ, List.getElem?_cons_zero]
          repeat still_step
          refine wpStill_nil ?_
          exact hK
        refine plan_nil ?_
        by_cases hbw : Bw.2 = 0
        · rw [hbw]
          simp only [hbw, ne_eq, not_true_eq_false, if_false] at CE
          clear hbw
          have q0' := J3.out.c0
          have BAR := Lib.hid (rbarrier_any w3 R Bw.1 D3.out)
          generalize Bw.1.barrier = Cb at *
          unfold RB.ptr at BAR
          go_wp2_with fail
          refine (BAR.out).mono ?_
          rintro e w4 ⟨rfl, d4', k4⟩
          have D4 := Lib.hid d4'
          have J4 := Lib.hid (J3.out.chg k4 hb)
          have K5 := Lib.hid (K3.out.trans k4)
          clear d4' k4 q0' BAR D3 J3 K3
          by_cases hcb : Cb.2 = 0
          · rw [hcb]
            simp only [hcb, not_true_eq_false, if_false] at CE
            clear hcb
            have r1 := J4.out.c1
            have r2 := J4.out.c2
            have r3 := J4.out.c3
            have f1 : w4.frozen? ⟨b, 1, none⟩ = false := frozen_of J4.out.hb
            have f2 : w4.frozen? ⟨b, 2, none⟩ = false := frozen_of J4.out.hb
            have f3 : w4.frozen? ⟨b, 3, none⟩ = false := frozen_of J4.out.hb
            go_wp2
            go_ret
            rw [LE.out, CE.out]
            have q := ((chg_cell w4 b 1 (.int .i64 (j.number + 1))).trans (chg_cell _ b 2 (.int .i64 X))).trans (chg_cell _ b 3 (.string s))
            refine ⟨rfl, D4.out.chg q (fun k hk e => hb (e ▸ hk)), ⟨?_⟩, (K5.out.mono (fun k _ h => .inl h)).trans (q.mono (fun k _ h => .inr h))⟩
            rw [obj_setCell (obj_setCell (obj_setCell J4.out.hb _) _) _]; rfl
          · simp only [hcb, not_false_eq_true, if_true] at CE
            have hcb1 : (Cb.2 == 0) = false := by simpa using hcb
            have hcb2 : (Cb.2 != 0) = true := by simpa using hcb
            clear hcb
            go_wp2
            go_ret
            rw [LE.out, CE.out]
            exact ⟨rfl, D4.out, J4.out, K5.out.mono (fun k _ h => .inl h)⟩
        · simp only [hbw, ne_eq, not_false_eq_true, if_true] at CE
          have hbw1 : (Bw.2 == 0) = false := by simpa using hbw
          have hbw2 : (Bw.2 != 0) = true := by simpa using hbw
          clear hbw
          go_wp2
          go_ret
          rw [LE.out, CE.out]
          exact ⟨rfl, D3.out, J3.out, K3.out.mono (fun k _ h => .inl h)⟩
      · have CA := Lib.hid (show commitAt A j X s = (A.1, A.2, j) by unfold commitAt; rw [if_pos ha])
        have ha1 : (A.2 == 0) = false := by simpa using ha
        have ha2 : (A.2 != 0) = true := by simpa using ha
        clear ha
        go_wp2
        go_ret
        rw [LE.out, CA.out]
        exact ⟨rfl, D1.out, J1.out, K1.out.mono (fun k _ h => .inl h)⟩
end Go.Proofs.Ytnmgnhhipgiggaa
