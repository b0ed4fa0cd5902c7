/-
  Layer 15: fill.
-/
import Derived.Test.YtdgmjablkdemmaaTOnce
namespace Go.Proofs.Ytdgmjablkdemmaa
open Go.RowKit Go.Maps

def FillRes (w : World) (e : Ending) (w' : World) : Prop :=
  Chg (fun _ => False) w w' ∧ (e = .returned (.pointer none) ∨ ∃ b B s, e = .returned (.pointer (some ⟨b, 0, none⟩)) ∧ StoreAt w' b B s ∧ (∀ j, B j → w.heap.size ≤ j) ∧ s.next ≤ 100 ∧ s.turn ≤ 100)
set_option maxHeartbeats 8000000 in
set_option maxRecDepth 100000 in
theorem fill_any (w : World) (room : Int) (v : Value) (A : List BAct) (G : Nat → Prop) (hv : ActsAt w v G A) (hg : ∀ k, G k → k < w.heap.size) :
    Calls Try.prog 12 #[.int .i64 room, v] w (FillRes w) := by
  have HV := Lib.hid hv
  have HG := Lib.hid hg
  obtain ⟨la, cap, rfl, hl0, _⟩ := hv
  unfold maxLen at hl0
  clear hg
  go_enter Try.func12, Try.ntmps12
  by_cases hroom : 1 ≤ room ∧ room ≤ 200
  rotate_left
  · have NB := Lib.hid (new_bad w room hroom)
    clear hroom
    go_wp2_with fail
    (with_reducible refine (NB.out).mono ?_)
    rintro e w2 ⟨rfl, rfl⟩
    go_wp2_with fail
    go_loopw [6] (fun iv wr => iv = .int .i64 0 ∧ Hid (w = wr)) (fun _ _ => 0)
    case atStart => exact ⟨rfl, Lib.hid rfl⟩
    case round =>
      obtain ⟨rfl, HW⟩ := hrel
      have HK := Lib.hid (show Chg (fun _ => False) w wr from HW.out ▸ Chg.refl _ _)
      by_cases hlt : 0 < A.length
      · have g3 : decide (0 < A.length) = true := decide_eq_true hlt
        have g1 : decide ((0 : Int) < (A.length : Int)) = true := decide_eq_true (by omega)
        go_wp2
        go_ret
        exact ⟨HK.out, .inl rfl⟩
      · have h0 : A.length = 0 := by omega
        have g3 : decide (0 < A.length) = false := decide_eq_false hlt
        have g1 : decide ((0 : Int) < (A.length : Int)) = false := decide_eq_false (by omega)
        clear h0
        go_wp2
        go_ret
        exact ⟨HK.out, .inl rfl⟩
  obtain ⟨r, rfl⟩ : ∃ r : Nat, room = (r : Int) := ⟨room.toNat, by omega⟩
  have NW := Lib.hid (new_ok w r (by omega) (by omega))
  clear hroom
  go_wp2_with fail
  (with_reducible refine (NW.out).mono ?_)
  rintro e w2 ⟨b, B0, rfl, h2, hb2, k2⟩
  have S2 := Lib.hid h2
  have K2 := Lib.hid k2
  have BB2 := Lib.hid hb2
  clear NW h2 hb2 k2
  go_wp2_with fail
  go_loopw [6] (fun iv wr => ∃ (k : Nat) (s : PStore) (B : Nat → Prop), k ≤ A.length ∧ k ≤ 100 ∧ iv = .int .i64 k ∧ Hid (StoreAt wr b B s ∧ (∀ j, B j → w.heap.size ≤ j) ∧ Chg (fun _ => False) w wr ∧ s.next ≤ k ∧ s.turn ≤ k)) (fun iv _ => 100 - (intOf iv).toNat)
  case atStart => exact ⟨0, newS r, B0, by omega, by omega, rfl, Lib.hid ⟨S2.out, BB2.out, K2.out, Nat.le_refl _, Nat.le_refl _⟩⟩
  case round =>
    obtain ⟨k, s, B, hk, hk2, rfl, HI⟩ := hrel
    obtain ⟨hst, hbb, hkc, hsn, hsu⟩ := HI.out
    have ST := Lib.hid hst
    have BB := Lib.hid hbb
    have KC := Lib.hid hkc
    clear HI hst hbb hkc
    by_cases hlt : k < A.length
    rotate_left
    · obtain rfl : k = A.length := by omega
      go_wp2
      go_ret
      exact ⟨KC.out, .inr ⟨b, B, s, rfl, ST.out, BB.out, by omega, by omega⟩⟩
    by_cases h100 : k < 100
    rotate_left
    · have g1 : decide ((k : Int) < (A.length : Int)) = true := decide_eq_true (by omega)
      have g2 : decide ((k : Int) < 100) = false := decide_eq_false (by omega)
      have g3 : decide (k < A.length) = true := decide_eq_true hlt
      have g4 : decide (k < 100) = false := decide_eq_false h100
      go_wp2
      go_ret
      exact ⟨KC.out, .inr ⟨b, B, s, rfl, ST.out, BB.out, by omega, by omega⟩⟩
    have g1 : decide ((k : Int) < (A.length : Int)) = true := decide_eq_true (by omega)
    have g2 : decide ((k : Int) < 100) = true := decide_eq_true (by omega)
    have g3 : decide (k < A.length) = true := decide_eq_true hlt
    have g4 : decide (k < 100) = true := decide_eq_true h100
    obtain ⟨x, hx⟩ : ∃ x, A[k]? = some x := ⟨_, List.getElem?_eq_getElem hlt⟩
    obtain ⟨_, _, e1, _, hcl⟩ := HV.out.chg KC.out (fun _ _ e => e)
    cases e1
    obtain ⟨g, o, sa, sc, rfl, hgg, c0, c1, c2, c3, c4, c5, c6, c7, c8, hca⟩ := hcl k x hx
    clear hcl hx
    obtain ⟨kind, ⟨ck, sg, sp, fr, f, t, n⟩, T⟩ := x
    simp only at c0 c1 c2 c3 c4 c5 c6 c7 c8 hca
    have LG := large15_any wr ⟨ck, sg, sp, fr, f, t, n⟩ sa sc G hca
    unfold certV at LG
    have LG := Lib.hid LG
    have HCA := Lib.hid hca
    have GW := Lib.hid hgg
    clear hca hgg
    go_wp2_with fail
    (with_reducible refine (LG.out).mono ?_)
    rintro e w3 ⟨lg, rfl, k3⟩
    have S3 := Lib.hid (ST.out.chg k3 (fun _ _ e => e))
    have K3 := Lib.hid (KC.out.trans k3)
    have C3 := Lib.hid (HCA.out.chg k3 (fun _ _ e => e))
    have hs3 := K3.out.size
    cases lg with
    | true =>
      go_wp2
      go_ret
      exact ⟨K3.out, .inl rfl⟩
    | false =>
    have d0 := cell_chg k3 (fun e => e) c0
    have d1 := cell_chg k3 (fun e => e) c1
    have d2 := cell_chg k3 (fun e => e) c2
    have d3 := cell_chg k3 (fun e => e) c3
    have d4 := cell_chg k3 (fun e => e) c4
    have d5 := cell_chg k3 (fun e => e) c5
    have d6 := cell_chg k3 (fun e => e) c6
    have d7 := cell_chg k3 (fun e => e) c7
    have d8 := cell_chg k3 (fun e => e) c8
    clear k3 LG ST HCA c0 c1 c2 c3 c4 c5 c6 c7 c8
    by_cases hk0 : kind = 0
    · subst hk0
      have PU := sput_any w3 b B s ⟨ck, sg, sp, fr, f, t, n⟩ sa sc G S3.out C3.out (fun j hj => ⟨Nat.lt_of_lt_of_le (HG.out j hj) hs3, fun e => by have := BB.out j e; have := HG.out j hj; omega⟩) (by omega) (by omega)
      obtain ⟨_, f2, f3, _⟩ := putS_facts s ⟨ck, sg, sp, fr, f, t, n⟩
      unfold certV at PU
      generalize putS s ⟨ck, sg, sp, fr, f, t, n⟩ = res at *
      obtain ⟨pi, pe, ps⟩ := res
      simp only at f2 f3
      unfold PutRes at PU
      simp only at PU
      have PU := Lib.hid PU
      go_wp2_with fail
      clear d0 d1 d2 d3 d4 d5 d6 d7 d8
      (with_reducible refine (PU.out).mono ?_)
      rintro e w4 ⟨B4, rfl, h4, k4, hb4⟩
      have S4 := Lib.hid h4
      have K4 := Lib.hid (K3.out.next k4 (fun j hj e => by have := BB.out j e; omega))
      have BB4 := Lib.hid (show ∀ j, B4 j → w.heap.size ≤ j from fun j hj => by
        rcases hb4 j hj with q | q
        · exact BB.out j q
        · omega)
      clear PU h4 k4 hb4 S3 K3 C3
      go_wp2
      go_roundw
      case rel => exact ⟨k + 1, ps, B4, by omega, by omega, by go_num, Lib.hid ⟨S4.out, BB4.out, K4.out, by omega, by omega⟩⟩
      case measure => simp [intOf]; omega
    · have g5 : (kind == 0) = false := beq_eq_false_iff_ne.2 hk0
      by_cases hk1 : kind = 1
      · subst hk1
        have SW := sweep_any w3 b B s T S3.out (by omega) (by omega)
        obtain ⟨_, f2, f3, _⟩ := sweepS_facts s T
        generalize sweepS s T = s' at *
        generalize s.gone T = gl at *
        unfold SweepRes at SW
        have SW := Lib.hid SW
        have F2 := Lib.hid f2
        clear f2
        go_wp2_with fail
        clear d0 d1 d2 d3 d4 d5 d6 d7 d8
        (with_reducible refine (SW.out).mono ?_)
        rintro e w4 ⟨v4, B4, rfl, ho, h4, k4, hb4, _⟩
        have S4 := Lib.hid h4
        have K4 := Lib.hid (K3.out.next k4 (fun j hj e => by have := BB.out j e; omega))
        have BB4 := Lib.hid (show ∀ j, B4 j → w.heap.size ≤ j from fun j hj => by
          rcases hb4 j hj with q | q
          · exact BB.out j q
          · omega)
        clear SW h4 k4 hb4 S3 K3 C3 ho
        go_wp2
        go_roundw
        case rel => exact ⟨k + 1, s', B4, by omega, by omega, by go_num, Lib.hid ⟨S4.out, BB4.out, K4.out, by rw [F2.out]; omega, by omega⟩⟩
        case measure => simp [intOf]; omega
      · have g6 : (kind == 1) = false := beq_eq_false_iff_ne.2 hk1
        go_wp2
        go_roundw
        case rel => exact ⟨k + 1, s, B, by omega, by omega, by go_num, Lib.hid ⟨S3.out, BB.out, K3.out, by omega, by omega⟩⟩
        case measure => simp [intOf]; omega
end Go.Proofs.Ytdgmjablkdemmaa
