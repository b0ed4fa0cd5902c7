/-
  StoreRoom: the walk.
-/
import Derived.Test.YtdgmjablkdemmaaTOnceP
namespace Go.Proofs.Ytdgmjablkdemmaa
open Go.RowKit Go.Maps

set_option maxHeartbeats 8000000 in
set_option maxRecDepth 100000 in
theorem room_law (w : World) (room : Int) (v : Value) (A : List BAct) (hv : ActsAt w v (· < w.heap.size) A) :
    Calls Try.prog 6 #[.int .i64 room, v] w fun e w' => e = .returned (.bool true) ∧ Chg (fun _ => False) w w' := by
  have HV := Lib.hid hv
  obtain ⟨la, cap, rfl, hl0, _⟩ := hv
  unfold maxLen at hl0
  have AW := Lib.hid (awake15_any w)
  go_enter Try.func6, Try.ntmps6
  go_wp2_with fail
  (with_reducible refine (AW.out).mono ?_)
  rintro e w1 ⟨rfl, k1⟩
  have K1 := Lib.hid k1
  have hs1 := k1.size
  clear AW k1
  by_cases hroom : 1 ≤ room ∧ room ≤ 200
  rotate_left
  · have NB := Lib.hid (new_bad w1 room hroom)
    go_wp2_with fail
    (with_reducible refine (NB.out).mono ?_)
    rintro e w2 ⟨rfl, rfl⟩
    by_cases h1 : room < 1
    · have g1 : decide (room < 1) = true := decide_eq_true h1
      go_wp2
      go_ret
      exact ⟨rfl, K1.out⟩
    · have g1 : decide (room < 1) = false := decide_eq_false h1
      have g2 : decide (200 < room) = true := decide_eq_true (by omega)
      go_wp2
      go_ret
      exact ⟨by simp, K1.out⟩
  obtain ⟨r, rfl⟩ : ∃ r : Nat, room = (r : Int) := ⟨room.toNat, by omega⟩
  have NW := Lib.hid (new_ok w1 r (by omega) (by omega))
  have hr2 : r ≤ 200 := by omega
  clear hroom
  go_wp2_with fail
  (with_reducible refine (NW.out).mono ?_)
  rintro e w2 ⟨b, B0, rfl, h2, hb2, k2⟩
  have S2 := Lib.hid h2
  have K2 := Lib.hid (K1.out.trans k2)
  have BB2 := Lib.hid (show ∀ j, B0 j → w.heap.size ≤ j from fun j hj => by have := hb2 j hj; omega)
  clear NW h2 hb2 k2
  go_wp2_with fail
  go_loopw [6, 7] (fun nv iv wr => ∃ (k : Nat) (s : PStore) (B : Nat → Prop), k ≤ A.length ∧ k ≤ 100 ∧ nv = .int .i64 (s.certs.length : Int) ∧ iv = .int .i64 k ∧ Hid (StoreAt wr b B s ∧ (∀ j, B j → w.heap.size ≤ j) ∧ Chg (fun _ => False) w wr ∧ s.room = r ∧ s.next ≤ k ∧ s.turn ≤ k)) (fun _ iv _ => 100 - (intOf iv).toNat)
  case atStart => exact ⟨0, newS r, B0, by omega, by omega, rfl, rfl, Lib.hid ⟨S2.out, BB2.out, K2.out, rfl, Nat.le_refl _, Nat.le_refl _⟩⟩
  case round =>
    obtain ⟨k, s, B, hk, hk2, rfl, rfl, HI⟩ := hrel
    obtain ⟨hst, hbb, hkc, hsr, hsn, hsu⟩ := HI.out
    have ST := Lib.hid hst
    have BB := Lib.hid hbb
    have KC := Lib.hid hkc
    have SR := Lib.hid hsr
    have hlen : s.certs.length ≤ r := by rw [← hsr]; exact hst.inv.len
    clear HI hst hbb hkc hsr
    by_cases hlt : k < A.length
    rotate_left
    · obtain rfl : k = A.length := by omega
      go_wp2
      go_ret
      exact ⟨rfl, KC.out⟩
    by_cases h100 : k < 100
    rotate_left
    · have g1 : decide ((k : Int) < (A.length : Int)) = true := decide_eq_true (by omega)
      have g2 : decide ((k : Int) < 100) = false := decide_eq_false (by omega)
      have g3 : decide (k < A.length) = true := decide_eq_true hlt
      have g4 : decide (k < 100) = false := decide_eq_false h100
      go_wp2
      go_ret
      exact ⟨rfl, KC.out⟩
    have g1 : decide ((k : Int) < (A.length : Int)) = true := decide_eq_true (by omega)
    have g2 : decide ((k : Int) < 100) = true := decide_eq_true (by omega)
    have g3 : decide (k < A.length) = true := decide_eq_true hlt
    have g4 : decide (k < 100) = true := decide_eq_true h100
    obtain ⟨x, hx⟩ : ∃ x, A[k]? = some x := ⟨_, List.getElem?_eq_getElem hlt⟩
    obtain ⟨_, _, e1, _, hcl⟩ := HV.out.chg KC.out (fun _ _ e => e)
    cases e1
    obtain ⟨g, o, sa, sc, rfl, _, c0, c1, c2, c3, c4, c5, c6, c7, c8, hca⟩ := hcl k x hx
    clear hcl hx
    obtain ⟨kind, ⟨ck, sg, sp, fr, f, t, n⟩, T⟩ := x
    simp only at c0 c1 c2 c3 c4 c5 c6 c7 c8 hca
    have ka := chg_alloc (fun _ => False) wr (.cells #[.int .i64 kind, .int .i64 ck, .int .u16 (sg : Int), .string sp, .slice sa fr.length sc, .int .i64 f, .int .i64 t, .int .i64 n, .int .i64 T] 47)
    have LG := large15_any (wr.alloc (.cells #[.int .i64 kind, .int .i64 ck, .int .u16 (sg : Int), .string sp, .slice sa fr.length sc, .int .i64 f, .int .i64 t, .int .i64 n, .int .i64 T] 47)) ⟨ck, sg, sp, fr, f, t, n⟩ sa sc (· < w.heap.size) (hca.chg ka (fun _ _ e => e))
    unfold certV at LG
    have LG := Lib.hid LG
    have HCA := Lib.hid (hca.chg ka (fun _ _ e => e))
    have OA := Lib.hid (obj_alloc_new wr (.cells #[.int .i64 kind, .int .i64 ck, .int .u16 (sg : Int), .string sp, .slice sa fr.length sc, .int .i64 f, .int .i64 t, .int .i64 n, .int .i64 T] 47))
    have SA := Lib.hid (ST.out.chg ka (fun _ _ e => e))
    have KA := Lib.hid (KC.out.trans ka)
    clear ka hca ST KC
    go_wp2_with fail
    generalize wr.alloc (.cells #[.int .i64 kind, .int .i64 ck, .int .u16 (sg : Int), .string sp, .slice sa fr.length sc, .int .i64 f, .int .i64 t, .int .i64 n, .int .i64 T] 47) = wa at *
    (with_reducible refine (LG.out).mono ?_)
    rintro e w3 ⟨lg, rfl, k3⟩
    have O3 := Lib.hid (k3.obj (fun e => e) OA.out)
    have S3 := Lib.hid (SA.out.chg k3 (fun _ _ e => e))
    have K3 := Lib.hid (KA.out.trans k3)
    have C3 := Lib.hid (HCA.out.chg k3 (fun _ _ e => e))
    clear k3 LG OA SA KA HCA c0 c1 c2 c3 c4 c5 c6 c7 c8
    cases lg with
    | true =>
      go_wp2
      go_ret
      exact ⟨rfl, K3.out⟩
    | false =>
    have d0 := cell_of (o := 0) O3.out rfl
    have d1 := cell_of (o := 1) O3.out rfl
    have d2 := cell_of (o := 2) O3.out rfl
    have d3 := cell_of (o := 3) O3.out rfl
    have d4 := cell_of (o := 4) O3.out rfl
    have d5 := cell_of (o := 5) O3.out rfl
    have d6 := cell_of (o := 6) O3.out rfl
    have d7 := cell_of (o := 7) O3.out rfl
    have d8 := cell_of (o := 8) O3.out rfl
    have hs3 := K3.out.size
    by_cases hk0 : kind = 0
    · subst hk0
      have PU := sput_any w3 b B s ⟨ck, sg, sp, fr, f, t, n⟩ sa sc (· < w.heap.size) S3.out C3.out (fun j hj => ⟨Nat.lt_of_lt_of_le hj hs3, fun e => by have := BB.out j e; have h2 : j < w.heap.size := hj; omega⟩) (by omega) (by omega)
      obtain ⟨f1, f2, f3, f4⟩ := putS_facts s ⟨ck, sg, sp, fr, f, t, n⟩
      unfold certV at PU
      generalize putS s ⟨ck, sg, sp, fr, f, t, n⟩ = res at *
      obtain ⟨pi, pe, ps⟩ := res
      simp only at f1 f2 f3 f4
      unfold PutRes at PU
      simp only at PU
      have PU := Lib.hid PU
      have F1 := Lib.hid f1
      have F4 := Lib.hid f4
      clear f1 f4
      go_wp2_with fail
      clear d0 d1 d2 d3 d4 d5 d6 d7 d8
      (with_reducible refine (PU.out).mono ?_)
      rintro e w4 ⟨B4, rfl, h4, k4, hb4⟩
      have S4 := Lib.hid h4
      have K4 := Lib.hid (K3.out.next k4 (fun j hj e => by have := BB.out j e; omega))
      have BB4 := Lib.hid (show ∀ j, B4 j → w.heap.size ≤ j from fun j hj => by
        rcases hb4 j hj with q | q
        · exact BB.out j q
        · omega)
      have hlen4 : ps.certs.length ≤ r := by have := h4.inv.len; rw [F1.out, SR.out] at this; exact this
      have LE := Lib.hid (len_any _ b B4 ps h4)
      have R4 := Lib.hid (show ps.room = r from by rw [F1.out]; exact SR.out)
      clear PU h4 k4 hb4 S3 K3 C3 O3
      have E3 := Lib.hid (show pe = 3 → s.certs.length = r from fun e => by have := F4.out e; rw [SR.out] at this; omega)
      clear F4 F1
      by_cases he : pe = 3
      · subst he
        have hq := E3.out rfl
        have z0 : ((s.certs.length : Int) != (r : Int)) = false := by rw [hq]; simp
        have z1 : (s.certs.length != r) = false := by rw [hq]; simp
        clear hq E3
        go_wp2_with fail
        (with_reducible refine (LE.out).mono ?_)
        rintro e w5 ⟨rfl, rfl⟩
        (have LE2 := Lib.hid (len_any _ b B4 ps S4.out))
        go_wp2_with fail
        (with_reducible refine (LE2.out).mono ?_)
        rintro e w6 ⟨rfl, rfl⟩
        have z2 : decide ((r : Int) < (ps.certs.length : Int)) = false := decide_eq_false (by omega)
        have z3 : decide ((ps.certs.length : Int) < 0) = false := decide_eq_false (by omega)
        have z4 : decide (r < ps.certs.length) = false := decide_eq_false (by omega)
        go_wp2
        go_roundw
        case rel => exact ⟨k + 1, ps, B4, by omega, by omega, rfl, by go_num, Lib.hid ⟨S4.out, BB4.out, K4.out, R4.out, by omega, by omega⟩⟩
        case measure => simp [intOf]; omega
      · have z0 : ((pe : Int) == 3) = false := beq_eq_false_iff_ne.2 (by omega)
        have z1 : (pe == 3) = false := beq_eq_false_iff_ne.2 he
        clear E3
        go_wp2_with fail
        (with_reducible refine (LE.out).mono ?_)
        rintro e w5 ⟨rfl, rfl⟩
        (have LE2 := Lib.hid (len_any _ b B4 ps S4.out))
        go_wp2_with fail
        (with_reducible refine (LE2.out).mono ?_)
        rintro e w6 ⟨rfl, rfl⟩
        have z2 : decide ((r : Int) < (ps.certs.length : Int)) = false := decide_eq_false (by omega)
        have z3 : decide ((ps.certs.length : Int) < 0) = false := decide_eq_false (by omega)
        have z4 : decide (r < ps.certs.length) = false := decide_eq_false (by omega)
        go_wp2
        go_roundw
        case rel => exact ⟨k + 1, ps, B4, by omega, by omega, rfl, by go_num, Lib.hid ⟨S4.out, BB4.out, K4.out, R4.out, by omega, by omega⟩⟩
        case measure => simp [intOf]; omega
    · have g5 : (kind == 0) = false := beq_eq_false_iff_ne.2 hk0
      by_cases hk1 : kind = 1
      · subst hk1
        have SW := sweep_any w3 b B s T S3.out (by omega) (by omega)
        obtain ⟨f1, f2, f3, f4⟩ := sweepS_facts s T
        generalize sweepS s T = s' at *
        generalize s.gone T = gl at *
        unfold SweepRes at SW
        have SW := Lib.hid SW
        have F1 := Lib.hid f1
        clear f1
        go_wp2_with fail
        clear d0 d1 d2 d3 d4 d5 d6 d7 d8
        (with_reducible refine (SW.out).mono ?_)
        rintro e w4 ⟨v4, B4, rfl, ho, h4, k4, hb4, _⟩
        obtain ⟨a4, c4, rfl⟩ := own_shape ho
        have S4 := Lib.hid h4
        have K4 := Lib.hid (K3.out.next k4 (fun j hj e => by have := BB.out j e; omega))
        have BB4 := Lib.hid (show ∀ j, B4 j → w.heap.size ≤ j from fun j hj => by
          rcases hb4 j hj with q | q
          · exact BB.out j q
          · omega)
        have R4 := Lib.hid (show s'.room = r from by rw [F1.out]; exact SR.out)
        have LE := Lib.hid (len_any _ b B4 s' h4)
        have x1 : IntKind.i64.wrap ((s.certs.length : Int) - (gl.length : Int)) = (s'.certs.length : Int) := by rw [IntKind.wrap_i64]; omega
        have x2 : (s.certs.length : Int) - (gl.length : Int) = (s'.certs.length : Int) := by omega
        have hlen4 : s'.certs.length ≤ r := by omega
        clear SW h4 k4 hb4 S3 K3 C3 O3 ho F1
        go_wp2_with fail
        (with_reducible refine (LE.out).mono ?_)
        rintro e w5 ⟨rfl, rfl⟩
        have z1 : ((s'.certs.length : Int) != (s'.certs.length : Int)) = false := by simp
        have z2 : decide ((r : Int) < (s'.certs.length : Int)) = false := decide_eq_false (by omega)
        have z3 : decide ((s'.certs.length : Int) < 0) = false := decide_eq_false (by omega)
        have z4 : decide (r < s'.certs.length) = false := decide_eq_false (by omega)
        clear x1 x2 f4
        go_wp2
        go_roundw
        case rel => exact ⟨k + 1, s', B4, by omega, by omega, rfl, by go_num, Lib.hid ⟨S4.out, BB4.out, K4.out, R4.out, by omega, by omega⟩⟩
        case measure => simp [intOf]; omega
      · have g6 : (kind == 1) = false := beq_eq_false_iff_ne.2 hk1
        have LE := Lib.hid (len_any _ b B s S3.out)
        go_wp2_with fail
        (with_reducible refine (LE.out).mono ?_)
        rintro e w5 ⟨rfl, rfl⟩
        have z2 : decide ((r : Int) < (s.certs.length : Int)) = false := decide_eq_false (by omega)
        have z3 : decide ((s.certs.length : Int) < 0) = false := decide_eq_false (by omega)
        have z4 : decide (r < s.certs.length) = false := decide_eq_false (by omega)
        go_wp2
        go_roundw
        case rel => exact ⟨k + 1, s, B, by omega, by omega, rfl, by go_num, Lib.hid ⟨S3.out, BB.out, K3.out, SR.out, by omega, by omega⟩⟩
        case measure => simp [intOf]; omega
end Go.Proofs.Ytdgmjablkdemmaa
