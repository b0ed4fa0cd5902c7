/-
  StoreOnce: the walk.
-/
import Derived.Test.YtdgmjablkdemmaaTOnceP
namespace Go.Proofs.Ytdgmjablkdemmaa
open Go.RowKit Go.Maps

theorem sput_of {w : World} {b : Nat} {B : Nat → Prop} {s s' : PStore} {c : BCert} {sa : Option Addr} {sc i e : Nat} {G : Nat → Prop} (hp : putS s c = (i, e, s')) (h : StoreAt w b B s) (hc : CertAt w (.slice sa c.fr.length sc) G c) (hG : ∀ k, G k → k < w.heap.size ∧ ¬ B k) (hn : s.next ≤ 1000000) (ht : s.turn ≤ 1000000) :
    Calls Try.prog 23 #[.pointer (some ⟨b, 0, none⟩), certV c (.slice sa c.fr.length sc)] w (PutRes w b B (i, e, s')) := by
  rw [← hp]; exact sput_any w b B s c sa sc G h hc hG hn ht
theorem get_of {w : World} {b : Nat} {B : Nat → Prop} {s : PStore} {x : Int} {c : BCert} (hg : s.get x = some c) (h : StoreAt w b B s) (x1 : -9223372036854775808 ≤ x) (x2 : x ≤ 9223372036854775807) :
    Calls Try.prog 16 #[.pointer (some ⟨b, 0, none⟩), .int .i64 x] w fun e w' => ∃ v, e = .returned (.tuple #[certV c v, .bool true]) ∧ w'.ownsRow w.heap.size 33 1 v c.fr.length (wcells c.fr) ∧ Chg (fun _ => False) w w' :=
  (get_any w b B s x h x1 x2).mono fun e w' ⟨h, k⟩ => by
    rcases h with ⟨d, v, e1, e2, e3⟩ | ⟨e1, _⟩
    · rw [hg] at e1; cases e1
      exact ⟨v, e2, e3, k⟩
    · rw [hg] at e1; cases e1
theorem cert_own {w w' : World} {c : BCert} {v : Value} {base : Nat} (h : CertAt w v (· < base) c) (u : Value) (hu : w'.ownsRow base 33 1 u c.fr.length (wcells c.fr)) (hs : ∀ x ∈ c.fr, x.size ≤ maxLen) : CertAt w' u (fun k => u.ownBlock = some k) c :=
  ⟨setAt_own hu hs, h.sp, h.sg⟩
set_option maxHeartbeats 8000000 in
set_option maxRecDepth 100000 in
theorem once_law (w : World) (room : Int) (v : Value) (A : List BAct) (hv : ActsAt w v (· < w.heap.size) A) :
    Calls Try.prog 5 #[.int .i64 room, v] w fun e w' => e = .returned (.bool true) ∧ Chg (fun _ => False) w w' := by
  have HV := Lib.hid hv
  obtain ⟨la, cap, rfl, hl0, _⟩ := hv
  unfold maxLen at hl0
  have AW := Lib.hid (awake15_any w)
  go_enter Try.func5, Try.ntmps5
  go_wp2_with fail
  (with_reducible refine (AW.out).mono ?_)
  rintro e w1 ⟨rfl, k1⟩
  have K1 := Lib.hid k1
  have hs1 := k1.size
  clear AW k1
  by_cases hroom : 1 ≤ room ∧ room ≤ 200
  rotate_left
  · have NB := Lib.hid (new_bad w1 room hroom)
    go_wp2_with fail
    (with_reducible refine (NB.out).mono ?_)
    rintro e w2 ⟨rfl, rfl⟩
    go_wp2
    go_ret
    exact ⟨rfl, K1.out⟩
  obtain ⟨r, rfl⟩ : ∃ r : Nat, room = (r : Int) := ⟨room.toNat, by omega⟩
  have NW := Lib.hid (new_ok w1 r (by omega) (by omega))
  have hr2 : r ≤ 200 := by omega
  clear hroom
  go_wp2_with fail
  (with_reducible refine (NW.out).mono ?_)
  rintro e w2 ⟨b, B0, rfl, h2, hb2, k2⟩
  have S2 := Lib.hid h2
  have K2 := Lib.hid (K1.out.trans k2)
  have BB2 := Lib.hid (show ∀ j, B0 j → w.heap.size ≤ j from fun j hj => by have := hb2 j hj; omega)
  clear NW h2 hb2 k2
  go_wp2_with fail
  go_loopw [6, 7] (fun nv iv wr => ∃ (k : Nat) (s : PStore) (B : Nat → Prop) (l : Int), k ≤ A.length ∧ k ≤ 100 ∧ nv = .int .i64 l ∧ iv = .int .i64 k ∧ Hid (StoreAt wr b B s ∧ (∀ j, B j → w.heap.size ≤ j) ∧ Chg (fun _ => False) w wr ∧ s.room = r ∧ s.next ≤ k ∧ s.turn ≤ k ∧ l = (s.next : Int) - 1)) (fun _ iv _ => 100 - (intOf iv).toNat)
  case atStart => exact ⟨0, newS r, B0, -1, by omega, by omega, rfl, rfl, Lib.hid ⟨S2.out, BB2.out, K2.out, rfl, Nat.le_refl _, Nat.le_refl _, rfl⟩⟩
  case round =>
    obtain ⟨k, s, B, l, hk, hk2, rfl, rfl, HI⟩ := hrel
    obtain ⟨hst, hbb, hkc, hsr, hsn, hsu, hll⟩ := HI.out
    have ST := Lib.hid hst
    have BB := Lib.hid hbb
    have KC := Lib.hid hkc
    have SR := Lib.hid hsr
    have LL := Lib.hid hll
    have hlen : s.certs.length ≤ r := by rw [← hsr]; exact hst.inv.len
    have hl1 : -1 ≤ l := by omega
    have hl2 : l ≤ 100 := by omega
    clear HI hst hbb hkc hsr hll
    by_cases hlt : k < A.length
    rotate_left
    · obtain rfl : k = A.length := by omega
      go_wp2
      go_ret
      exact ⟨rfl, KC.out⟩
    by_cases h100 : k < 100
    rotate_left
    · have g1 : decide ((k : Int) < (A.length : Int)) = true := decide_eq_true (by omega)
      have g2 : decide ((k : Int) < 100) = false := decide_eq_false (by omega)
      have g3 : decide (k < A.length) = true := decide_eq_true hlt
      have g4 : decide (k < 100) = false := decide_eq_false h100
      go_wp2
      go_ret
      exact ⟨rfl, KC.out⟩
    have g1 : decide ((k : Int) < (A.length : Int)) = true := decide_eq_true (by omega)
    have g2 : decide ((k : Int) < 100) = true := decide_eq_true (by omega)
    have g3 : decide (k < A.length) = true := decide_eq_true hlt
    have g4 : decide (k < 100) = true := decide_eq_true h100
    obtain ⟨x, hx⟩ : ∃ x, A[k]? = some x := ⟨_, List.getElem?_eq_getElem hlt⟩
    obtain ⟨_, _, e1, _, hcl⟩ := HV.out.chg KC.out (fun _ _ e => e)
    cases e1
    obtain ⟨g, o, sa, sc, rfl, _, c0, c1, c2, c3, c4, c5, c6, c7, c8, hca⟩ := hcl k x hx
    clear hcl hx
    obtain ⟨kind, ⟨ck, sg, sp, fr, f, t, n⟩, T⟩ := x
    simp only at c0 c1 c2 c3 c4 c5 c6 c7 c8 hca
    have ka := chg_alloc (fun _ => False) wr (.cells #[.int .i64 kind, .int .i64 ck, .int .u16 (sg : Int), .string sp, .slice sa fr.length sc, .int .i64 f, .int .i64 t, .int .i64 n, .int .i64 T] 47)
    have LG := large15_any (wr.alloc (.cells #[.int .i64 kind, .int .i64 ck, .int .u16 (sg : Int), .string sp, .slice sa fr.length sc, .int .i64 f, .int .i64 t, .int .i64 n, .int .i64 T] 47)) ⟨ck, sg, sp, fr, f, t, n⟩ sa sc (· < w.heap.size) (hca.chg ka (fun _ _ e => e))
    unfold certV at LG
    have LG := Lib.hid LG
    have HCA := Lib.hid (hca.chg ka (fun _ _ e => e))
    have OA := Lib.hid (obj_alloc_new wr (.cells #[.int .i64 kind, .int .i64 ck, .int .u16 (sg : Int), .string sp, .slice sa fr.length sc, .int .i64 f, .int .i64 t, .int .i64 n, .int .i64 T] 47))
    have SA := Lib.hid (ST.out.chg ka (fun _ _ e => e))
    have KA := Lib.hid (KC.out.trans ka)
    have NB := Lib.hid (show ¬ B wr.heap.size from fun q => Nat.lt_irrefl _ (ST.out.lt q))
    clear ka hca ST
    go_wp2_with fail
    generalize wr.alloc (.cells #[.int .i64 kind, .int .i64 ck, .int .u16 (sg : Int), .string sp, .slice sa fr.length sc, .int .i64 f, .int .i64 t, .int .i64 n, .int .i64 T] 47) = wa at *
    (with_reducible refine (LG.out).mono ?_)
    rintro e w3 ⟨lg, rfl, k3⟩
    have O3 := Lib.hid (k3.obj (fun e => e) OA.out)
    have S3 := Lib.hid (SA.out.chg k3 (fun _ _ e => e))
    have K3 := Lib.hid (KA.out.trans k3)
    have C3 := Lib.hid (HCA.out.chg k3 (fun _ _ e => e))
    clear k3 LG OA SA KA HCA c0 c1 c2 c3 c4 c5 c6 c7 c8
    cases lg with
    | true =>
      go_wp2
      go_ret
      exact ⟨rfl, K3.out⟩
    | false =>
    have d0 := cell_of (o := 0) O3.out rfl
    have d1 := cell_of (o := 1) O3.out rfl
    have d2 := cell_of (o := 2) O3.out rfl
    have d3 := cell_of (o := 3) O3.out rfl
    have d4 := cell_of (o := 4) O3.out rfl
    have d5 := cell_of (o := 5) O3.out rfl
    have d6 := cell_of (o := 6) O3.out rfl
    have d7 := cell_of (o := 7) O3.out rfl
    have d8 := cell_of (o := 8) O3.out rfl
    have hs3 := K3.out.size
    by_cases hk1 : kind = 1
    · subst hk1
      have SW := sweep_any w3 b B s T S3.out (by omega) (by omega)
      obtain ⟨f1, f2, f3, _⟩ := sweepS_facts s T
      generalize sweepS s T = s' at *
      generalize s.gone T = gl at *
      unfold SweepRes at SW
      have SW := Lib.hid SW
      have F1 := Lib.hid f1
      have F2 := Lib.hid f2
      clear f1 f2
      go_wp2_with fail
      (with_reducible refine (SW.out).mono ?_)
      rintro e w4 ⟨v4, B4, rfl, ho, h4, k4, hb4, _⟩
      have S4 := Lib.hid h4
      have K4 := Lib.hid (K3.out.next k4 (fun j hj e => by have := BB.out j e; omega))
      have BB4 := Lib.hid (show ∀ j, B4 j → w.heap.size ≤ j from fun j hj => by
        rcases hb4 j hj with q | q
        · exact BB.out j q
        · omega)
      have R4 := Lib.hid (show s'.room = r from by rw [F1.out]; exact SR.out)
      have O4 := Lib.hid (k4.obj NB.out O3.out)
      clear SW h4 k4 hb4 S3 K3 C3 O3 ho F1 d0 d1 d2 d3 d4 d5 d6 d7 d8
      have d0 := cell_of (o := 0) O4.out rfl
      go_wp2
      go_roundw
      case rel => exact ⟨k + 1, s', B4, l, by omega, by omega, rfl, by go_num, Lib.hid ⟨S4.out, BB4.out, K4.out, R4.out, by rw [F2.out]; omega, by omega, by rw [F2.out]; exact LL.out⟩⟩
      case measure => simp [intOf]; omega
    have g5 : (kind == 1) = false := beq_eq_false_iff_ne.2 hk1
    by_cases hk0 : kind = 0
    rotate_left
    · have g6 : (kind != 0) = true := by rw [bne_iff_ne]; exact hk0
      go_wp2
      go_roundw
      case rel => exact ⟨k + 1, s, B, l, by omega, by omega, rfl, by go_num, Lib.hid ⟨S3.out, BB.out, K3.out, SR.out, by omega, by omega, LL.out⟩⟩
      case measure => simp [intOf]; omega
    subst hk0
    clear hk1 g5
    have hz : fr.length ≤ maxLen ∧ ∀ x ∈ fr, x.size ≤ maxLen := by
      obtain ⟨la', cap', e1, e2, e3⟩ := C3.out.set.at_
      exact ⟨by simpa using e2, fun x hx => by
        obtain ⟨j, hj⟩ := List.mem_iff_getElem?.1 hx
        obtain ⟨_, _, _, _, _, q⟩ := e3 j x hj
        exact q⟩
    have HZ := Lib.hid hz
    clear hz
    have LE := Lib.hid (len_any w3 b B s S3.out)
    have TU := Lib.hid (turn_any w3 b B s S3.out)
    go_wp2_with fail
    (with_reducible refine (LE.out).mono ?_)
    rintro e w5 ⟨rfl, rfl⟩
    go_wp2_with fail
    (with_reducible refine (TU.out).mono ?_)
    rintro e w5 ⟨rfl, rfl⟩
    have hG : ∀ j, j < w.heap.size → j < w3.heap.size ∧ ¬ B j := fun j hj => ⟨Nat.lt_of_lt_of_le hj hs3, fun e => by have := BB.out j e; omega⟩
    have HG := Lib.hid hG
    clear hG
    have OF := once_facts S3.out.inv ⟨ck, sg, sp, fr, f, t, n⟩
    rcases OF with ⟨pe, hpe, hp⟩ | ⟨i, hi, hp, hg⟩ | ⟨hp, hp2, hg⟩
    · have PU := sput_of hp S3.out C3.out HG.out (by omega) (by omega)
      unfold certV PutRes at PU
      simp only at PU
      have PU := Lib.hid PU
      have z0 : ((pe : Int) != 0) = true := by rw [bne_iff_ne]; omega
      have z1 : (pe != 0) = true := by rw [bne_iff_ne]; omega
      have PE := Lib.hid (show pe = 3 → s.certs.length = r from fun e => by
        rcases hpe with q | q
        · omega
        · rw [← SR.out]; exact q.2)
      clear hpe hp
      go_wp2_with fail
      clear d0 d1 d2 d3 d4 d5 d6 d7 d8
      (with_reducible refine (PU.out).mono ?_)
      rintro e w4 ⟨B4, rfl, h4, k4, hb4⟩
      have S4 := Lib.hid h4
      have K4 := Lib.hid (K3.out.next k4 (fun j hj e => by have := BB.out j e; omega))
      have BB4 := Lib.hid (show ∀ j, B4 j → w.heap.size ≤ j from fun j hj => by
        rcases hb4 j hj with q | q
        · exact BB.out j q
        · omega)
      have LE2 := Lib.hid (len_any w4 b B4 s S4.out)
      have TU2 := Lib.hid (turn_any w4 b B4 s S4.out)
      clear PU h4 k4 hb4 S3 K3 C3 O3 LE TU
      by_cases he : pe = 3
      · subst he
        have hq := PE.out rfl
        have y0 : ((s.certs.length : Int) != (r : Int)) = false := by rw [hq]; simp
        have y1 : (s.certs.length != r) = false := by rw [hq]; simp
        clear hq PE
        go_wp2_with fail
        (with_reducible refine (LE2.out).mono ?_)
        rintro e w5 ⟨rfl, rfl⟩
        go_wp2_with fail
        (with_reducible refine (TU2.out).mono ?_)
        rintro e w5 ⟨rfl, rfl⟩
        go_wp2
        go_roundw
        case rel => exact ⟨k + 1, s, B4, l, by omega, by omega, rfl, by go_num, Lib.hid ⟨S4.out, BB4.out, K4.out, SR.out, by omega, by omega, LL.out⟩⟩
        case measure => simp [intOf]; omega
      · have y0 : ((pe : Int) == 3) = false := beq_eq_false_iff_ne.2 (by omega)
        have y1 : (pe == 3) = false := beq_eq_false_iff_ne.2 he
        clear PE
        go_wp2_with fail
        (with_reducible refine (LE2.out).mono ?_)
        rintro e w5 ⟨rfl, rfl⟩
        go_wp2_with fail
        (with_reducible refine (TU2.out).mono ?_)
        rintro e w5 ⟨rfl, rfl⟩
        go_wp2
        go_roundw
        case rel => exact ⟨k + 1, s, B4, l, by omega, by omega, rfl, by go_num, Lib.hid ⟨S4.out, BB4.out, K4.out, SR.out, by omega, by omega, LL.out⟩⟩
        case measure => simp [intOf]; omega
    · have PU := sput_of hp S3.out C3.out HG.out (by omega) (by omega)
      unfold certV PutRes at PU
      simp only at PU
      have PU := Lib.hid PU
      have HP := Lib.hid hp
      have HGT := Lib.hid hg
      have hpn : s.next ≤ 1000 := by omega
      have hpt : s.turn ≤ 1000 := by omega
      have hil : (i : Int) ≤ l := by have := LL.out; omega
      have m1 : decide (l + 1 < (i : Int)) = false := decide_eq_false (by omega)
      have m2 : ((i : Int) == l + 1) = false := beq_eq_false_iff_ne.2 (by omega)
      have m3 : decide ((i : Int) ≤ l) = true := decide_eq_true hil
      clear hp hg
      go_wp2_with fail
      clear d0 d1 d2 d3 d4 d5 d6 d7 d8
      (with_reducible refine (PU.out).mono ?_)
      rintro e w4 ⟨B4, rfl, h4, k4, hb4⟩
      have S4 := Lib.hid h4
      have K4 := Lib.hid (K3.out.next k4 (fun j hj e => by have := BB.out j e; omega))
      have BB4 := Lib.hid (show ∀ j, B4 j → w.heap.size ≤ j from fun j hj => by
        rcases hb4 j hj with q | q
        · exact BB.out j q
        · omega)
      have O4 := Lib.hid (k4.obj NB.out O3.out)
      have C4 := Lib.hid (C3.out.chg k4 (fun j hj => (HG.out j hj).2))
      have hs4 := k4.size
      have NB4 := Lib.hid (show ¬ B4 wr.heap.size from fun q => by
        rcases hb4 _ q with q | q
        · exact NB.out q
        · have := lt_of_obj O3.out; omega)
      have LE2 := Lib.hid (len_any w4 b B4 s S4.out)
      have TU2 := Lib.hid (turn_any w4 b B4 s S4.out)
      clear PU h4 k4 hb4 S3 K3 C3 O3 LE TU
      go_wp2_with fail
      (with_reducible refine (LE2.out).mono ?_)
      rintro e w5 ⟨rfl, rfl⟩
      go_wp2_with fail
      (with_reducible refine (TU2.out).mono ?_)
      rintro e w5 ⟨rfl, rfl⟩
      have d0 := cell_of (o := 0) O4.out rfl
      have d1 := cell_of (o := 1) O4.out rfl
      have d2 := cell_of (o := 2) O4.out rfl
      have d3 := cell_of (o := 3) O4.out rfl
      have d4 := cell_of (o := 4) O4.out rfl
      have d5 := cell_of (o := 5) O4.out rfl
      have d6 := cell_of (o := 6) O4.out rfl
      have d7 := cell_of (o := 7) O4.out rfl
      have d8 := cell_of (o := 8) O4.out rfl
      have PU2 := sput_of HP.out S4.out C4.out (fun j hj => ⟨Nat.lt_of_lt_of_le hj (Nat.le_trans hs3 hs4), fun e => by have := BB4.out j e; omega⟩) (by omega) (by omega)
      unfold certV PutRes at PU2
      simp only at PU2
      have PU2 := Lib.hid PU2
      go_wp2_with fail
      clear m1 m2 m3
      clear d0 d1 d2 d3 d4 d5 d6 d7 d8
      (with_reducible refine (PU2.out).mono ?_)
      rintro e w6 ⟨B6, rfl, h6, k6, hb6⟩
      have S6 := Lib.hid h6
      have K6 := Lib.hid (K4.out.next k6 (fun j hj e => by have := BB4.out j e; omega))
      have BB6 := Lib.hid (show ∀ j, B6 j → w.heap.size ≤ j from fun j hj => by
        rcases hb6 j hj with q | q
        · exact BB4.out j q
        · omega)
      have O6 := Lib.hid (k6.obj NB4.out O4.out)
      have C6 := Lib.hid (C4.out.chg k6 (fun j hj e => by have := BB4.out j e; omega))
      have GE := get_of HGT.out S6.out (by omega) (by omega)
      unfold certV at GE
      have GE := Lib.hid GE
      clear PU2 h6 k6 hb6 S4 K4 C4 O4 LE2 TU2
      go_wp2_with fail
      (with_reducible refine (GE.out).mono ?_)
      rintro e w7 ⟨v7, rfl, ho7, k7⟩
      obtain ⟨a7, c7, rfl⟩ := own_shape ho7
      have S7 := Lib.hid (S6.out.chg k7 (fun _ _ e => e))
      have K7 := Lib.hid (K6.out.trans k7)
      have C7 := Lib.hid (C6.out.chg k7 (fun _ _ e => e))
      have O7 := Lib.hid (k7.obj (fun e => e) O6.out)
      have D7 := Lib.hid (show CertAt w7 (.slice a7 fr.length c7) (fun k => (Value.slice a7 fr.length c7).ownBlock = some k) ⟨ck, sg, sp, fr, f, t, n⟩ from ⟨setAt_own ho7 HZ.out.2, C6.out.sp, C6.out.sg⟩)
      clear GE ho7 k7 S6 K6 C6 O6
      have ka := chg_alloc (fun _ => False) w7 (.cells #[.int .i64 ck, .int .u16 (sg : Int), .string sp, .slice a7 fr.length c7, .int .i64 f, .int .i64 t, .int .i64 n] 37)
      have S8 := Lib.hid (S7.out.chg ka (fun _ _ e => e))
      have K8 := Lib.hid (K7.out.trans ka)
      have C8 := Lib.hid (C7.out.chg ka (fun _ _ e => e))
      have D8 := Lib.hid (D7.out.chg ka (fun _ _ e => e))
      have O8 := Lib.hid (ka.obj (fun e => e) O7.out)
      have P8 := Lib.hid (obj_alloc_new w7 (.cells #[.int .i64 ck, .int .u16 (sg : Int), .string sp, .slice a7 fr.length c7, .int .i64 f, .int .i64 t, .int .i64 n] 37))
      have SM := same8_any (w7.alloc (.cells #[.int .i64 ck, .int .u16 (sg : Int), .string sp, .slice a7 fr.length c7, .int .i64 f, .int .i64 t, .int .i64 n] 37)) ⟨ck, sg, sp, fr, f, t, n⟩ a7 sa c7 sc _ _ D8.out C8.out
      unfold certV at SM
      have SM := Lib.hid SM
      clear ka S7 K7 C7 D7 O7
      have d0 := cell_of (o := 0) O8.out rfl
      have d1 := cell_of (o := 1) O8.out rfl
      have d2 := cell_of (o := 2) O8.out rfl
      have d3 := cell_of (o := 3) O8.out rfl
      have d4 := cell_of (o := 4) O8.out rfl
      have d5 := cell_of (o := 5) O8.out rfl
      have d6 := cell_of (o := 6) O8.out rfl
      have d7 := cell_of (o := 7) O8.out rfl
      have d8 := cell_of (o := 8) O8.out rfl
      have p0 := cell_of (o := 0) P8.out rfl
      have p1 := cell_of (o := 1) P8.out rfl
      have p2 := cell_of (o := 2) P8.out rfl
      have p3 := cell_of (o := 3) P8.out rfl
      have p4 := cell_of (o := 4) P8.out rfl
      have p5 := cell_of (o := 5) P8.out rfl
      have p6 := cell_of (o := 6) P8.out rfl
      go_wp2_with fail
      generalize w7.alloc (.cells #[.int .i64 ck, .int .u16 (sg : Int), .string sp, .slice a7 fr.length c7, .int .i64 f, .int .i64 t, .int .i64 n] 37) = w8 at *
      (with_reducible refine (SM.out).mono ?_)
      rintro e w9 ⟨rfl, k9⟩
      have S9 := Lib.hid (S8.out.chg k9 (fun _ _ e => e))
      have K9 := Lib.hid (K8.out.trans k9)
      clear k9 S8 K8 C8 D8 O8 P8 SM d0 d1 d2 d3 d4 d5 d6 d7 d8 p0 p1 p2 p3 p4 p5 p6
      go_wp2
      go_roundw
      case rel => exact ⟨k + 1, s, B6, l, by omega, by omega, (by rw [Int.max_eq_left hil]), by go_num, Lib.hid ⟨S9.out, BB6.out, K9.out, SR.out, by omega, by omega, LL.out⟩⟩
      case measure => simp [intOf]; omega
    · have PU := sput_of hp S3.out C3.out HG.out (by omega) (by omega)
      unfold certV PutRes at PU
      simp only at PU
      have PU := Lib.hid PU
      have hp3 := hp2
      have hinv := S3.out.inv
      have pn : (s.plus ⟨ck, sg, sp, fr, f, t, n⟩).next = s.next + 1 := rfl
      have pt : (s.plus ⟨ck, sg, sp, fr, f, t, n⟩).turn = s.turn + 1 := rfl
      have pl : (s.plus ⟨ck, sg, sp, fr, f, t, n⟩).certs.length = s.certs.length + 1 := by unfold PStore.plus; simp
      have pr : (s.plus ⟨ck, sg, sp, fr, f, t, n⟩).room = r := SR.out
      generalize s.plus ⟨ck, sg, sp, fr, f, t, n⟩ = ps at *
      have hpn : ps.next ≤ 1000 := by omega
      have hpt : ps.turn ≤ 1000 := by omega
      obtain ⟨i, HI⟩ : ∃ i, Hid (i = s.next) := ⟨_, Lib.hid rfl⟩
      have hil : (i : Int) = l + 1 := by have := HI.out; have := LL.out; omega
      rw [← HI.out] at hp2 hg PU
      have HP := Lib.hid hp2
      have HGT := Lib.hid hg
      have m1 : decide (l + 1 < (i : Int)) = false := decide_eq_false (by omega)
      have m2 : ((i : Int) == l + 1) = true := by rw [beq_iff_eq]; exact hil
      have m3 : decide ((i : Int) ≤ l) = false := decide_eq_false (by omega)
      have m4 : ((ps.certs.length : Int) != (s.certs.length : Int) + 1) = false := by rw [pl]; simp
      have m5 : ((ps.turn : Int) != (s.turn : Int) + 1) = false := by rw [pt]; simp
      have hi1 : l < (i : Int) := by omega
      have hi2 : (i : Int) ≤ 1000 := by omega
      have PN := Lib.hid pn
      have PT := Lib.hid pt
      have PL := Lib.hid pl
      have PR := Lib.hid pr
      have HIL := Lib.hid hil
      clear hp hp2 hp3 hg pn pt pl pr hil hinv
      go_wp2_with fail
      clear d0 d1 d2 d3 d4 d5 d6 d7 d8
      (with_reducible refine (PU.out).mono ?_)
      rintro e w4 ⟨B4, rfl, h4, k4, hb4⟩
      have S4 := Lib.hid h4
      have K4 := Lib.hid (K3.out.next k4 (fun j hj e => by have := BB.out j e; omega))
      have BB4 := Lib.hid (show ∀ j, B4 j → w.heap.size ≤ j from fun j hj => by
        rcases hb4 j hj with q | q
        · exact BB.out j q
        · omega)
      have O4 := Lib.hid (k4.obj NB.out O3.out)
      have C4 := Lib.hid (C3.out.chg k4 (fun j hj => (HG.out j hj).2))
      have hs4 := k4.size
      have NB4 := Lib.hid (show ¬ B4 wr.heap.size from fun q => by
        rcases hb4 _ q with q | q
        · exact NB.out q
        · have := lt_of_obj O3.out; omega)
      have LE2 := Lib.hid (len_any w4 b B4 ps S4.out)
      have TU2 := Lib.hid (turn_any w4 b B4 ps S4.out)
      clear PU h4 k4 hb4 S3 K3 C3 O3 LE TU
      go_wp2_with fail
      (with_reducible refine (LE2.out).mono ?_)
      rintro e w5 ⟨rfl, rfl⟩
      go_wp2_with fail
      (with_reducible refine (TU2.out).mono ?_)
      rintro e w5 ⟨rfl, rfl⟩
      have d0 := cell_of (o := 0) O4.out rfl
      have d1 := cell_of (o := 1) O4.out rfl
      have d2 := cell_of (o := 2) O4.out rfl
      have d3 := cell_of (o := 3) O4.out rfl
      have d4 := cell_of (o := 4) O4.out rfl
      have d5 := cell_of (o := 5) O4.out rfl
      have d6 := cell_of (o := 6) O4.out rfl
      have d7 := cell_of (o := 7) O4.out rfl
      have d8 := cell_of (o := 8) O4.out rfl
      have PU2 := sput_of HP.out S4.out C4.out (fun j hj => ⟨Nat.lt_of_lt_of_le hj (Nat.le_trans hs3 hs4), fun e => by have := BB4.out j e; omega⟩) (by omega) (by omega)
      unfold certV PutRes at PU2
      simp only at PU2
      have PU2 := Lib.hid PU2
      go_wp2_with fail
      clear m1 m2 m3 m4 m5
      clear d0 d1 d2 d3 d4 d5 d6 d7 d8
      (with_reducible refine (PU2.out).mono ?_)
      rintro e w6 ⟨B6, rfl, h6, k6, hb6⟩
      have S6 := Lib.hid h6
      have K6 := Lib.hid (K4.out.next k6 (fun j hj e => by have := BB4.out j e; omega))
      have BB6 := Lib.hid (show ∀ j, B6 j → w.heap.size ≤ j from fun j hj => by
        rcases hb6 j hj with q | q
        · exact BB4.out j q
        · omega)
      have O6 := Lib.hid (k6.obj NB4.out O4.out)
      have C6 := Lib.hid (C4.out.chg k6 (fun j hj e => by have := BB4.out j e; omega))
      have GE := get_of HGT.out S6.out (by omega) (by omega)
      unfold certV at GE
      have GE := Lib.hid GE
      clear PU2 h6 k6 hb6 S4 K4 C4 O4 LE2 TU2
      go_wp2_with fail
      (with_reducible refine (GE.out).mono ?_)
      rintro e w7 ⟨v7, rfl, ho7, k7⟩
      obtain ⟨a7, c7, rfl⟩ := own_shape ho7
      have S7 := Lib.hid (S6.out.chg k7 (fun _ _ e => e))
      have K7 := Lib.hid (K6.out.trans k7)
      have C7 := Lib.hid (C6.out.chg k7 (fun _ _ e => e))
      have O7 := Lib.hid (k7.obj (fun e => e) O6.out)
      have D7 := Lib.hid (show CertAt w7 (.slice a7 fr.length c7) (fun k => (Value.slice a7 fr.length c7).ownBlock = some k) ⟨ck, sg, sp, fr, f, t, n⟩ from ⟨setAt_own ho7 HZ.out.2, C6.out.sp, C6.out.sg⟩)
      clear GE ho7 k7 S6 K6 C6 O6
      have ka := chg_alloc (fun _ => False) w7 (.cells #[.int .i64 ck, .int .u16 (sg : Int), .string sp, .slice a7 fr.length c7, .int .i64 f, .int .i64 t, .int .i64 n] 37)
      have S8 := Lib.hid (S7.out.chg ka (fun _ _ e => e))
      have K8 := Lib.hid (K7.out.trans ka)
      have C8 := Lib.hid (C7.out.chg ka (fun _ _ e => e))
      have D8 := Lib.hid (D7.out.chg ka (fun _ _ e => e))
      have O8 := Lib.hid (ka.obj (fun e => e) O7.out)
      have P8 := Lib.hid (obj_alloc_new w7 (.cells #[.int .i64 ck, .int .u16 (sg : Int), .string sp, .slice a7 fr.length c7, .int .i64 f, .int .i64 t, .int .i64 n] 37))
      have SM := same8_any (w7.alloc (.cells #[.int .i64 ck, .int .u16 (sg : Int), .string sp, .slice a7 fr.length c7, .int .i64 f, .int .i64 t, .int .i64 n] 37)) ⟨ck, sg, sp, fr, f, t, n⟩ a7 sa c7 sc _ _ D8.out C8.out
      unfold certV at SM
      have SM := Lib.hid SM
      clear ka S7 K7 C7 D7 O7
      have d0 := cell_of (o := 0) O8.out rfl
      have d1 := cell_of (o := 1) O8.out rfl
      have d2 := cell_of (o := 2) O8.out rfl
      have d3 := cell_of (o := 3) O8.out rfl
      have d4 := cell_of (o := 4) O8.out rfl
      have d5 := cell_of (o := 5) O8.out rfl
      have d6 := cell_of (o := 6) O8.out rfl
      have d7 := cell_of (o := 7) O8.out rfl
      have d8 := cell_of (o := 8) O8.out rfl
      have p0 := cell_of (o := 0) P8.out rfl
      have p1 := cell_of (o := 1) P8.out rfl
      have p2 := cell_of (o := 2) P8.out rfl
      have p3 := cell_of (o := 3) P8.out rfl
      have p4 := cell_of (o := 4) P8.out rfl
      have p5 := cell_of (o := 5) P8.out rfl
      have p6 := cell_of (o := 6) P8.out rfl
      go_wp2_with fail
      generalize w7.alloc (.cells #[.int .i64 ck, .int .u16 (sg : Int), .string sp, .slice a7 fr.length c7, .int .i64 f, .int .i64 t, .int .i64 n] 37) = w8 at *
      (with_reducible refine (SM.out).mono ?_)
      rintro e w9 ⟨rfl, k9⟩
      have S9 := Lib.hid (S8.out.chg k9 (fun _ _ e => e))
      have K9 := Lib.hid (K8.out.trans k9)
      clear k9 S8 K8 C8 D8 O8 P8 SM d0 d1 d2 d3 d4 d5 d6 d7 d8 p0 p1 p2 p3 p4 p5 p6
      go_wp2
      go_roundw
      case rel => exact ⟨k + 1, ps, B6, i, by omega, by omega, (by rw [Int.max_eq_right (Int.le_of_lt hi1)]), by go_num, Lib.hid ⟨S9.out, BB6.out, K9.out, PR.out, by rw [PN.out]; omega, by rw [PT.out]; omega, by rw [PN.out]; have := HI.out; omega⟩⟩
      case measure => simp [intOf]; omega
end Go.Proofs.Ytdgmjablkdemmaa
