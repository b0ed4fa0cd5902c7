/-
  The reference of layer 20: Open.
-/
import Derived.Test.YtnmgnhhipgiggaaJRef7
namespace Go.Proofs.Ytnmgnhhipgiggaa
open Go.RowKit

def rjcells (R : RB) (j : Jr) : List Value := [R.ptr, .int .i64 j.number, .int .i64 j.half, .string j.text]
structure RJAt (w : World) (R : RB) (b : Nat) (j : Jr) : Prop where
  hb : w.heap[b]? = some (.cells (rjcells R j).toArray 52 (0, 0))
theorem RJAt.c0 {w : World} {R : RB} {b : Nat} {j : Jr} (h : RJAt w R b j) : w.cell? ⟨b, 0, none⟩ = some (.pointer (some ⟨R.b, 0, none⟩)) := cell_of h.hb rfl
theorem RJAt.c1 {w : World} {R : RB} {b : Nat} {j : Jr} (h : RJAt w R b j) : w.cell? ⟨b, 1, none⟩ = some (.int .i64 j.number) := cell_of h.hb rfl
theorem RJAt.c2 {w : World} {R : RB} {b : Nat} {j : Jr} (h : RJAt w R b j) : w.cell? ⟨b, 2, none⟩ = some (.int .i64 j.half) := cell_of h.hb rfl
theorem RJAt.c3 {w : World} {R : RB} {b : Nat} {j : Jr} (h : RJAt w R b j) : w.cell? ⟨b, 3, none⟩ = some (.string j.text) := cell_of h.hb rfl
theorem RJAt.chg {S : Nat → Prop} {w w' : World} {R : RB} {b : Nat} {j : Jr} (h : RJAt w R b j) (hc : Chg S w w') (hs : ¬ S b) : RJAt w' R b j := ⟨hc.obj hs h.hb⟩
def ROpenPost (w : World) (R : RB) (d : Dev) (e : Ending) (w' : World) : Prop :=
  (d.bad ∧ e = .returned (.tuple #[.pointer none, .int .i64 2]) ∧ Chg (fun _ => False) w w') ∨
  (¬ d.bad ∧ ∃ b, e = .returned (.tuple #[jptr b, .int .i64 0]) ∧ RJAt w' R b ⟨hnum d.hd, hhalf d.hd, ⟨d.text.toArray⟩⟩ ∧ Chg (fun _ => False) w w' ∧ w.heap.size ≤ b ∧ b < w'.heap.size)
theorem i64of_step (a c : Nat) (ha : a < 72057594037927936) (hc : c < 256) : wrap64 (wrap64 ((a : Int) * 256) + (c : Int)) = i64of (a * 256 + c) := by
  unfold wrap64 i64of; split <;> omega
theorem i64of_small (a : Nat) (ha : a < 72057594037927936) : i64of a = (a : Int) := by unfold i64of; rw [if_pos (by omega)]
theorem append_str (a b : List UInt8) : (⟨a.toArray⟩ : ByteArray) ++ ⟨b.toArray⟩ = ⟨(a ++ b).toArray⟩ := by
  apply ByteArray.ext
  simp [ByteArray.data_append]
theorem size_str (a : List UInt8) : (⟨a.toArray⟩ : ByteArray).size = a.length := by simp [ByteArray.size]
theorem extract_str (a : List UInt8) (n : Nat) : (⟨a.toArray⟩ : ByteArray).extract 0 n = ⟨(a.take n).toArray⟩ := by
  apply ByteArray.ext
  simp [ByteArray.data_extract]

set_option maxHeartbeats 1000000 in
theorem ropen_any (w : World) (R : RB) (d : Dev) (h : RDevAt w R d) :
    Calls Try.prog 12 #[R.ptr] w (ROpenPost w R d) := by
  have n65 := h.ok.hi
  have n3 := h.ok.lo
  have c1 := h.c1
  have H := Lib.hid h; clear h
  have RD := Lib.hid (rread_any w R d 0 H.out)
  have s0 := getD_len H.out.ok.wnow (i := 0) (by rw [H.out.ok.lnow]; omega)
  have hr : d.read 0 = d.hd := by unfold Dev.read; rw [if_neg (by rw [H.out.ok.lnow]; omega)]; rfl
  rw [hr] at RD
  have hm : d.m = (R.n - 1) / 2 := by unfold Dev.m; rw [H.out.ok.lnow]
  have HM := Lib.hid hm
  change (d.hd).length = 32 at s0
  generalize hhd : d.hd = hd at *
  have HHD := Lib.hid hhd
  clear hm hhd hr
  unfold RB.ptr at *
  unfold str at RD
  go_enter Try.func12, Try.ntmps12
  go_wp2_with fail
  refine (RD.out).mono ?_
  rintro e w' ⟨rfl, rfl⟩
  go_wp2
  go_loop [5, 6] (fun x i => ∃ k : Nat, k ≤ 8 ∧ i = .int .i64 k ∧ x = .int .i64 (i64of (be (hd.take k)))) (fun _ i => 8 - (intOf i).toNat)
  case atStart => exact ⟨0, by omega, rfl, by simp [be, i64of]⟩
  case round =>
    obtain ⟨k, hk, rfl, rfl⟩ := hrel
    have lt0 := be_lt (hd.take k)
    rw [List.length_take] at lt0
    have lt1 : be (hd.take k) < 256 ^ k := Nat.lt_of_lt_of_le lt0 (Nat.pow_le_pow_right (by decide) (by omega))
    by_cases hlt : k < 8
    · have lt2 : be (hd.take k) < 72057594037927936 := Nat.lt_of_lt_of_le lt1 (Nat.le_trans (Nat.pow_le_pow_right (by decide) (by omega : k ≤ 7)) (by decide))
      have sn := be_snoc (hd.take k) (hd[k]'(by omega))
      rw [← List.take_succ_eq_append_getElem] at sn
      have SN := Lib.hid sn
      rw [i64of_small _ lt2]
      have LT := Lib.hid lt2
      clear sn lt0 lt1
      generalize be (hd.take k) = n at *
      obtain ⟨x, qx, HX, ex⟩ := byte_at hd k (by omega)
      have EX := Lib.hid (show (hd[k]'(by omega)).toNat = x by rw [← HX.out, List.getD_eq_getElem?_getD, List.getElem?_eq_getElem (by omega)]; rfl)
      have ST := Lib.hid (i64of_step n x LT.out qx)
      go_wp2
      go_round
      case rel =>
        refine ⟨k + 1, by omega, by go_num, ?_⟩
        rw [SN.out, EX.out, ← ST.out]
      case measure => simp [intOf]; omega
    · obtain rfl : k = 8 := by omega
      have HN := Lib.hid (show i64of (be (hd.take 8)) = hnum hd from rfl)
      clear lt0 lt1
      generalize i64of (be (hd.take 8)) = num at *
      obtain ⟨x8, q8, HX8, e8⟩ := byte_at hd 8 (by omega)
      obtain ⟨x9, q9, HX9, e9⟩ := byte_at hd 9 (by omega)
      obtain ⟨x10, q10, HX10, e10⟩ := byte_at hd 10 (by omega)
      have e9' := e9
      have e10' := e10
      unfold wrap64 at e9' e10'
      rw [← IntKind.wrap_i64] at e9' e10'
      have m9 : IntKind.i64.wrap ((x9 : Int) * 256) = (x9 : Int) * 256 := by rw [IntKind.wrap_i64]; omega
      have m10 : IntKind.i64.wrap ((x9 : Int) * 256 + (x10 : Int)) = (x9 : Int) * 256 + (x10 : Int) := by rw [IntKind.wrap_i64]; omega
      have hsz : hsize hd = x9 * 256 + x10 := by unfold hsize; rw [HX9.out, HX10.out]
      have HBAD := Lib.hid (show d.bad ↔ (1 < x8 ∨ (R.n - 1) / 2 * 32 < x9 * 256 + x10) by unfold Dev.bad; rw [HHD.out, HM.out, hsz, show hhalf hd = x8 from HX8.out])
      have HSZ := Lib.hid hsz
      clear hsz
      go_wp2
      refine wp_still_drew (by kernel_rfl) (by kernel_rfl) ?_
      repeat still_step
      refine wpStill_nil ?_
      clear m9 m10 e8 e9 e10 e9' e10'
      have K2 := Lib.hid (chg_drew (fun _ => False) w)
      have D2 := Lib.hid (H.out.chg K2.out (fun _ _ e => e))
      generalize w.drew = w2 at *
      have c1' := D2.out.c1
      by_cases h1 : 1 < x8
      · go_wp2
        go_ret2
        exact .inl ⟨HBAD.out.2 (.inl h1), rfl, K2.out⟩
      · have hh1 : decide (1 < (x8 : Int)) = false := by rw [decide_eq_false_iff_not]; omega
        have ROOM := Lib.hid (rroom_any w2 R.n (by omega) (by omega))
        have hle : (R.n - 1) / 2 ≤ 32 := by omega
        obtain ⟨m, hms⟩ : ∃ m, (R.n - 1) / 2 = m := ⟨_, rfl⟩
        have hmi : ((R.n : Int) - 1) / 2 = (m : Int) := by omega
        have HMI := Lib.hid hmi
        rw [hmi] at ROOM
        rw [hms] at hle HM HBAD
        have HMS := Lib.hid hms
        clear hms hmi
        go_wp2_with fail
        refine (ROOM.out).mono ?_
        rintro e w' ⟨rfl, rfl⟩
        by_cases h2 : m * 32 < x9 * 256 + x10
        · have hh2 : decide ((m : Int) * 32 < (x9 : Int) * 256 + (x10 : Int)) = true := by rw [decide_eq_true_eq]; omega
          go_wp2
          go_ret2
          exact .inl ⟨HBAD.out.2 (.inr h2), rfl, K2.out⟩
        · have hh2 : decide ((m : Int) * 32 < (x9 : Int) * 256 + (x10 : Int)) = false := by rw [decide_eq_false_iff_not]; omega
          have hx8 : x8 * m ≤ m := by rcases (by omega : x8 = 0 ∨ x8 = 1) with rfl | rfl <;> omega
          have hmi := HMI.out
          go_wp2
          go_loop [10, 11] (fun a i => ∃ k : Nat, k ≤ m ∧ i = .int .i64 k ∧ a = .string ⟨(d.areaTo x8 k).toArray⟩) (fun _ i => m - (intOf i).toNat)
          case atStart => exact ⟨0, by omega, rfl, rfl⟩
          case round =>
            obtain ⟨k, hk, rfl, rfl⟩ := hrel
            have la := Dev.areaTo_length D2.out.ok x8 (by omega) k (by rw [HM.out]; exact hk)
            by_cases hlt : k < m
            · have READ := Lib.hid (rread_any w2 R d ((1 + x8 * m + k : Nat) : Int) D2.out)
              have AR := Lib.hid (Dev.areaTo_succ d x8 k)
              rw [HM.out] at AR
              have hrd : d.read ((1 + x8 * m + k : Nat) : Int) = d.now.getD (1 + x8 * m + k) [] := by unfold Dev.read; rw [if_neg (by rw [D2.out.ok.lnow]; have := HMS.out; omega)]; rfl
              rw [hrd] at READ
              have LN := Lib.hid (getD_len D2.out.ok.wnow (i := 1 + x8 * m + k) (by rw [D2.out.ok.lnow]; have := HMS.out; omega))
              have px : (x8 : Int) * (m : Int) = ((x8 * m : Nat) : Int) := by push_cast; rfl
              have LA := Lib.hid la
              clear hrd la
              have z1 : (⟨(d.areaTo x8 k).toArray⟩ : ByteArray).size ≤ 2000 := by rw [size_str, LA.out]; omega
              generalize d.areaTo x8 k = A at *
              generalize d.now.getD (1 + x8 * m + k) [] = sec at *
              have z2 : (⟨sec.toArray⟩ : ByteArray).size ≤ 2000 := by rw [size_str, LN.out]; omega
              generalize x8 * m = p at *
              unfold str RB.ptr at READ
              go_wp2_with fail
              rw [show ((1 : Int) + (p : Int) + (k : Int)) = ((1 + p + k : Nat) : Int) from by omega]
              refine (READ.out).mono ?_
              rintro e w' ⟨rfl, rfl⟩
              go_wp2
              go_round
              case rel =>
                refine ⟨k + 1, by omega, by go_num, ?_⟩
                rw [AR.out, ← append_str]
              case measure => simp [intOf]; omega
            · obtain rfl : k = m := by omega
              have TX := Lib.hid (show (d.areaTo x8 k).take (x9 * 256 + x10) = d.text by unfold Dev.text Dev.area; rw [HHD.out, HM.out, HSZ.out, show hhalf hd = x8 from HX8.out])
              have zl : x9 * 256 + x10 ≤ (⟨(d.areaTo x8 k).toArray⟩ : ByteArray).size := by rw [size_str, la]; omega
              have zh : (⟨(d.areaTo x8 k).toArray⟩ : ByteArray).size ≤ 2000 := by rw [size_str, la]; omega
              have EX := Lib.hid (extract_str (d.areaTo x8 k) (x9 * 256 + x10))
              clear la
              generalize d.areaTo x8 k = A at *
              go_wp2
              go_ret2
              refine .inr ⟨fun hb => ?_, w2.heap.size, rfl, ⟨?_⟩, K2.out.alloc _, K2.out.size, ?_⟩
              · rcases HBAD.out.1 hb with h | h <;> omega
              · rw [obj_alloc_new]
                rw [HHD.out, ← HN.out, ← TX.out, show hhalf hd = x8 from HX8.out, ← EX.out]; rfl
              · simp
end Go.Proofs.Ytnmgnhhipgiggaa
