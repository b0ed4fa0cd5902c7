/-
  The statements of layer 20: awake, large.
-/
import Derived.Test.YtnmgnhhipgiggaaJLay
import Derived.Test.YtnmgnhhipgiggaaPlan
namespace Go.Proofs.Ytnmgnhhipgiggaa
open Go.RowKit

instance (d : Dev) : Decidable d.bad := by unfold Dev.bad; infer_instance
def kD0 : Dev := Dev.new 5
def kJ0 : Jr := ⟨0, 0, ⟨#[]⟩⟩
def kA : ByteArray := ⟨#[97]⟩
def kB : ByteArray := ⟨#[98]⟩
def kD1 : Dev := (commit kD0 kJ0 kA).1
def kJ1 : Jr := (commit kD0 kJ0 kA).2.2
def kD2 : Dev := kD1.setFuse 1
def kD3 : Dev := (commit kD2 kJ1 kB).1
def kD4 : Dev := kD3.crash [true]
theorem k0 : ¬ kD0.bad := by decide +kernel
theorem k0' : (⟨hnum kD0.hd, hhalf kD0.hd, ⟨kD0.text.toArray⟩⟩ : Jr) = kJ0 := by kernel_rfl
theorem k1 : (commit kD0 kJ0 kA).2.1 = 0 := by decide +kernel
theorem k1h : kJ1.half = 1 := by decide +kernel
theorem k1n : kJ1.number = 1 := by decide +kernel
theorem k3 : (commit kD2 kJ1 kB).2.1 = 20 := by decide +kernel
theorem k3j : (commit kD2 kJ1 kB).2.2 = kJ1 := by kernel_rfl
theorem k3d : kD3.dead = true := by decide +kernel
theorem k3p : kD3.pending = [1] := by decide +kernel
theorem k4 : ¬ kD4.bad := by decide +kernel
theorem k4j : (⟨hnum kD4.hd, hhalf kD4.hd, ⟨kD4.text.toArray⟩⟩ : Jr) = ⟨1, 1, ⟨#[97]⟩⟩ := by kernel_rfl
theorem k4r0 : kD4.now.getD 0 [] = [0, 0, 0, 0, 0, 0, 0, 1, 1, 0, 1, 0, 0, 0, 0, 0, 0, 0, 0, 0, 0, 0, 0, 0, 0, 0, 0, 0, 0, 0, 0, 0] := by decide +kernel
theorem k4w : kD4.write 9 [] = (kD4, 5) := by kernel_rfl
theorem k4b : kD4.barrier = (kD4, 0) := by kernel_rfl
theorem k4d : kD4.dead = false := by decide +kernel
theorem k4r3 : kD4.now.getD 3 [] = [97, 0, 0, 0, 0, 0, 0, 0, 0, 0, 0, 0, 0, 0, 0, 0, 0, 0, 0, 0, 0, 0, 0, 0, 0, 0, 0, 0, 0, 0, 0, 0] := by decide +kernel

theorem kcmp : (([0, 0, 0, 0, 0, 0, 0, 1, 1, 0, 1, 0, 0, 0, 0, 0, 0, 0, 0, 0, 0, 0, 0, 0, 0, 0, 0, 0, 0, 0, 0, 0] : List UInt8) == (({ data := #[0, 0, 0, 0, 0, 0, 0, 1, 1, 0, 1] } : ByteArray) ++ { data := #[0, 0, 0, 0, 0, 0, 0, 0, 0, 0, 0, 0, 0, 0, 0, 0, 0, 0, 0, 0, 0] }).toList) = true := by decide +kernel
theorem own_one {w : World} {base : Nat} {v : Value} {x : Value} (h : w.ownsRow base 3 1 v 1 [x]) : ∃ g cap, v = .slice (some ⟨g, 0, none⟩) 1 cap ∧ w.cell? ⟨g, 0, none⟩ = some x ∧ base ≤ g ∧ g < w.heap.size := by
  obtain ⟨g, cap, rfl, hg, _, _, hc⟩ := own_slice h (by decide)
  exact ⟨g, cap, rfl, hc 0 x rfl, hg, (own_lt h g rfl).2⟩

def z21 : Array Value := (reps 21 (.int .u8 0)).toArray
theorem make21 (w : World) : (Instr.makeSlice 59 (.int .i64 21) (.int .i64 21)).run Try.prog w = .ok (.slice (some ⟨w.heap.size, 0, none⟩) 21 21) (w.alloc (.cells z21 5)) := by
  obtain ⟨i, hi, hz0, hz1, hz2⟩ := info_parts Try.byteInfo
  have := run_make (P := Try.prog) w 59 5 i _ Try.underlying59 hi hz0 .i64 .i64 21 21 (by decide) (by decide) (by rw [hz2]; decide) (by decide)
  rw [this, hz1, show Int.toNat 21 * 1 = 21 from rfl, show (Value.int .u8 0).cells = #[.int .u8 0] from rfl, madeCells_one]; rfl
theorem conv21 (w : World) : (convert 59 9 (.slice (some ⟨w.heap.size, 0, none⟩) 21 21)).run Try.prog (w.alloc (.cells z21 5)).drew = .ok (.string ⟨#[0, 0, 0, 0, 0, 0, 0, 0, 0, 0, 0, 0, 0, 0, 0, 0, 0, 0, 0, 0, 0]⟩) (w.alloc (.cells z21 5)).drew :=
  run_str_seg (w.alloc (.cells z21 5)).drew 59 5 9 Try.underlying59 Try.underlying5 Try.underlying9 w.heap.size 0 21 21 (reps 21 (.int .u8 0)) 5 (0, 0) (obj_alloc_new _ _) (List.replicate 21 0) rfl rfl

set_option maxHeartbeats 2000000 in
set_option maxRecDepth 100000 in
theorem awake_any (w : World) : Calls Try.prog 8 #[] w fun e w' => e = .returned (.bool true) ∧ Chg (fun _ => False) w w' := by
  go_enter Try.func8, Try.ntmps8
  go_wp2_with fail
  refine (device_some w 5 (by decide) (by decide)).mono ?_
  rintro e w1 ⟨B, rfl, hBn, d1, c1, l1⟩
  unfold DB.ptr
  have D1 : Hid (DevAt w1 B kD0) := Lib.hid d1
  have C1 := Lib.hid c1
  have L1 := Lib.hid l1
  have HBn := Lib.hid hBn
  clear d1 c1 l1 hBn
  go_wp2_with fail
  refine (device_none w1 2 (by decide)).mono ?_
  rintro e w' ⟨rfl, rfl⟩
  go_wp2_with fail
  refine (open_any w1 B kD0 D1.out).mono ?_
  rintro e w2 (⟨hbad, _⟩ | ⟨_, b, rfl, j2, c2, hb1, hb2⟩)
  · exact absurd hbad k0
  rw [k0'] at j2
  unfold jptr
  have J2 := Lib.hid j2
  have C2 := Lib.hid c2
  have hbS : ¬ B.S b := fun e => by have := L1.out b e; omega
  have D2 := Lib.hid (D1.out.chg c2 (fun _ _ e => e))
  clear j2 c2
  go_wp2_with fail
  refine (commit_any w2 B b kD0 kJ0 kA D2.out J2.out hbS (by decide) (by decide) (by decide) (by decide)).mono ?_
  rw [k1]
  rintro e w3 ⟨rfl, d3, j3, c3⟩
  have D3 : Hid (DevAt w3 B kD1) := Lib.hid d3
  have J3 : Hid (JAt w3 B b kJ1) := Lib.hid j3
  have C3 := Lib.hid c3
  clear d3 j3 c3
  go_wp2_with fail
  refine (setFuse_any w3 B kD1 1 D3.out (by decide)).mono ?_
  rintro e w4 ⟨rfl, d4, c4⟩
  have D4 : Hid (DevAt w4 B kD2) := Lib.hid d4
  have C4 := Lib.hid c4
  have J4 := Lib.hid (J3.out.chg c4 hbS)
  clear d4 c4
  go_wp2_with fail
  refine (commit_any w4 B b kD2 kJ1 kB D4.out J4.out hbS (by rw [k1h]; decide) (by rw [k1n]; decide) (by rw [k1n]; decide) (by decide)).mono ?_
  rw [k3]
  rintro e w5 ⟨rfl, d5, _, c5⟩
  have D5 : Hid (DevAt w5 B kD3) := Lib.hid d5
  have C5 := Lib.hid c5
  clear d5 c5
  have DEAD := Lib.hid (dead_any w5 B kD3 D5.out)
  rw [k3d] at DEAD
  go_wp2_with fail
  refine (DEAD.out).mono ?_
  rintro e w' ⟨rfl, rfl⟩
  go_wp2_with fail
  refine (pending_any w5 B kD3 D5.out).mono ?_
  rw [k3p]
  rintro e w6 ⟨v, rfl, own6, c6⟩
  obtain ⟨g, cap, rfl, p6, hg1, hg2⟩ := own_one own6
  have P6 := Lib.hid p6
  have C6 := Lib.hid c6
  have D6 := Lib.hid (D5.out.chg c6 (fun _ _ e => e))
  have hB6 : ∀ k, B.S k → k < w6.heap.size := fun k hk => by
    rcases hk with rfl | rfl | rfl | rfl
    · exact lt_of_obj D6.out.hb
    · exact lt_of_obj D6.out.hn
    · exact lt_of_obj D6.out.hs
    · exact lt_of_obj D6.out.hp
  have HB6 := Lib.hid hB6
  clear p6 c6 own6 hB6
  go_wp2_with fail
  refine (crash_any _ B kD3 [true] _ (fun k => k = w6.heap.size) (D6.out.chg (chg_alloc (fun _ => False) w6 _) (fun _ _ e => e)) (fun k hk e => by have := HB6.out _ e; omega) ⟨_, 1, rfl, by decide, fun j hj => ⟨_, 0, rfl, rfl, ?_⟩⟩).mono ?_
  · refine cell_of (obj_alloc_new _ _) ?_
    obtain rfl : j = 0 := by simpa using hj
    rfl
  rintro e w7 ⟨rfl, d7, c7⟩
  have D7 : Hid (DevAt w7 B kD4) := Lib.hid d7
  have C7 := Lib.hid ((chg_alloc (fun k => B.S k) w6 _).trans c7)
  have hgS : ¬ B.S g := fun e => by
    have h1 := D5.out
    have : g < w5.heap.size := by
      rcases e with rfl | rfl | rfl | rfl
      · exact lt_of_obj h1.hb
      · exact lt_of_obj h1.hn
      · exact lt_of_obj h1.hs
      · exact lt_of_obj h1.hp
    omega
  have P7 := Lib.hid (cell_chg C7.out hgS P6.out)
  clear d7 c7
  go_wp2_with fail
  refine (open_any w7 B kD4 D7.out).mono ?_
  rintro e w8 (⟨hbad, _⟩ | ⟨_, b2, rfl, j8, c8, hb3, hb4⟩)
  · exact absurd hbad k4
  rw [k4j] at j8
  unfold jptr
  have J8 := Lib.hid j8
  have C8 := Lib.hid c8
  have D8 := Lib.hid (D7.out.chg c8 (fun _ _ e => e))
  have P8 := Lib.hid (cell_chg c8 (fun e => e) P7.out)
  clear j8 c8
  have p8 := P8.out
  go_wp2_with fail
  refine (open_nil w8).mono ?_
  rintro e w' ⟨rfl, rfl⟩
  go_wp2_with fail
  refine wp_region_plan (N := 127) [.rd [0, 1, 2, 3, 4, 5, 6, 7, 8, 9, 10, 11, 12, 13, 14, 15, 16, 17, 18, 19, 20, 21, 22, 23, 24, 25, 26, 27, 28, 29, 30, 31, 32, 33, 34, 35, 36, 37, 38, 39, 40, 41], .ef 42, .ef 43, .rd [44, 45, 46, 47, 48, 49, 50, 51, 52, 53], .ef 54, .rd [55, 56, 57, 58, 59, 60, 61, 62, 63, 64, 65, 66, 67, 68, 69]]
    (fun w' => DevAt w' B kD4 ∧ JAt w' B b2 ⟨1, 1, ⟨#[97]⟩⟩ ∧ w'.cell? ⟨g, 0, none⟩ = some (.int .i64 1)) (by kernel_rfl) (by kernel_rfl) (by kernel_rfl) (by kernel_rfl) (Nat.le_of_ble_eq_true rfl) ⟨D8.out.chg (chg_drew (fun _ => False) _) (fun _ _ e => e), J8.out.chg (chg_drew (fun _ => False) _) (fun e => e), P8.out⟩ ?_
  refine plan_rd (A := ?A1) ?h1 ?h2
  case h1 =>
    intro w' hS K hK
    obtain ⟨sd, sj, sp⟩ := hS
    have SD := Lib.hid sd
    have SJ := Lib.hid sj
    clear sd sj
    have ROOM := Lib.hid (room_at w' b2 B SJ.out.c0 SD.out.c0 SD.out.ok.lo SD.out.ok.hi)
    rw [HBn.out] at ROOM
    have RD0 := Lib.hid (read_in w' B kD4 0 SD.out (by rw [HBn.out]; decide))
    rw [k4r0] at RD0
    simp only [opsAt, List.filterMap_cons, List.filterMap_nil, List.getElem?_toArray]
    repeat still_step
    still_call ((record_at w' B b2 _ SJ.out).mono fun _ _ h => ⟨h.1, h.2.symm⟩)
    repeat still_step
    still_call ((number_at w' B b2 _ SJ.out).mono fun _ _ h => ⟨h.1, h.2.symm⟩)
    repeat still_step
    still_call (ROOM.out.mono fun _ _ h => ⟨h.1, h.2.symm⟩)
    repeat still_step
    still_call (RD0.out.mono fun _ _ h => ⟨h.1, h.2.symm⟩)
    repeat still_step
    refine wpStill_nil ?_
    exact hK
  have mk := fun w => make21 w
  refine plan_ef rfl ?_
  go_wp2_with fail
  have K9 := Lib.hid ((chg_alloc (fun _ => False) w8 (.cells z21 5)).drew)
  have D9 := Lib.hid (D8.out.chg K9.out (fun _ _ e => e))
  have J9 := Lib.hid (J8.out.chg K9.out (fun e => e))
  have P9 := Lib.hid (cell_chg K9.out (fun e => e) P8.out)
  refine ⟨⟨D9.out, J9.out, P9.out⟩, ?_⟩
  clear mk
  have cv := conv21 w8
  refine plan_ef rfl ?_
  go_wp2_with fail
  refine ⟨⟨D9.out, J9.out, P9.out⟩, ?_⟩
  clear cv p8
  generalize (w8.alloc (.cells z21 5)).drew = w9 at *
  refine plan_rd (A := ?A2) ?h3 ?h4
  case h3 =>
    intro w' hS K hK
    obtain ⟨sd, sj, sp⟩ := hS
    have hcmp := kcmp
    have SD := Lib.hid sd
    have WR := Lib.hid (write_range w' B kD4 9 ⟨#[]⟩ SD.out k4d (by rw [HBn.out]; decide))
    clear sd sj sp
    simp only [opsAt, List.filterMap_cons, List.filterMap_nil, List.getElem?_toArray]
    repeat still_step
    still_call (WR.out.mono fun _ _ h => ⟨h.1, h.2.symm⟩)
    repeat still_step
    refine wpStill_nil ?_
    exact hK
  have BAR := Lib.hid (barrier_any w9 B kD4 D9.out)
  rw [k4b] at BAR
  refine plan_ef rfl ?_
  go_wp2_with fail
  refine (BAR.out).mono ?_
  rintro e w10 ⟨rfl, d10, c10⟩
  have D10 := Lib.hid d10
  have C10 := Lib.hid c10
  have hb2S : ¬ B.S b2 := fun e => by
    have h1 := D7.out
    have : b2 < w7.heap.size := by
      rcases e with rfl | rfl | rfl | rfl
      · exact lt_of_obj h1.hb
      · exact lt_of_obj h1.hn
      · exact lt_of_obj h1.hs
      · exact lt_of_obj h1.hp
    omega
  have J10 := Lib.hid (J9.out.chg c10 hb2S)
  have P10 := Lib.hid (cell_chg c10 hgS P9.out)
  clear d10 c10
  go_wp2_with fail
  refine ⟨⟨D10.out, J10.out, P10.out⟩, ?_⟩
  refine plan_rd (A := ?A3) ?h5 ?h6
  case h5 =>
    intro w' hS K hK
    obtain ⟨sd, sj, sp⟩ := hS
    have SD := Lib.hid sd
    have RD3 := Lib.hid (read_in w' B kD4 3 SD.out (by rw [HBn.out]; decide))
    rw [k4r3] at RD3
    clear sd sj sp
    simp only [opsAt, List.filterMap_cons, List.filterMap_nil, List.getElem?_toArray]
    repeat still_step
    still_call (RD3.out.mono fun _ _ h => ⟨h.1, h.2.symm⟩)
    repeat still_step
    still_call (RD3.out.mono fun _ _ h => ⟨h.1, h.2.symm⟩)
    repeat still_step
    refine wpStill_nil ?_
    exact hK
  refine plan_nil ?_
  go_wp2
  go_ret
  refine ⟨rfl, ?_⟩
  have hSB : ∀ k, B.S k → ¬ k < w.heap.size := fun k hk => by have := (L1.out k hk).1; omega
  have hbb : ¬ b < w.heap.size := by have := C1.out.size; omega
  have t : Chg (fun k => ¬ k < w.heap.size) w w10 :=
    (C1.out.mono (fun _ _ e => e.elim)).trans ((C2.out.mono (fun _ _ e => e.elim)).trans ((C3.out.mono (fun k _ e => by rcases e with e | rfl; exact hSB k e; exact hbb)).trans ((C4.out.mono (fun k _ e => hSB k e)).trans
      ((C5.out.mono (fun k _ e => by rcases e with e | rfl; exact hSB k e; exact hbb)).trans ((C6.out.mono (fun _ _ e => e.elim)).trans ((C7.out.mono (fun k _ e => hSB k e)).trans ((C8.out.mono (fun _ _ e => e.elim)).trans ((K9.out.mono (fun _ _ e => e.elim)).trans (C10.out.mono (fun k _ e => hSB k e))))))))))
  exact t.mono (fun k hk e => e hk)
end Go.Proofs.Ytnmgnhhipgiggaa
