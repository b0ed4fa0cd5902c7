/-
  The device of package journal: settle, Barrier, Read, Fuse, Dead, and Write at any input.
-/
import Derived.Test.YtnmgnhhipgiggaaJDev2
import Derived.StillTailTactics
import Derived.Handy
namespace Go.Proofs.Ytnmgnhhipgiggaa
open Go.RowKit

theorem write_any (w : World) (B : DB) (d : Dev) (i : Int) (s : ByteArray) (h : DevAt w B d) (hm : s.size ≤ maxLen) :
    Calls Try.prog 20 #[B.ptr, .int .i64 i, .string s] w fun e w' => e = .returned (.int .i64 (d.write i s.data.toList).2) ∧ DevAt w' B (d.write i s.data.toList).1 ∧ Chg B.S w w' := by
  have ln := h.ok.lnow
  have hsz : s.data.toList.length = s.size := by rw [Array.length_toList]; rfl
  by_cases hd : d.dead = true
  · refine (write_dead w B d i s h hd).mono ?_
    rintro e w' ⟨rfl, rfl⟩
    have : d.write i s.data.toList = (d, 20) := by simp [Dev.write, hd]
    rw [this]; exact ⟨rfl, h, Chg.refl _ _⟩
  have hd : d.dead = false := by simpa using hd
  by_cases hi : i < 0 ∨ (B.n : Int) ≤ i
  · refine (write_range w B d i s h hd hi).mono ?_
    rintro e w' ⟨rfl, rfl⟩
    have : d.write i s.data.toList = (d, 5) := by simp [Dev.write, hd, ln, hi]
    rw [this]; exact ⟨rfl, h, Chg.refl _ _⟩
  by_cases hs : 32 < s.size
  · refine (write_size w B d i s h hd (by omega) (by omega) hs hm).mono ?_
    rintro e w' ⟨rfl, rfl⟩
    have : d.write i s.data.toList = (d, 4) := by simp only [Dev.write, hd, ln, hsz, if_neg hi, if_pos hs]; rfl
    rw [this]; exact ⟨rfl, h, Chg.refl _ _⟩
  by_cases ht : d.stops = true
  · refine (write_stop w B d i s h hd (by omega) (by omega) (by omega) ht).mono ?_
    have : d.write i s.data.toList = (d.burnt, 20) := by simp only [Dev.write, hd, ln, hsz, if_neg hi, if_neg hs, if_pos ht]; rfl
    rw [this]; exact fun _ _ x => x
  have ht' : d.stops = false := by simpa using ht
  obtain ⟨k, rfl⟩ := Int.eq_ofNat_of_zero_le (show 0 ≤ i by omega)
  refine (write_go w B d k s h hd (by omega) (by omega) ht').mono ?_
  have : d.write k s.data.toList = (d.burnt.put k s.data.toList, 0) := by simp only [Dev.write, hd, ln, hsz, if_neg hi, if_neg hs, if_neg ht]; rfl
  rw [this]; exact fun _ _ x => x

theorem Try.size71 : (Try.prog.info? 71).map (·.size) = some 32 := by kernel_rfl
theorem bools_one (l : List Bool) : ∀ v ∈ bools l, v.oneCell' = true := by
  intro v hv; simp [bools] at hv; rcases hv with ⟨_, rfl⟩ | ⟨_, rfl⟩ <;> rfl

theorem settle_any (w : World) (B : DB) (d : Dev) (h : DevAt w B d) :
    Calls Try.prog 40 #[B.ptr] w fun e w' => e = .returned (.tuple #[]) ∧ DevAt w' B d.settle ∧ Chg B.S w w' := by
  have c0 := h.c0
  have c1 := h.c1
  have n65 := h.ok.hi
  have n3 := h.ok.lo
  have H := Lib.hid h; clear h
  unfold DB.ptr
  go_enter Try.func40, Try.ntmps40
  go_wp2
  go_still_tail 8, (by kernel_rfl)
  have D : DevAt w.drew B d := H.out.chg (Chg.refl (fun _ => False) w).drew (fun _ _ h => h)
  have HD := Lib.hid D; clear D
  refine wpList_copy_rows rfl (.tmp 5) (.tmp 9) 60 60 rfl 71 Try.underlying60 32 Try.size71 B.bs 0 B.n B.n B.bn 0 B.n B.n rfl rfl (secs d.sure) (secs d.now) 71 71 (0, 0) HD.out.hs HD.out.hn (bcells_one _) ?f1 ?f2 ?next
  case f1 => rw [secs_length H.out.ok.wsure, H.out.ok.lsure]; have : Nat.min B.n B.n = B.n := Nat.min_self _; rw [this]; omega
  case f2 => rw [secs_length H.out.ok.wnow, H.out.ok.lnow]; have : Nat.min B.n B.n = B.n := Nat.min_self _; rw [this]; omega
  case next =>
    intro w1 r1
    have e : splice (secs d.sure) 0 (((secs d.now).drop 0).take (Nat.min B.n B.n * 32)) = secs d.now := by
      have : Nat.min B.n B.n = B.n := Nat.min_self _
      have l1 := secs_length H.out.ok.wnow
      have l2 := secs_length H.out.ok.wsure
      rw [H.out.ok.lnow] at l1
      rw [H.out.ok.lsure] at l2
      rw [this, List.drop_zero, List.take_of_length_le (by omega)]
      unfold splice
      rw [List.take_zero, List.nil_append, List.drop_of_length_le (by omega), List.append_nil]
    rw [e] at r1
    have c2 : w1.cell? ⟨B.b, 2, none⟩ = some (.slice (some ⟨B.bp, 0, none⟩) B.n B.n) := cell_of (r1.chg.obj (fun e => HD.out.n2 e) HD.out.hb) rfl
    have hp : w1.heap[B.bp]? = some (.cells (bools d.pend).toArray 4 (0, 0)) := r1.chg.obj (fun e => HD.out.n6 e.symm) HD.out.hp
    have HP := Lib.hid hp
    have R1 := Lib.hid r1
    clear r1 hp e c0 c1
    go_wp2_with (with_reducible refine wpList_clear rfl (.tmp 14) 35 rfl 4 Try.underlying35 (.bool false) Try.zero4 rfl rfl B.bp _ B.n B.n rfl (bools d.pend) 4 HP.out ?fit (by omega) ?next)
    case fit => simp [bools, H.out.ok.lpend]
    case next =>
      intro w2 r2
      have R2 := Lib.hid r2; clear r2
      go_wp2
      go_end0
      have r2 := R2.out
      have r1 := R1.out
      have h := HD.out
      have k1 : Chg B.S w w.drew := (Chg.refl _ w).drew
      refine ⟨rfl, ⟨?_, ?_, ?_, ?_, h.ok.settle, h.n1, h.n2, h.n3, h.n4, h.n5, h.n6⟩, ?_⟩
      · exact r2.chg.obj (fun e => h.n3 e) (r1.chg.obj (fun e => h.n2 e) h.hb)
      · exact r2.chg.obj (fun e => h.n5 e) (r1.chg.obj (fun e => h.n4 e) h.hn)
      · exact r2.chg.obj (fun e => h.n6 e) r1.row
      · have e : splice (bools d.pend) 0 (reps B.n (.bool false)) = bools d.settle.pend := by
          have l1 := h.ok.lpend
          unfold splice reps
          rw [List.take_zero, List.nil_append, List.drop_of_length_le (by simp [bools, l1]), List.append_nil]
          simp [bools, Dev.settle, l1]
        rw [← e]; exact r2.row
      · exact k1.trans ((r1.chg.mono (fun k _ e => .inr (.inr (.inl e)))).trans (r2.chg.mono (fun k _ e => .inr (.inr (.inr e)))))

theorem barrier_any (w : World) (B : DB) (d : Dev) (h : DevAt w B d) :
    Calls Try.prog 22 #[B.ptr] w fun e w' => e = .returned (.int .i64 d.barrier.2) ∧ DevAt w' B d.barrier.1 ∧ Chg B.S w w' := by
  have H := Lib.hid h; clear h
  unfold DB.ptr
  by_cases hs : d.stops = true
  · have HS := Lib.hid hs
    have e : d.barrier = (d.burnt, 20) := by simp [Dev.barrier, hs]
    rw [e]; clear e hs
    go_enter Try.func22, Try.ntmps22
    go_wp2_with fail
    refine (burn_stop _ B d H.out HS.out).mono ?_
    rintro e w1 ⟨rfl, d1, k1⟩
    have D1 := Lib.hid d1
    have K1 := Lib.hid k1
    clear d1 k1
    go_wp2
    go_ret
    exact ⟨rfl, D1.out, K1.out.mono (fun k _ e => .inl e)⟩
  · have hs : d.stops = false := by simpa using hs
    have HS := Lib.hid hs
    have e : d.barrier = (d.burnt.settle, 0) := by simp [Dev.barrier, hs]
    rw [e]; clear e hs
    go_enter Try.func22, Try.ntmps22
    go_wp2_with fail
    refine (burn_go _ B d H.out HS.out).mono ?_
    rintro e w1 ⟨rfl, d1, k1⟩
    have D1 := Lib.hid d1
    have K1 := Lib.hid k1
    clear d1 k1
    go_wp2_with fail
    refine (settle_any _ B _ D1.out).mono ?_
    rintro e w2 ⟨rfl, d2, k2⟩
    have D2 := Lib.hid d2
    have K2 := Lib.hid k2
    clear d2 k2
    go_wp2
    go_ret
    exact ⟨rfl, D2.out, (K1.out.mono (fun k _ e => .inl e)).trans K2.out⟩

theorem dead_any (w : World) (B : DB) (d : Dev) (h : DevAt w B d) :
    Calls Try.prog 26 #[B.ptr] w fun e w' => e = .returned (.bool d.dead) ∧ w = w' := by
  have c5 := h.c5
  clear h
  unfold DB.ptr
  go_enter Try.func26, Try.ntmps26
  go_wp2
  go_ret
  exact ⟨rfl, rfl⟩

theorem setFuse_any (w : World) (B : DB) (d : Dev) (m : Int) (h : DevAt w B d) (hm : m ≤ 9223372036854775807) :
    Calls Try.prog 18 #[B.ptr, .int .i64 m] w fun e w' => e = .returned (.tuple #[]) ∧ DevAt w' B (d.setFuse m) ∧ Chg B.S w w' := by
  have c5 := h.c5
  have c3 := h.c3
  have c4 := h.c4
  have f3 : w.frozen? ⟨B.b, 3, none⟩ = false := frozen_of h.hb
  have f4 : w.frozen? ⟨B.b, 4, none⟩ = false := frozen_of h.hb
  have HOK := Lib.hid (h.ok.setFuse m hm)
  have H := Lib.hid h; clear h
  unfold DB.ptr
  by_cases hd : d.dead = true
  · have e : d.setFuse m = d := by simp [Dev.setFuse, hd]
    rw [e]; clear e
    rw [hd] at c5
    clear hd
    go_enter Try.func18, Try.ntmps18
    go_wp2
    go_returns
    exact ⟨rfl, H.out, Chg.refl _ _⟩
  · have hd : d.dead = false := by simpa using hd
    rw [hd] at c5
    have e : d.setFuse m = { d with fuse := max m 0, on := decide (0 ≤ m) } := by simp [Dev.setFuse, hd]
    have HE := Lib.hid e
    clear hd e
    go_enter Try.func18, Try.ntmps18
    go_wp2
    · have hmx : max m 0 = 0 := by omega
      have HM := Lib.hid hmx; clear hmx
      go_end0
      have h := H.out
      have hok := HOK.out
      rw [HE.out, HM.out] at hok ⊢
      have q := (chg_cell w B.b 3 (.int .i64 0)).trans (chg_cell _ B.b 4 (.bool (decide (0 ≤ m))))
      exact ⟨rfl, h.head q (obj_setCell (obj_setCell h.hb _) _) rfl rfl rfl hok, q.mono (fun k _ e => .inl e)⟩
    · have hmx : max m 0 = m := by omega
      have HM := Lib.hid hmx; clear hmx
      have hmd : decide (0 ≤ m) = true := by simpa
      have HMD := Lib.hid hmd; clear hmd
      go_end0
      have h := H.out
      have hok := HOK.out
      rw [HE.out, HM.out, HMD.out] at hok ⊢
      have q := (chg_cell w B.b 3 (.int .i64 m)).trans (chg_cell _ B.b 4 (.bool true))
      exact ⟨rfl, h.head q (obj_setCell (obj_setCell h.hb _) _) rfl rfl rfl hok, q.mono (fun k _ e => .inl e)⟩

/-- What a sector reads as. -/
theorem secs_cell {w : World} {g : Nat} {l : List (List UInt8)} {t : TypeId} {fz : Nat × Nat} (hg : w.heap[g]? = some (.cells (secs l).toArray t fz)) (h : ∀ s ∈ l, s.length = 32) {k : Nat} (hk : k < l.length) {i : Nat} (hi : i < 32) :
    w.cell? ⟨g, k * 32 + i, none⟩ = some (.int .u8 (((l.getD k []).map fun c => (c.toNat : Int)).getD i 0)) := by
  refine cell_of hg ?_
  have hl := getD_len h hk
  have e := flatten_get h hk
  have hx : (secs l)[k * 32 + i]? = ((bcells (l.getD k []))[i]?) := by
    rw [e]; unfold secs bcells
    rw [List.getElem?_map, List.getElem?_map, List.getElem?_take, if_pos hi, List.getElem?_drop, show 32 * k + i = k * 32 + i from by omega]
  rw [List.getElem?_toArray, hx]
  have hi' : i < (l.getD k []).length := by omega
  generalize l.getD k [] = x at *
  unfold bcells bcell
  rw [List.getElem?_map, List.getD_eq_getElem?_getD, List.getElem?_map, List.getElem?_eq_getElem hi']; rfl

theorem read_in (w : World) (B : DB) (d : Dev) (k : Nat) (h : DevAt w B d) (hk : k < B.n) :
    Calls Try.prog 27 #[B.ptr, .int .i64 k] w fun e w' => e = .returned (.string ⟨(d.now.getD k []).toArray⟩) ∧ w = w' := by
  have c0 := h.c0
  have n65 := h.ok.hi
  have hcv := run_convert_bytes_arg (P := Try.prog) w 59 5 Try.underlying59 Try.underlying5 B.bn (k * 32) 32 32 ((d.now.getD k []).map fun c => (c.toNat : Int)) (by rw [List.length_map]; exact getD_len h.ok.wnow (by rw [h.ok.lnow]; exact hk))
    (fun i hi => secs_cell h.hn h.ok.wnow (by rw [h.ok.lnow]; exact hk) hi) 9 Try.underlying9
  rw [strOfNums_bytes] at hcv
  clear h
  unfold DB.ptr
  go_enter Try.func27, Try.ntmps27
  go_wp2_with fail
  refine (has_yes _ _ _ _ _ _ _ c0 (by omega) (by omega)).mono ?_
  rintro e w' ⟨rfl, rfl⟩
  go_wp2
  go_ret
  exact ⟨rfl, rfl⟩
theorem read_out (w : World) (B : DB) (d : Dev) (i : Int) (h : DevAt w B d) (hi : i < 0 ∨ B.n ≤ i) :
    Calls Try.prog 27 #[B.ptr, .int .i64 i] w fun e w' => e = .returned (.string ⟨#[]⟩) ∧ w = w' := by
  have c0 := h.c0
  have HI := Lib.hid hi
  clear h hi
  unfold DB.ptr
  go_enter Try.func27, Try.ntmps27
  go_wp2_with fail
  refine (has_no _ _ _ _ _ _ _ c0 HI.out).mono ?_
  rintro e w' ⟨rfl, rfl⟩
  go_wp2
  go_ret
  exact ⟨rfl, rfl⟩
theorem read_any (w : World) (B : DB) (d : Dev) (i : Int) (h : DevAt w B d) :
    Calls Try.prog 27 #[B.ptr, .int .i64 i] w fun e w' => e = .returned (.string ⟨(d.read i).toArray⟩) ∧ w = w' := by
  by_cases hi : i < 0 ∨ (B.n : Int) ≤ i
  · have e : d.read i = [] := by simp [Dev.read, h.ok.lnow, hi]
    rw [e]; exact read_out w B d i h hi
  · obtain ⟨k, rfl⟩ := Int.eq_ofNat_of_zero_le (show 0 ≤ i by omega)
    have e : d.read k = d.now.getD k [] := by unfold Dev.read; rw [h.ok.lnow, if_neg hi]; rfl
    rw [e]; exact read_in w B d k h (by omega)
end Go.Proofs.Ytnmgnhhipgiggaa
