/-
  Layer 20: JournalSame, walked.
-/
import Derived.Test.YtnmgnhhipgiggaaJSure
namespace Go.Proofs.Ytnmgnhhipgiggaa
open Go.RowKit

theorem own_form {w : World} {base : Nat} {e : TypeId} {size : Nat} {v : Value} {n : Nat} {xs : List Value} (h : w.ownsRow base e size v n xs) : ∃ a c, v = .slice a n c := by
  obtain ⟨_, ⟨rfl, rfl⟩ | ⟨g, cap, cur, rfl, _⟩⟩ := h
  · exact ⟨none, 0, rfl⟩
  · exact ⟨_, cap, rfl⟩
theorem clean_pending {d : Dev} (h : Clean d) : d.pending = [] := by
  unfold Dev.pending pendTo
  rw [List.filter_eq_nil_iff]
  intro i _
  have := h.pend i
  unfold Dev.pd at this
  rw [this]; decide
theorem calm_fits {n : Nat} {d : Dev} {j : Jr} (h : Calm n d j) (s : ByteArray) (hs : s.size ≤ (n - 1) / 2 * 32) (hn : j.number < 4611686018427387904) : ∃ d', commit d j s = (d', 0, ⟨j.number + 1, 1 - j.half, s⟩) := by
  have hm := m_of h.ok
  have := commit_done h.ok h.dead h.clean h.rep h.n0 s
  generalize Go.Proofs.Ytnmgnhhipgiggaa.commit d j s = r at *
  cases this with
  | size q => rw [hm] at q; omega
  | many _ q => omega
  | down d' _ _ _ ho => rw [h.on] at ho; cases ho
  | fine d' _ h' ok hd hc hr ho => exact ⟨d', rfl⟩
theorem calm_not_fits {n : Nat} {d : Dev} {j : Jr} (h : Calm n d j) (s : ByteArray) (hs : (n - 1) / 2 * 32 < s.size) : commit d j s = (d, 4, j) := by
  have hm := m_of h.ok
  have := commit_done h.ok h.dead h.clean h.rep h.n0 s
  generalize Go.Proofs.Ytnmgnhhipgiggaa.commit d j s = r at *
  cases this with
  | size q => rfl
  | many q _ => rw [hm] at q; omega
  | down d' q _ _ ho => rw [hm] at q; omega
  | fine d' q h' ok hd hc hr ho => rw [hm] at q; omega
theorem DevAt.lt {w : World} {B : DB} {d : Dev} (h : DevAt w B d) {k : Nat} (e : B.S k) : k < w.heap.size := by
  rcases e with rfl | rfl | rfl | rfl
  · exact lt_of_obj h.hb
  · exact lt_of_obj h.hn
  · exact lt_of_obj h.hs
  · exact lt_of_obj h.hp

set_option maxHeartbeats 4000000 in
set_option maxRecDepth 100000 in
theorem same_law (w : World) (n : Int) (v : Value) (l : List ByteArray) (hv : StrsAt w v (· < w.heap.size) l) :
    Calls Try.prog 5 #[.int .i64 n, v] w fun e w' => e = .returned (.bool true) ∧ Chg (fun _ => False) w w' := by
  obtain ⟨la, cap, rfl, hl1, hl2, hl3⟩ := hv
  have HL2 := Lib.hid hl2
  have HL3 := Lib.hid hl3
  clear hl2 hl3
  unfold maxLen at hl1
  go_enter Try.func5, Try.ntmps5
  go_wp2_with fail
  refine (awake_any w).mono ?_
  rintro e w1 ⟨rfl, c1⟩
  have C1 := Lib.hid c1
  clear c1
  by_cases hn : n < 3 ∨ 65 < n
  · go_wp2_with fail
    refine (device_none w1 n hn).mono ?_
    rintro e w' ⟨rfl, rfl⟩
    go_wp2
    go_ret
    exact ⟨rfl, C1.out⟩
  obtain ⟨N, rfl⟩ := Int.eq_ofNat_of_zero_le (show 0 ≤ n by omega)
  have h3 : 3 ≤ N := by omega
  have h65 : N ≤ 65 := by omega
  clear hn
  go_wp2_with fail
  refine (device_some w1 N h3 h65).mono ?_
  rintro e w2 ⟨B, rfl, hBn, d2, c2, l2⟩
  unfold DB.ptr
  have D2 := Lib.hid d2
  have C2 := Lib.hid c2
  have L2 := Lib.hid l2
  have HBn := Lib.hid hBn
  clear d2 c2 l2 hBn
  go_wp2_with fail
  refine (open_any w2 B _ D2.out).mono ?_
  rintro e w3 (⟨hbad, _⟩ | ⟨_, b, rfl, j3, c3, hb1, hb2⟩)
  · exact absurd hbad (rep_new N h3).fine
  rw [rep_jr (rep_new N h3)] at j3
  unfold jptr
  have J3 := Lib.hid j3
  have D3 := Lib.hid (D2.out.chg c3 (fun _ _ e => e))
  have C3 := Lib.hid c3
  have hbS : ¬ B.S b := fun e => by have := L2.out b e; omega
  have CALM := Lib.hid (show Calm B.n (Dev.new N) ⟨0, 0, ⟨#[]⟩⟩ from ⟨D3.out.ok, rfl, rfl, clean_new N, rep_new N h3, by decide, by decide⟩)
  have hSB : ∀ k, B.S k → ¬ k < w.heap.size := fun k hk => by have := (L2.out k hk).1; have := C1.out.size; omega
  have HSB := Lib.hid hSB
  have hbw : ¬ b < w.heap.size := by have := C1.out.size; have := C2.out.size; omega
  have K3 := Lib.hid (show Chg (fun k => ¬ k < w.heap.size) w w3 from (C1.out.mono (fun _ _ e => e.elim)).trans ((C2.out.mono (fun _ _ e => e.elim)).trans (C3.out.mono (fun _ _ e => e.elim))))
  clear j3 c3 hSB
  go_wp2
  go_loopw [6, 8, 9] (fun jv c i wr => ∃ (k q b : Nat) (d : Dev) (j : Jr), i = .int .i64 k ∧ k ≤ 60 ∧ c = .int .i64 q ∧ q ≤ k ∧ jv = .pointer (some ⟨b, 0, none⟩) ∧ DevAt wr B d ∧ JAt wr B b j ∧ ¬ B.S b ∧ ¬ b < w.heap.size ∧ Calm B.n d j ∧ Hid (j.number = q) ∧ Chg (fun k => ¬ k < w.heap.size) w wr) (fun _ _ i _ => 60 - (intOf i).toNat)
  case atStart => exact ⟨0, 0, b, _, _, rfl, by omega, rfl, by omega, rfl, D3.out, J3.out, hbS, hbw, CALM.out, rfl, K3.out⟩
  case round =>
    clear hb1 hb2 hbS hbw
    obtain ⟨k, q, b, d, j, rfl, hk60, rfl, hqk, rfl, hd, hj, hbS, hbw, hcalm, HQ, hc⟩ := hrel
    have HD := Lib.hid hd
    have HJ := Lib.hid hj
    have HC := Lib.hid hc
    have HCA := Lib.hid hcalm
    have hcw := hc.size
    clear hd hj hc hcalm D3 J3 K3 CALM C3
    by_cases hlt : k < l.length ∧ k < 60
    · obtain ⟨hlt1, hlt2⟩ := hlt
      obtain ⟨lb, lo, rfl, hlb, cl0⟩ := HL3.out k hlt1
      have CL0 := Lib.hid cl0
      have cl := cell_chg HC.out (fun e => e hlb) cl0
      have sz0 := HL2.out (l.getD k ByteArray.empty) (by rw [List.getD_eq_getElem?_getD, List.getElem?_eq_getElem hlt1]; exact List.getElem_mem hlt1)
      clear cl0
      unfold maxLen at sz0
      generalize l.getD k ByteArray.empty = s at *
      by_cases hs : 3000 < s.size
      · go_wp2
        go_ret
        exact ⟨rfl, HC.out.mono (fun k hk e => e hk)⟩
      · have hsd : decide (3000 < (s.size : Int)) = false := by rw [decide_eq_false_iff_not]; omega
        have COM := Lib.hid (commit_any wr B b d j s HD.out HJ.out hbS HCA.out.rep.half_le HCA.out.n0 (by have := HCA.out.n1; omega) (by unfold maxLen; omega))
        have CA4 := Lib.hid (HCA.out.commit s)
        by_cases hfit : s.size ≤ (N - 1) / 2 * 32
        · obtain ⟨d', he⟩ := calm_fits HCA.out s (by rw [HBn.out]; exact hfit) (by rw [HQ.out]; omega)
          rw [he] at COM CA4
          have HQ2 := Lib.hid (show j.number + 1 = ((q + 1 : Nat) : Int) by rw [HQ.out]; omega)
          rw [HQ2.out] at COM CA4
          generalize 1 - j.half = hf at *
          clear he
          go_wp2_with fail
          refine (COM.out).mono ?_
          rintro e w4 ⟨rfl, d4, j4, c4⟩
          have D4 : Hid (DevAt w4 B d') := Lib.hid d4
          have J4 : Hid (JAt w4 B b ⟨((q + 1 : Nat) : Int), hf, s⟩) := Lib.hid j4
          have CA : Hid (Calm B.n d' ⟨((q + 1 : Nat) : Int), hf, s⟩) := CA4
          have K4 := Lib.hid (HC.out.trans (c4.mono (fun k _ h => by rcases h with h | rfl; exact HSB.out k h; exact hbw)))
          clear d4 j4 c4 COM CA4
          obtain ⟨jj, hjj⟩ : ∃ jj : Jr, jj = ⟨((q + 1 : Nat) : Int), hf, s⟩ := ⟨_, rfl⟩
          rw [← hjj] at J4 CA
          have NUM : Hid (jj.number = ((q + 1 : Nat) : Int)) := by rw [hjj]; exact rfl
          have TX : Hid (jj.text = s) := by rw [hjj]; exact rfl
          clear hjj
          have cl4 := cell_chg K4.out (fun e => e hlb) CL0.out
          have ROOM := Lib.hid (room_at w4.drew b B J4.out.c0 D4.out.c0 (by rw [HBn.out]; exact h3) (by rw [HBn.out]; exact h65))
          rw [HBn.out] at ROOM
          generalize hM : (N - 1) / 2 * 32 = M at *
          clear hM
          have hle : decide ((s.size : Int) ≤ (M : Int)) = true := by rw [decide_eq_true_eq]; omega
          clear cl
          go_wp2
          refine wp_still_drew (by kernel_rfl) (by kernel_rfl) ?_
          repeat still_step
          still_call (ROOM.out.mono fun _ _ h => ⟨h.1, h.2.symm⟩)
          repeat still_step
          refine wpStill_nil ?_
          have D5 := Lib.hid (D4.out.chg (chg_drew (fun _ => False) w4) (fun _ _ e => e))
          have J5 := Lib.hid (J4.out.chg (chg_drew (fun _ => False) w4) (fun e => e))
          have K5 := Lib.hid K4.out.drew
          generalize w4.drew = w5 at *
          go_wp2_with fail
          refine (open_any w5 B d' D5.out).mono ?_
          rintro e w6 (⟨hbad, _⟩ | ⟨_, b2, rfl, j6, c6, hb1, hb2⟩)
          · exact absurd hbad CA.out.rep.fine
          rw [rep_jr CA.out.rep] at j6
          unfold jptr
          have J6 := Lib.hid j6
          have J6' := Lib.hid (J5.out.chg c6 (fun e => e))
          have D6 := Lib.hid (D5.out.chg c6 (fun _ _ e => e))
          have K6 := Lib.hid (K5.out.trans (c6.mono (fun _ _ e => e.elim)))
          have hb2S : ¬ B.S b2 := fun e => by have := D5.out.lt e; omega
          have hb2w : ¬ b2 < w.heap.size := by have := K5.out.size; omega
          clear j6 c6
          have R1 := Lib.hid (record_at w6 B b2 jj J6.out)
          have R2 := Lib.hid (record_at w6 B b jj J6'.out)
          have N1 := Lib.hid (number_at w6 B b2 jj J6.out)
          have N2 := Lib.hid (number_at w6 B b jj J6'.out)
          rw [NUM.out] at N1 N2
          go_wp2_with fail
          refine (R1.out).mono ?_
          rintro e w' ⟨rfl, rfl⟩
          go_wp2_with fail
          refine (R2.out).mono ?_
          rintro e w' ⟨rfl, rfl⟩
          go_wp2_with fail
          refine (N1.out).mono ?_
          rintro e w' ⟨rfl, rfl⟩
          go_wp2_with fail
          refine (N2.out).mono ?_
          rintro e w' ⟨rfl, rfl⟩
          go_wp2_with fail
          refine (pending_any w6 B d' D6.out).mono ?_
          rw [clean_pending CA.out.clean]
          rintro e w7 ⟨v7, rfl, own7, c7⟩
          obtain ⟨a7, cc7, rfl⟩ := own_form own7
          have J7 := Lib.hid (J6.out.chg c7 (fun e => e))
          have J7' := Lib.hid (J6'.out.chg c7 (fun e => e))
          have D7 := Lib.hid (D6.out.chg c7 (fun _ _ e => e))
          have K7 := Lib.hid (K6.out.trans (c7.mono (fun _ _ e => e.elim)))
          have cl7 := cell_chg K7.out (fun e => e hlb) CL0.out
          clear own7 c7 cl4
          have RT := Lib.hid (record_at w7.drew B b jj (J7'.out.chg (chg_drew (fun _ => False) w7) (fun e => e)))
          rw [TX.out] at RT
          go_wp2
          refine wp_still_drew (by kernel_rfl) (by kernel_rfl) ?_
          repeat still_step
          still_call (RT.out.mono fun _ _ h => ⟨h.1, h.2.symm⟩)
          repeat still_step
          refine wpStill_nil ?_
          have D8 := Lib.hid (D7.out.chg (chg_drew (fun _ => False) w7) (fun _ _ e => e))
          have J8 := Lib.hid (J7.out.chg (chg_drew (fun _ => False) w7) (fun e => e))
          have J8' := Lib.hid (J7'.out.chg (chg_drew (fun _ => False) w7) (fun e => e))
          have K8 := Lib.hid (K7.out.drew)
          generalize w7.drew = w8 at *
          by_cases hev : k % 2 = 1
          · have hpar : ((k : Int) % 2 == 1) = true := by rw [beq_iff_eq]; omega
            clear hev
            go_wp2
            go_roundw
            case rel => exact ⟨k + 1, q + 1, b2, d', jj, by go_num, by omega, by go_num, by omega, rfl, D8.out, J8.out, hb2S, hb2w, CA.out, NUM.out, K8.out⟩
            case measure => simp [intOf]; omega
          · have hpar : ((k : Int) % 2 == 1) = false := by rw [beq_eq_false_iff_ne]; omega
            clear hev
            go_wp2
            go_roundw
            case rel => exact ⟨k + 1, q + 1, b, d', jj, by go_num, by omega, by go_num, by omega, rfl, D8.out, J8'.out, hbS, hbw, CA.out, NUM.out, K8.out⟩
            case measure => simp [intOf]; omega
        · have he := calm_not_fits HCA.out s (by rw [HBn.out]; omega)
          rw [he] at COM CA4
          clear he
          go_wp2_with fail
          refine (COM.out).mono ?_
          rintro e w4 ⟨rfl, d4, j4, c4⟩
          have D4 : Hid (DevAt w4 B d) := Lib.hid d4
          have J4 : Hid (JAt w4 B b j) := Lib.hid j4
          have CA : Hid (Calm B.n d j) := CA4
          have K4 := Lib.hid (HC.out.trans (c4.mono (fun k _ h => by rcases h with h | rfl; exact HSB.out k h; exact hbw)))
          clear d4 j4 c4 COM CA4
          obtain ⟨jj, hjj⟩ : ∃ jj : Jr, jj = j := ⟨_, rfl⟩
          rw [← hjj] at J4 CA
          have NUM : Hid (jj.number = (q : Int)) := by rw [hjj]; exact HQ.out
          clear hjj
          have cl4 := cell_chg K4.out (fun e => e hlb) CL0.out
          have ROOM := Lib.hid (room_at w4.drew b B J4.out.c0 D4.out.c0 (by rw [HBn.out]; exact h3) (by rw [HBn.out]; exact h65))
          rw [HBn.out] at ROOM
          generalize hM : (N - 1) / 2 * 32 = M at *
          clear hM
          have hle : decide ((s.size : Int) ≤ (M : Int)) = false := by rw [decide_eq_false_iff_not]; omega
          clear cl
          go_wp2
          refine wp_still_drew (by kernel_rfl) (by kernel_rfl) ?_
          repeat still_step
          still_call (ROOM.out.mono fun _ _ h => ⟨h.1, h.2.symm⟩)
          repeat still_step
          refine wpStill_nil ?_
          have D5 := Lib.hid (D4.out.chg (chg_drew (fun _ => False) w4) (fun _ _ e => e))
          have J5 := Lib.hid (J4.out.chg (chg_drew (fun _ => False) w4) (fun e => e))
          have K5 := Lib.hid K4.out.drew
          generalize w4.drew = w5 at *
          go_wp2_with fail
          refine (open_any w5 B d D5.out).mono ?_
          rintro e w6 (⟨hbad, _⟩ | ⟨_, b2, rfl, j6, c6, hb1, hb2⟩)
          · exact absurd hbad CA.out.rep.fine
          rw [rep_jr CA.out.rep] at j6
          unfold jptr
          have J6 := Lib.hid j6
          have J6' := Lib.hid (J5.out.chg c6 (fun e => e))
          have D6 := Lib.hid (D5.out.chg c6 (fun _ _ e => e))
          have K6 := Lib.hid (K5.out.trans (c6.mono (fun _ _ e => e.elim)))
          have hb2S : ¬ B.S b2 := fun e => by have := D5.out.lt e; omega
          have hb2w : ¬ b2 < w.heap.size := by have := K5.out.size; omega
          clear j6 c6
          have R1 := Lib.hid (record_at w6 B b2 jj J6.out)
          have R2 := Lib.hid (record_at w6 B b jj J6'.out)
          have N1 := Lib.hid (number_at w6 B b2 jj J6.out)
          have N2 := Lib.hid (number_at w6 B b jj J6'.out)
          rw [NUM.out] at N1 N2
          go_wp2_with fail
          refine (R1.out).mono ?_
          rintro e w' ⟨rfl, rfl⟩
          go_wp2_with fail
          refine (R2.out).mono ?_
          rintro e w' ⟨rfl, rfl⟩
          go_wp2_with fail
          refine (N1.out).mono ?_
          rintro e w' ⟨rfl, rfl⟩
          go_wp2_with fail
          refine (N2.out).mono ?_
          rintro e w' ⟨rfl, rfl⟩
          go_wp2_with fail
          refine (pending_any w6 B d D6.out).mono ?_
          rw [clean_pending CA.out.clean]
          rintro e w7 ⟨v7, rfl, own7, c7⟩
          obtain ⟨a7, cc7, rfl⟩ := own_form own7
          have J7 := Lib.hid (J6.out.chg c7 (fun e => e))
          have J7' := Lib.hid (J6'.out.chg c7 (fun e => e))
          have D7 := Lib.hid (D6.out.chg c7 (fun _ _ e => e))
          have K7 := Lib.hid (K6.out.trans (c7.mono (fun _ _ e => e.elim)))
          have cl7 := cell_chg K7.out (fun e => e hlb) CL0.out
          clear own7 c7 cl4
          go_wp2
          go_quiet (fail)
          rename_i nq
          have D8 := Lib.hid (D7.out.chg ((Chg.refl (fun _ => False) w7).drewN nq) (fun _ _ e => e))
          have J8 := Lib.hid (J7.out.chg ((Chg.refl (fun _ => False) w7).drewN nq) (fun e => e))
          have J8' := Lib.hid (J7'.out.chg ((Chg.refl (fun _ => False) w7).drewN nq) (fun e => e))
          have K8 := Lib.hid (K7.out.drewN nq)
          generalize w7.drewN nq = w8 at *
          by_cases hev : k % 2 = 1
          · have hpar : ((k : Int) % 2 == 1) = true := by rw [beq_iff_eq]; omega
            clear hev
            go_wp2
            go_roundw
            case rel => exact ⟨k + 1, q, b2, d, jj, by go_num, by omega, rfl, by omega, rfl, D8.out, J8.out, hb2S, hb2w, CA.out, NUM.out, K8.out⟩
            case measure => simp [intOf]; omega
          · have hpar : ((k : Int) % 2 == 1) = false := by rw [beq_eq_false_iff_ne]; omega
            clear hev
            go_wp2
            go_roundw
            case rel => exact ⟨k + 1, q, b, d, jj, by go_num, by omega, rfl, by omega, rfl, D8.out, J8'.out, hbS, hbw, CA.out, NUM.out, K8.out⟩
            case measure => simp [intOf]; omega
    · clear HL3
      go_wp2
      all_goals go_ret
      all_goals exact ⟨rfl, HC.out.mono (fun k hk e => e hk)⟩
end Go.Proofs.Ytnmgnhhipgiggaa
