/-
  Layer 20: JournalWhole, walked.
-/
import Derived.Test.YtnmgnhhipgiggaaJDead
namespace Go.Proofs.Ytnmgnhhipgiggaa
open Go.RowKit

structure WInv (n : Nat) (d : Dev) (j : Jr) (may : ByteArray) : Prop where
  disk : Disk n d j may
  clean : d.dead = false → Clean d
  n0 : -9223372036854775808 ≤ j.number
  n1 : j.number ≤ 4611686018427387904
theorem rep_sure {n : Nat} {d : Dev} {j : Jr} (ok : d.Ok n) (hc : Clean d) (h : Rep { d with now := d.sure } j) : Rep d j :=
  h.congr (m_congr (sure_ok ok) ok) (hc.sr 0).symm (fun i _ => (hc.sr i).symm)
theorem WInv.fuse {n : Nat} {d : Dev} {j : Jr} {may : ByteArray} (h : WInv n d j may) (m : Int) (hm : m ≤ 9223372036854775807) : WInv n (d.setFuse m) j may := by
  by_cases hd : d.dead = true
  · have : d.setFuse m = d := by unfold Dev.setFuse; rw [if_pos hd]
    rw [this]; exact h
  · have hok := h.disk.ok.setFuse m hm
    have e : d.setFuse m = { d with fuse := max m 0, on := decide (0 ≤ m) } := by unfold Dev.setFuse; rw [if_neg hd]
    rw [e] at hok ⊢
    have hd' : d.dead = false := by simpa using hd
    have hc := h.clean hd'
    exact ⟨⟨hok, h.disk.rep.congr rfl rfl (fun _ _ => rfl), h.disk.same, .inl (fun i _ => hc.pend i)⟩, fun _ => ⟨hc.sure, hc.pend⟩, h.n0, h.n1⟩
inductive WCom (n : Nat) (d : Dev) (j : Jr) (may s : ByteArray) : Dev × Int × Jr → Prop where
  | no (e : Int) (h0 : e ≠ 0) (h : e = 20 → d.dead = true) (hw : WInv n d j may) : WCom n d j may s (d, e, j)
  | down (d' : Dev) (h : d.dead = false) (hw : WInv n d' j s) : WCom n d j may s (d', 20, j)
  | fine (d' : Dev) (j' : Jr) (hj : j' = ⟨j.number + 1, 1 - j.half, s⟩) (hw : WInv n d' j' s) : WCom n d j may s (d', 0, j')
theorem wcom {n : Nat} {d : Dev} {j : Jr} {may : ByteArray} (h : WInv n d j may) (s : ByteArray) : WCom n d j may s (commit d j s) := by
  by_cases hd : d.dead = true
  · have : commit d j s = (d, 20, j) := by unfold commit; rw [if_pos hd]
    rw [this]; exact .no 20 (by decide) (fun _ => hd) h
  · have hd : d.dead = false := by simpa using hd
    have hc := h.clean hd
    have n0 := h.n0
    have n1 := h.n1
    have := commit_done h.disk.ok hd hc (rep_sure h.disk.ok hc h.disk.rep) h.n0 s
    generalize commit d j s = r at *
    cases this with
    | size _ => exact .no 4 (by decide) (fun e => by cases e) h
    | many _ _ => exact .no 3 (by decide) (fun e => by cases e) h
    | down d' _ hdd hk _ => exact .down d' hd ⟨hk, (fun e => by rw [hdd] at e; cases e), h.n0, h.n1⟩
    | fine d' _ h' ok hdd hcc hr _ => exact .fine d' _ rfl ⟨Clean.disk ok hcc hr s, fun _ => hcc, by show _ ≤ j.number + 1; omega, by show j.number + 1 ≤ _; omega⟩
theorem winv_new (n : Nat) (h3 : 3 ≤ n) (h65 : n ≤ 65) : WInv n (Dev.new n) ⟨0, 0, ⟨#[]⟩⟩ ⟨#[]⟩ :=
  ⟨Clean.disk (Dev.ok_new n h3 h65) (clean_new n) (rep_new n h3) _, fun _ => clean_new n, by decide, by decide⟩
theorem winv_clean {n : Nat} {d : Dev} {j : Jr} (ok : d.Ok n) (hc : Clean d) (hr : Rep d j) (n0 : -9223372036854775808 ≤ j.number) (n1 : j.number ≤ 4611686018427387904) (may : ByteArray) : WInv n d j may :=
  ⟨Clean.disk ok hc hr may, fun _ => hc, n0, n1⟩

set_option maxHeartbeats 8000000 in
set_option maxRecDepth 100000 in
theorem whole_law (w : World) (n : Int) (v : Value) (l : List ActV) (hv : ActsAt w v (· < w.heap.size) l) :
    Calls Try.prog 4 #[.int .i64 n, v] w fun e w' => e = .returned (.bool true) ∧ Chg (fun _ => False) w w' := by
  obtain ⟨la, cap, rfl, hl1, hl3⟩ := hv
  have HL3 := Lib.hid hl3
  clear hl3
  unfold maxLen at hl1
  go_enter Try.func4, Try.ntmps4
  go_wp2_with fail
  refine (awake_any w).mono ?_
  rintro e w1 ⟨rfl, c1⟩
  have C1 := Lib.hid c1
  clear c1
  by_cases hn : n < 3 ∨ 65 < n
  · go_wp2_with fail
    refine (device_none w1 n hn).mono ?_
    rintro e w' ⟨rfl, rfl⟩
    go_wp2
    go_ret
    exact ⟨rfl, C1.out⟩
  obtain ⟨N, rfl⟩ := Int.eq_ofNat_of_zero_le (show 0 ≤ n by omega)
  have h3 : 3 ≤ N := by omega
  have h65 : N ≤ 65 := by omega
  clear hn
  go_wp2_with fail
  refine (device_some w1 N h3 h65).mono ?_
  rintro e w2 ⟨B, rfl, hBn, d2, c2, l2⟩
  unfold DB.ptr
  have D2 := Lib.hid d2
  have C2 := Lib.hid c2
  have L2 := Lib.hid l2
  have HBn := Lib.hid hBn
  clear d2 c2 l2 hBn
  go_wp2_with fail
  refine (open_any w2 B _ D2.out).mono ?_
  rintro e w3 (⟨hbad, _⟩ | ⟨hnb, b, rfl, j3, c3, hb1, hb2⟩)
  · exact absurd hbad (rep_new N h3).fine
  unfold jptr
  have hN2 : w.heap.size ≤ w2.heap.size := by have := C1.out.size; have := C2.out.size; omega
  rw [rep_jr (rep_new N h3)] at j3
  have J3 := Lib.hid j3
  have hbS : ¬ B.S b := fun e => by have := L2.out b e; omega
  have hbw : ¬ b < w.heap.size := by omega
  have D3 := Lib.hid (D2.out.chg c3 (fun _ _ e => e))
  have C3 := Lib.hid c3
  have hSB : ∀ k, B.S k → ¬ k < w.heap.size := fun k hk => by have := (L2.out k hk).1; have := C1.out.size; omega
  have HSB := Lib.hid hSB
  have K3 := Lib.hid (show Chg (fun k => ¬ k < w.heap.size) w w3 from (C1.out.mono (fun _ _ e => e.elim)).trans ((C2.out.mono (fun _ _ e => e.elim)).trans (C3.out.mono (fun _ _ e => e.elim))))
  clear j3 c3 hSB
  go_wp2
  go_loopw [6, 8, 9, 10, 11] (fun jv sv mv nv i wr => ∃ (k b : Nat) (d : Dev) (j : Jr) (may : ByteArray), i = .int .i64 k ∧ (k ≤ 60 ∧ j.number ≤ k) ∧ jv = .pointer (some ⟨b, 0, none⟩) ∧ sv = .string j.text ∧ mv = .string may ∧ nv = .int .i64 j.number ∧ DevAt wr B d ∧ JAt wr B b j ∧ ¬ B.S b ∧ ¬ b < w.heap.size ∧ WInv B.n d j may ∧ Chg (fun k => ¬ k < w.heap.size) w wr) (fun _ _ _ _ i _ => 60 - (intOf i).toNat)
  case atStart => exact ⟨0, b, _, _, _, rfl, ⟨by omega, by decide⟩, rfl, rfl, rfl, rfl, D3.out, J3.out, hbS, hbw, by rw [HBn.out]; exact winv_new N h3 h65, K3.out⟩
  case round =>
    clear hb1 hb2 hnb hN2 hbS hbw
    obtain ⟨k, b, d, j, may, rfl, ⟨hk60, hnk⟩, rfl, rfl, rfl, rfl, hd, hj, hbS, hbw, hwi, hc⟩ := hrel
    have HD := Lib.hid hd
    have HJ := Lib.hid hj
    have HC := Lib.hid hc
    have HW := Lib.hid hwi
    have hcw := hc.size
    have nm0 := hwi.n0
    have nm1 := hwi.n1
    have hlf := hwi.disk.rep.half_le
    clear hd hc hj hwi D3 J3 K3 C3
    by_cases hlt : k < l.length ∧ k < 60
    · obtain ⟨hlt1, hlt2⟩ := hlt
      obtain ⟨x, hx⟩ : ∃ x, l[k]? = some x := ⟨_, List.getElem?_eq_getElem hlt1⟩
      obtain ⟨lb, lo, rfl, hlb, a0, a1, a2, a3, hsz, hnr, hbo⟩ := HL3.out k x hx
      obtain ⟨kd, ss, nn, kv, keep⟩ := x
      simp only at a0 a1 a2 a3 hsz hnr hbo
      have b0 := cell_chg HC.out (fun e => e hlb) a0
      have b1 := cell_chg HC.out (fun e => e hlb) a1
      have b2 := cell_chg HC.out (fun e => e hlb) a2
      have b3 := cell_chg HC.out (fun e => e hlb) a3
      have HBO := Lib.hid hbo
      have hbo' := hbo
      obtain ⟨ka, kc, rfl, hkl, _⟩ := hbo'
      clear a0 a1 a2 a3 hx hbo
      by_cases hlg : 3000 < ss.size ∨ 200 < keep.length
      · have LG := Lib.hid (large_yes (wr.alloc (.cells #[.int .i64 kd, .string ss, .int .i64 nn, .slice ka keep.length kc] 37)) kd nn ss ka keep.length kc hsz hkl hlg)
        unfold maxLen at hsz hkl
        clear hlg
        go_wp2_with fail
        refine (LG.out).mono ?_
        rintro e w4 ⟨rfl, c4⟩
        have K4 := Lib.hid ((HC.out.alloc _).trans (c4.mono (fun _ _ e => e.elim)))
        clear c4
        go_wp2
        go_ret
        exact ⟨rfl, K4.out.mono (fun k hk e => e hk)⟩
      · have LG := Lib.hid (large_no (wr.alloc (.cells #[.int .i64 kd, .string ss, .int .i64 nn, .slice ka keep.length kc] 37)) kd nn ss ka keep.length kc (by omega) (by omega))
        unfold maxLen at hsz hkl
        have hs3 : ss.size ≤ 3000 := by omega
        clear hlg
        go_wp2_with fail
        refine (LG.out).mono ?_
        rintro e w4 ⟨rfl, c4⟩
        have k4 := (chg_alloc (fun _ => False) wr (.cells #[.int .i64 kd, .string ss, .int .i64 nn, .slice ka keep.length kc] 37)).trans c4
        have D4 := Lib.hid (HD.out.chg k4 (fun _ _ e => e))
        have J4 := Lib.hid (HJ.out.chg k4 (fun e => e))
        have K4 := Lib.hid (HC.out.trans (k4.mono (fun _ _ e => e.elim)))
        have X4 := Lib.hid (c4.obj (fun e => e) (obj_alloc_new wr (.cells #[.int .i64 kd, .string ss, .int .i64 nn, .slice ka keep.length kc] 37)))
        have hxS : ¬ B.S wr.heap.size := fun e => by have := HD.out.lt e; omega
        have hxb : wr.heap.size ≠ b := fun e => by have := lt_of_obj HJ.out.hb; omega
        generalize wr.heap.size = bx at *
        have DEAD := Lib.hid (dead_any w4 B d D4.out)
        clear k4 c4 b0 b1 b2 b3 LG HD HJ HC
        have x0 : w4.cell? ⟨bx, 0, none⟩ = some (.int .i64 kd) := cell_of X4.out rfl
        have x1 : w4.cell? ⟨bx, 1, none⟩ = some (.string ss) := cell_of X4.out rfl
        have x2 : w4.cell? ⟨bx, 2, none⟩ = some (.int .i64 nn) := cell_of X4.out rfl
        have x3 : w4.cell? ⟨bx, 3, none⟩ = some (.slice ka keep.length kc) := cell_of X4.out rfl
        by_cases e0 : kd = 0
        · have f0 : (kd == 0) = true := by rw [beq_iff_eq]; exact e0
          clear e0
          have COM := Lib.hid (commit_any w4 B b d j ss D4.out J4.out hbS hlf nm0 (by omega) (by unfold maxLen; omega))
          have WC := Lib.hid (wcom HW.out ss)
          generalize commit d j ss = R at *
          have wc := WC.out
          clear WC
          cases wc with
          | no e h0 h20 hw =>
            have HW6 := Lib.hid hw
            clear hw
            have g0 : (e == 0) = false := by rw [beq_eq_false_iff_ne]; exact h0
            by_cases hde : d.dead = true
            · rw [hde] at DEAD
              by_cases he20 : e = 20
              · have g20 : (e == 20) = true := by rw [beq_iff_eq]; exact he20
                clear h0 h20 hde he20
                go_wp2_with fail
                refine (DEAD.out).mono ?_
                rintro e w' ⟨rfl, rfl⟩
                go_wp2_with fail
                refine (COM.out).mono ?_
                rintro e w6 ⟨rfl, d6, j6, c6⟩
                have C6 := Lib.hid c6
                have D6 := Lib.hid d6
                have J6 := Lib.hid j6
                have K6 := Lib.hid (K4.out.trans (c6.mono (fun k _ h => by rcases h with h | rfl; exact HSB.out k h; exact hbw)))
                clear d6 j6 c6 DEAD COM
                clear x0 x1 x2 x3
                have RC := Lib.hid (record_at w6 B b j J6.out)
                have NC := Lib.hid (number_at w6 B b j J6.out)
                go_wp2_with fail
                refine (RC.out).mono ?_
                rintro e w' ⟨rfl, rfl⟩
                go_wp2_with fail
                refine (NC.out).mono ?_
                rintro e w' ⟨rfl, rfl⟩
                go_wp2
                go_roundw
                case rel => exact ⟨k + 1, b, d, j, may, by go_num, ⟨by omega, by omega⟩, rfl, rfl, rfl, rfl, D6.out, J6.out, hbS, hbw, HW6.out, K6.out⟩
                case measure => simp [intOf]; omega
              · have g20 : (e == 20) = false := by rw [beq_eq_false_iff_ne]; exact he20
                clear h0 h20 hde he20
                go_wp2_with fail
                refine (DEAD.out).mono ?_
                rintro e w' ⟨rfl, rfl⟩
                go_wp2_with fail
                refine (COM.out).mono ?_
                rintro e w6 ⟨rfl, d6, j6, c6⟩
                have C6 := Lib.hid c6
                have D6 := Lib.hid d6
                have J6 := Lib.hid j6
                have K6 := Lib.hid (K4.out.trans (c6.mono (fun k _ h => by rcases h with h | rfl; exact HSB.out k h; exact hbw)))
                clear d6 j6 c6 DEAD COM
                clear x0 x1 x2 x3
                have RC := Lib.hid (record_at w6 B b j J6.out)
                have NC := Lib.hid (number_at w6 B b j J6.out)
                go_wp2_with fail
                refine (RC.out).mono ?_
                rintro e w' ⟨rfl, rfl⟩
                go_wp2_with fail
                refine (NC.out).mono ?_
                rintro e w' ⟨rfl, rfl⟩
                go_wp2
                go_roundw
                case rel => exact ⟨k + 1, b, d, j, may, by go_num, ⟨by omega, by omega⟩, rfl, rfl, rfl, rfl, D6.out, J6.out, hbS, hbw, HW6.out, K6.out⟩
                case measure => simp [intOf]; omega
            · have hde : d.dead = false := by simpa using hde
              rw [hde] at DEAD
              have g20 : (e == 20) = false := by rw [beq_eq_false_iff_ne]; intro q; rw [h20 q] at hde; cases hde
              clear h0 h20 hde
              go_wp2_with fail
              refine (DEAD.out).mono ?_
              rintro e w' ⟨rfl, rfl⟩
              go_wp2_with fail
              refine (COM.out).mono ?_
              rintro e w6 ⟨rfl, d6, j6, c6⟩
              have C6 := Lib.hid c6
              have D6 := Lib.hid d6
              have J6 := Lib.hid j6
              have K6 := Lib.hid (K4.out.trans (c6.mono (fun k _ h => by rcases h with h | rfl; exact HSB.out k h; exact hbw)))
              clear d6 j6 c6 DEAD COM
              clear x0 x1 x2 x3
              have RC := Lib.hid (record_at w6 B b j J6.out)
              have NC := Lib.hid (number_at w6 B b j J6.out)
              go_wp2_with fail
              refine (RC.out).mono ?_
              rintro e w' ⟨rfl, rfl⟩
              go_wp2_with fail
              refine (NC.out).mono ?_
              rintro e w' ⟨rfl, rfl⟩
              go_wp2
              go_roundw
              case rel => exact ⟨k + 1, b, d, j, may, by go_num, ⟨by omega, by omega⟩, rfl, rfl, rfl, rfl, D6.out, J6.out, hbS, hbw, HW6.out, K6.out⟩
              case measure => simp [intOf]; omega
          | down d' hdd hw =>
            have HW6 := Lib.hid hw
            rw [hdd] at DEAD
            clear hw hdd
            go_wp2_with fail
            refine (DEAD.out).mono ?_
            rintro e w' ⟨rfl, rfl⟩
            go_wp2_with fail
            refine (COM.out).mono ?_
            rintro e w6 ⟨rfl, d6, j6, c6⟩
            have C6 := Lib.hid c6
            have D6 := Lib.hid d6
            have J6 := Lib.hid j6
            have K6 := Lib.hid (K4.out.trans (c6.mono (fun k _ h => by rcases h with h | rfl; exact HSB.out k h; exact hbw)))
            clear d6 j6 c6 DEAD COM
            have y1 : w6.cell? ⟨bx, 1, none⟩ = some (.string ss) := cell_chg C6.out (fun h => by rcases h with h | h; exact hxS h; exact hxb h) x1
            clear x0 x1 x2 x3
            have RC := Lib.hid (record_at w6 B b j J6.out)
            have NC := Lib.hid (number_at w6 B b j J6.out)
            go_wp2_with fail
            refine (RC.out).mono ?_
            rintro e w' ⟨rfl, rfl⟩
            go_wp2_with fail
            refine (NC.out).mono ?_
            rintro e w' ⟨rfl, rfl⟩
            go_wp2
            go_roundw
            case rel => exact ⟨k + 1, b, d', j, ss, by go_num, ⟨by omega, by omega⟩, rfl, rfl, rfl, rfl, D6.out, J6.out, hbS, hbw, HW6.out, K6.out⟩
            case measure => simp [intOf]; omega
          | fine d' j' hj' hw =>
            have HW6 := Lib.hid hw
            clear hw
            have q1 : j'.number = j.number + 1 := by rw [hj']
            have q2 : j'.text = ss := by rw [hj']
            have Q1 := Lib.hid q1
            have Q2 := Lib.hid q2
            clear hj' q1 q2
            go_wp2_with fail
            refine (DEAD.out).mono ?_
            rintro e w' ⟨rfl, rfl⟩
            go_wp2_with fail
            refine (COM.out).mono ?_
            rintro e w6 ⟨rfl, d6, j6, c6⟩
            have C6 := Lib.hid c6
            have D6 := Lib.hid d6
            have J6 := Lib.hid j6
            have K6 := Lib.hid (K4.out.trans (c6.mono (fun k _ h => by rcases h with h | rfl; exact HSB.out k h; exact hbw)))
            clear d6 j6 c6 DEAD COM
            have y1 : w6.cell? ⟨bx, 1, none⟩ = some (.string ss) := cell_chg C6.out (fun h => by rcases h with h | h; exact hxS h; exact hxb h) x1
            clear x0 x1 x2 x3
            have nj1 : j.number + 1 ≤ 4611686018427387904 := by have := HW6.out.n1; rw [Q1.out] at this; exact this
            go_wp2
            refine wp_still_drew (by kernel_rfl) (by kernel_rfl) ?_
            repeat still_step
            refine wpStill_nil ?_
            have D7 := Lib.hid (D6.out.chg (chg_drew (fun _ => False) w6) (fun _ _ e => e))
            have J7 := Lib.hid (J6.out.chg (chg_drew (fun _ => False) w6) (fun e => e))
            have K7 := Lib.hid K6.out.drew
            generalize w6.drew = w7 at *
            have RC := Lib.hid (record_at w7 B b _ J7.out)
            have NC := Lib.hid (number_at w7 B b _ J7.out)
            rw [Q2.out] at RC
            rw [Q1.out] at NC
            go_wp2_with fail
            refine (RC.out).mono ?_
            rintro e w' ⟨rfl, rfl⟩
            go_wp2_with fail
            refine (NC.out).mono ?_
            rintro e w' ⟨rfl, rfl⟩
            go_wp2
            go_roundw
            case rel => exact ⟨k + 1, b, d', j', ss, by go_num, ⟨by omega, by have := Q1.out; omega⟩, rfl, by rw [Q2.out], rfl, by rw [Q1.out], D7.out, J7.out, hbS, hbw, HW6.out, K7.out⟩
            case measure => simp [intOf]; omega
        have f0 : (kd == 0) = false := by rw [beq_eq_false_iff_ne]; exact e0
        by_cases e1 : kd = 1
        · have f1 : (kd == 1) = true := by rw [beq_iff_eq]; exact e1
          clear e0 e1
          go_wp2_with fail
          refine (crash_any w4 B d keep _ (· < w.heap.size) D4.out (fun k hk e => HSB.out k e hk) (HBO.out.chg K4.out (fun k hk e => e hk))).mono ?_
          rintro e w6 ⟨rfl, d6, c6⟩
          have D6 := Lib.hid d6
          have K6 := Lib.hid (K4.out.trans (c6.mono (fun k _ h => HSB.out k h)))
          have RR := Lib.hid (crash_rep HW.out.disk keep)
          have CC := Lib.hid (crash_clean d keep)
          clear d6 c6 DEAD x0 x1 x2 x3
          generalize d.crash keep = dc at *
          obtain ⟨jc, hrep, hjc⟩ : ∃ jc, Rep dc jc ∧ (jc = j ∨ jc = ⟨j.number + 1, 1 - j.half, may⟩) := by
            rcases RR.out with r | r
            · exact ⟨j, r, .inl rfl⟩
            · exact ⟨_, r, .inr rfl⟩
          have HREP := Lib.hid hrep
          clear hrep RR
          go_wp2_with fail
          refine (open_any w6 B dc D6.out).mono ?_
          rintro e w8 (⟨hbad, _⟩ | ⟨_, b8, rfl, j8, c8, hb1, hb2⟩)
          · exact absurd hbad HREP.out.fine
          rw [rep_jr HREP.out] at j8
          unfold jptr
          have J8 := Lib.hid j8
          have D8 := Lib.hid (D6.out.chg c8 (fun _ _ e => e))
          have K8 := Lib.hid (K6.out.trans (c8.mono (fun _ _ e => e.elim)))
          have hb8S : ¬ B.S b8 := fun e => by have := D6.out.lt e; omega
          have hb8w : ¬ b8 < w.heap.size := by have := K6.out.size; omega
          clear j8 c8
          have RC := Lib.hid (record_at w8 B b8 jc J8.out)
          have NC := Lib.hid (number_at w8 B b8 jc J8.out)
          have rel8 : ∀ (hn : jc.number ≤ 4611686018427387904) (hn0 : -9223372036854775808 ≤ jc.number), WInv B.n dc jc jc.text := fun hn hn0 => winv_clean D8.out.ok CC.out HREP.out hn0 hn _
          have REL8 := Lib.hid rel8
          clear rel8
          rcases hjc with rfl | hjc
          · -- the old record
            go_wp2_with fail
            refine (RC.out).mono ?_
            rintro e w' ⟨rfl, rfl⟩
            go_wp2_with fail
            refine (NC.out).mono ?_
            rintro e w' ⟨rfl, rfl⟩
            go_wp2_with fail
            refine (NC.out).mono ?_
            rintro e w' ⟨rfl, rfl⟩
            go_wp2_with fail
            refine (RC.out).mono ?_
            rintro e w' ⟨rfl, rfl⟩
            go_wp2_with fail
            refine (RC.out).mono ?_
            rintro e w' ⟨rfl, rfl⟩
            go_wp2_with fail
            refine (NC.out).mono ?_
            rintro e w' ⟨rfl, rfl⟩
            go_wp2_with fail
            refine (RC.out).mono ?_
            rintro e w' ⟨rfl, rfl⟩
            go_wp2_with fail
            refine (NC.out).mono ?_
            rintro e w' ⟨rfl, rfl⟩
            go_wp2
            go_roundw
            case rel => exact ⟨k + 1, b8, dc, jc, jc.text, by go_num, ⟨by omega, by omega⟩, rfl, rfl, rfl, rfl, D8.out, J8.out, hb8S, hb8w, REL8.out (by omega) (by omega), K8.out⟩
            case measure => simp [intOf]; omega
          · have q1 : jc.number = j.number + 1 := by rw [hjc]
            have q2 : jc.text = may := by rw [hjc]
            have Q1 := Lib.hid q1
            have Q2 := Lib.hid q2
            clear hjc
            rw [q2] at RC
            rw [q1] at NC
            clear q1 q2
            have REL9 := Lib.hid (show WInv B.n dc jc may by have r := REL8.out (by have := Q1.out; omega) (by have := Q1.out; omega); rw [Q2.out] at r; exact r)
            have g1 : decide (j.number + 1 < j.number) = false := by rw [decide_eq_false_iff_not]; omega
            by_cases hm : may = j.text
            · subst hm
              go_wp2_with fail
              refine (RC.out).mono ?_
              rintro e w' ⟨rfl, rfl⟩
              go_wp2_with fail
              refine (NC.out).mono ?_
              rintro e w' ⟨rfl, rfl⟩
              go_wp2_with fail
              refine (NC.out).mono ?_
              rintro e w' ⟨rfl, rfl⟩
              go_wp2_with fail
              refine (RC.out).mono ?_
              rintro e w' ⟨rfl, rfl⟩
              go_wp2_with fail
              refine (RC.out).mono ?_
              rintro e w' ⟨rfl, rfl⟩
              go_wp2_with fail
              refine (NC.out).mono ?_
              rintro e w' ⟨rfl, rfl⟩
              go_wp2_with fail
              refine (RC.out).mono ?_
              rintro e w' ⟨rfl, rfl⟩
              go_wp2_with fail
              refine (NC.out).mono ?_
              rintro e w' ⟨rfl, rfl⟩
              go_wp2
              go_roundw
              case rel => exact ⟨k + 1, b8, dc, jc, _, by go_num, ⟨by omega, by have := Q1.out; omega⟩, rfl, by rw [Q2.out], rfl, by rw [Q1.out], D8.out, J8.out, hb8S, hb8w, REL9.out, K8.out⟩
              case measure => simp [intOf]; omega
            · have g2 : (may.toList == j.text.toList) = false := by
                rw [beq_eq_false_iff_ne]; intro e; apply hm; rw [ByteArray.toList_eq, ByteArray.toList_eq] at e; exact ByteArray.ext (Array.toList_inj.1 e)
              clear hm
              go_wp2_with fail
              refine (RC.out).mono ?_
              rintro e w' ⟨rfl, rfl⟩
              go_wp2_with fail
              refine (RC.out).mono ?_
              rintro e w' ⟨rfl, rfl⟩
              go_wp2_with fail
              refine (NC.out).mono ?_
              rintro e w' ⟨rfl, rfl⟩
              go_wp2_with fail
              refine (NC.out).mono ?_
              rintro e w' ⟨rfl, rfl⟩
              go_wp2_with fail
              refine (RC.out).mono ?_
              rintro e w' ⟨rfl, rfl⟩
              go_wp2_with fail
              refine (RC.out).mono ?_
              rintro e w' ⟨rfl, rfl⟩
              go_wp2_with fail
              refine (NC.out).mono ?_
              rintro e w' ⟨rfl, rfl⟩
              go_wp2_with fail
              refine (RC.out).mono ?_
              rintro e w' ⟨rfl, rfl⟩
              go_wp2_with fail
              refine (NC.out).mono ?_
              rintro e w' ⟨rfl, rfl⟩
              go_wp2
              go_roundw
              case rel => exact ⟨k + 1, b8, dc, jc, _, by go_num, ⟨by omega, by have := Q1.out; omega⟩, rfl, by rw [Q2.out], rfl, by rw [Q1.out], D8.out, J8.out, hb8S, hb8w, REL9.out, K8.out⟩
              case measure => simp [intOf]; omega
        have f1 : (kd == 1) = false := by rw [beq_eq_false_iff_ne]; exact e1
        by_cases e2 : kd = 2
        · have f2 : (kd == 2) = true := by rw [beq_iff_eq]; exact e2
          clear e0 e1 e2
          go_wp2_with fail
          refine (setFuse_any w4 B d nn D4.out hnr).mono ?_
          rintro e w6 ⟨rfl, d6, c6⟩
          have D6 := Lib.hid d6
          have J6 := Lib.hid (J4.out.chg c6 hbS)
          have K6 := Lib.hid (K4.out.trans (c6.mono (fun k _ h => HSB.out k h)))
          have HW6 := Lib.hid (HW.out.fuse nn hnr)
          clear d6 c6 x0 x1 x2 x3
          have RC := Lib.hid (record_at w6 B b j J6.out)
          have NC := Lib.hid (number_at w6 B b j J6.out)
          go_wp2_with fail
          refine (RC.out).mono ?_
          rintro e w' ⟨rfl, rfl⟩
          go_wp2_with fail
          refine (NC.out).mono ?_
          rintro e w' ⟨rfl, rfl⟩
          go_wp2
          go_roundw
          case rel => exact ⟨k + 1, b, _, j, may, by go_num, ⟨by omega, by omega⟩, rfl, rfl, rfl, rfl, D6.out, J6.out, hbS, hbw, HW6.out, K6.out⟩
          case measure => simp [intOf]; omega
        have f2 : (kd == 2) = false := by rw [beq_eq_false_iff_ne]; exact e2
        by_cases e5 : kd = 5
        · have f5 : (kd == 5) = true := by rw [beq_iff_eq]; exact e5
          clear e0 e1 e2 e5
          by_cases hde : d.dead = true
          · rw [hde] at DEAD
            clear hde
            go_wp2_with fail
            refine (DEAD.out).mono ?_
            rintro e w' ⟨rfl, rfl⟩
            go_wp2
            go_roundw
            case rel => exact ⟨k + 1, b, d, j, may, by go_num, by omega, rfl, rfl, rfl, rfl, D4.out, J4.out, hbS, hbw, HW.out, K4.out⟩
            case measure => simp [intOf]; omega
          · have hde : d.dead = false := by simpa using hde
            rw [hde] at DEAD
            have hcl := HW.out.clean hde
            have HREP := Lib.hid (rep_sure HW.out.disk.ok hcl HW.out.disk.rep)
            clear hde hcl
            go_wp2_with fail
            refine (DEAD.out).mono ?_
            rintro e w' ⟨rfl, rfl⟩
            go_wp2_with fail
            refine (open_any w4 B d D4.out).mono ?_
            rintro e w6 (⟨hbad, _⟩ | ⟨_, b8, rfl, j8, c8, hb1, hb2⟩)
            · exact absurd hbad HREP.out.fine
            rw [rep_jr HREP.out] at j8
            unfold jptr
            have J6 := Lib.hid j8
            have D6 := Lib.hid (D4.out.chg c8 (fun _ _ e => e))
            have K6 := Lib.hid (K4.out.trans (c8.mono (fun _ _ e => e.elim)))
            have hb8S : ¬ B.S b8 := fun e => by have := D4.out.lt e; omega
            have hb8w : ¬ b8 < w.heap.size := by have := K4.out.size; omega
            clear j8 c8 x0 x1 x2 x3
            have RC := Lib.hid (record_at w6 B b8 j J6.out)
            have NC := Lib.hid (number_at w6 B b8 j J6.out)
            go_wp2_with fail
            refine (RC.out).mono ?_
            rintro e w' ⟨rfl, rfl⟩
            go_wp2_with fail
            refine (NC.out).mono ?_
            rintro e w' ⟨rfl, rfl⟩
            go_wp2
            go_roundw
            case rel => exact ⟨k + 1, b8, d, j, may, by go_num, ⟨by omega, by omega⟩, rfl, rfl, rfl, rfl, D6.out, J6.out, hb8S, hb8w, HW.out, K6.out⟩
            case measure => simp [intOf]; omega
        have f5 : (kd == 5) = false := by rw [beq_eq_false_iff_ne]; exact e5
        clear e0 e1 e2 e5
        have RC := Lib.hid (record_at w4 B b j J4.out)
        have NC := Lib.hid (number_at w4 B b j J4.out)
        go_wp2_with fail
        refine (RC.out).mono ?_
        rintro e w' ⟨rfl, rfl⟩
        go_wp2_with fail
        refine (NC.out).mono ?_
        rintro e w' ⟨rfl, rfl⟩
        go_wp2
        go_roundw
        case rel => exact ⟨k + 1, b, d, j, may, by go_num, ⟨by omega, by omega⟩, rfl, rfl, rfl, rfl, D4.out, J4.out, hbS, hbw, HW.out, K4.out⟩
        case measure => simp [intOf]; omega
    · clear HL3
      go_wp2
      all_goals go_ret
      all_goals exact ⟨rfl, HC.out.mono (fun k hk e => e hk)⟩
end Go.Proofs.Ytnmgnhhipgiggaa
