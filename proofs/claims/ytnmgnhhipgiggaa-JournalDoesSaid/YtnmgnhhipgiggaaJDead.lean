/-
  Layer 20: JournalDead, walked.
-/
import Derived.Test.YtnmgnhhipgiggaaJActs
namespace Go.Proofs.Ytnmgnhhipgiggaa
open Go.RowKit

/-- Who is dead does nothing; who tells that it is down is dead. -/
structure DeadOk (d d' : Dev) (e : Int) : Prop where
  was : d.dead = true → e = 20 ∧ d'.dead = true ∧ d'.now = d.now
  isn : d.dead = false → e = 20 → d'.dead = true
theorem deadOk_write (d : Dev) (i : Int) (s : List UInt8) : DeadOk d (d.write i s).1 (d.write i s).2 := by
  unfold Dev.write
  constructor
  · intro h; rw [if_pos h]; exact ⟨rfl, h, rfl⟩
  · intro h
    rw [if_neg (by rw [h]; decide)]
    split
    · intro e; cases e
    split
    · intro e; cases e
    split
    · rename_i hs; intro _; exact d.burnt_dead hs
    · intro e; cases e
theorem deadOk_barrier (d : Dev) : DeadOk d d.barrier.1 d.barrier.2 := by
  rw [barrier_eq]
  constructor
  · intro h
    have : d.stops = true := by unfold Dev.stops; rw [h]; rfl
    rw [if_pos this]; exact ⟨rfl, d.burnt_dead this, d.burnt_now⟩
  · intro h
    split
    · rename_i hs; intro _; exact d.burnt_dead hs
    · intro e; cases e
theorem write_zero {d : Dev} {i : Int} {s : List UInt8} (h : d.dead = false) (e : (d.write i s).2 = 0) : (d.write i s).1.dead = false := by
  unfold Dev.write at *
  rw [if_neg (by rw [h]; decide)] at *
  split at e
  · cases e
  · rename_i h1
    rw [if_neg h1]
    split at e
    · cases e
    · rename_i h2
      rw [if_neg h2]
      split at e
      · cases e
      · rename_i h3
        rw [if_neg h3]; exact d.burnt_alive (by simpa using h3)
theorem lay_dead : ∀ (k : Nat) (s : List UInt8), s.length ≤ k → ∀ (d : Dev) (a : Nat), d.dead = false → (d.lay a s).2 = 20 → (d.lay a s).1.dead = true := by
  intro k
  induction k with
  | zero => intro s hk d a hd e; rw [lay_nil d a s (by omega)] at *; exact (deadOk_barrier d).isn hd e
  | succ k ih =>
    intro s hk d a hd e
    by_cases h0 : s.length = 0
    · rw [lay_nil d a s h0] at *; exact (deadOk_barrier d).isn hd e
    · rw [lay_pos d a s (by omega)] at *
      split at e
      · rename_i h1; rw [if_pos h1]; exact ih _ (by rw [List.length_drop]; omega) _ _ (write_zero hd h1) e
      · rename_i h1; rw [if_neg h1]; exact (deadOk_write d _ _).isn hd e
theorem lay_zero : ∀ (k : Nat) (s : List UInt8), s.length ≤ k → ∀ (d : Dev) (a : Nat), d.dead = false → (d.lay a s).2 = 0 → (d.lay a s).1.dead = false := by
  have hb : ∀ d : Dev, d.dead = false → d.barrier.2 = 0 → d.barrier.1.dead = false := by
    intro d hd e
    rw [barrier_eq] at *
    split at e
    · cases e
    · rename_i hs; rw [if_neg hs]; exact d.burnt_alive (by simpa using hs)
  intro k
  induction k with
  | zero => intro s hk d a hd e; rw [lay_nil d a s (by omega)] at *; exact hb d hd e
  | succ k ih =>
    intro s hk d a hd e
    by_cases h0 : s.length = 0
    · rw [lay_nil d a s h0] at *; exact hb d hd e
    · rw [lay_pos d a s (by omega)] at *
      split at e
      · rename_i h1; rw [if_pos h1]; exact ih _ (by rw [List.length_drop]; omega) _ _ (write_zero hd h1) e
      · rename_i h1; exact absurd e h1
theorem deadOk_commit (d : Dev) (j : Jr) (s : ByteArray) : DeadOk d (commit d j s).1 (commit d j s).2.1 := by
  constructor
  · intro h; unfold commit; rw [if_pos h]; exact ⟨rfl, h, rfl⟩
  · intro h
    unfold commit
    rw [if_neg (by rw [h]; decide)]
    split
    · intro e; cases e
    split
    · intro e; cases e
    dsimp only
    split
    · intro e; exact lay_dead _ _ (Nat.le_refl _) d _ h e
    · rename_i h1
      have z := lay_zero _ _ (Nat.le_refl _) d _ h (Decidable.not_not.1 h1)
      split
      · intro e; exact (deadOk_write _ _ _).isn z e
      · rename_i h2
        have z2 := write_zero z (Decidable.not_not.1 h2)
        split
        · intro e; exact (deadOk_barrier _).isn z2 e
        · intro e; cases e
theorem commit_half (d : Dev) (j : Jr) (s : ByteArray) (h : j.half ≤ 1) : (commit d j s).2.2.half ≤ 1 := by
  unfold commit; dsimp only; repeat' split
  all_goals first | exact h | (show 1 - j.half ≤ 1; omega)
theorem commit_num (d : Dev) (j : Jr) (s : ByteArray) (h : -9223372036854775808 ≤ j.number) (h' : j.number ≤ 9223372036854775807) : -9223372036854775808 ≤ (commit d j s).2.2.number ∧ (commit d j s).2.2.number ≤ 9223372036854775807 := by
  unfold commit; dsimp only; repeat' split
  all_goals first | exact ⟨h, h'⟩ | (show -9223372036854775808 ≤ j.number + 1 ∧ j.number + 1 ≤ 9223372036854775807; omega)
theorem hnum_range (l : List UInt8) : -9223372036854775808 ≤ hnum l ∧ hnum l ≤ 9223372036854775807 := by
  have h1 := be_lt (l.take 8)
  have h2 : be (l.take 8) < 256 ^ 8 := Nat.lt_of_lt_of_le h1 (Nat.pow_le_pow_right (by decide) (by rw [List.length_take]; omega))
  rw [pow8] at h2
  unfold hnum i64of; split <;> omega

/-- What is known of a journal that was opened, whatever stands on the device. -/
structure JOk (w : World) (B : DB) (b N : Nat) (j : Jr) : Prop where
  at_ : JAt w B b j
  bS : ¬ B.S b
  bw : ¬ b < N
  half : j.half ≤ 1
  n0 : -9223372036854775808 ≤ j.number
  n1 : j.number ≤ 9223372036854775807
theorem JOk.chg {S : Nat → Prop} {w w' : World} {B : DB} {b N : Nat} {j : Jr} (h : JOk w B b N j) (hc : Chg S w w') (hs : ¬ S b) : JOk w' B b N j := ⟨h.at_.chg hc hs, h.bS, h.bw, h.half, h.n0, h.n1⟩
theorem jOk_open {w w' : World} {B : DB} {b N : Nat} {d : Dev} (hd : DevAt w B d) (hN : N ≤ w.heap.size) (hb : ¬ d.bad) (hj : JAt w' B b ⟨hnum d.hd, hhalf d.hd, ⟨d.text.toArray⟩⟩) (h1 : w.heap.size ≤ b) : JOk w' B b N ⟨hnum d.hd, hhalf d.hd, ⟨d.text.toArray⟩⟩ :=
  ⟨hj, fun e => by have := hd.lt e; omega, by omega, by unfold Dev.bad at hb; show hhalf d.hd ≤ 1; omega, (hnum_range _).1, (hnum_range _).2⟩
def JMay (w : World) (B : DB) (N : Nat) (v : Value) : Prop := v = .pointer none ∨ ∃ b j, v = .pointer (some ⟨b, 0, none⟩) ∧ JOk w B b N j

set_option maxHeartbeats 8000000 in
set_option maxRecDepth 100000 in
theorem dead_law (w : World) (n : Int) (v : Value) (l : List ActV) (hv : ActsAt w v (· < w.heap.size) l) :
    Calls Try.prog 6 #[.int .i64 n, v] w fun e w' => e = .returned (.bool true) ∧ Chg (fun _ => False) w w' := by
  obtain ⟨la, cap, rfl, hl1, hl3⟩ := hv
  have HL3 := Lib.hid hl3
  clear hl3
  unfold maxLen at hl1
  go_enter Try.func6, Try.ntmps6
  go_wp2_with fail
  refine (awake_any w).mono ?_
  rintro e w1 ⟨rfl, c1⟩
  have C1 := Lib.hid c1
  clear c1
  by_cases hn : n < 3 ∨ 65 < n
  · go_wp2_with fail
    refine (device_none w1 n hn).mono ?_
    rintro e w' ⟨rfl, rfl⟩
    go_wp2
    go_ret
    exact ⟨rfl, C1.out⟩
  obtain ⟨N, rfl⟩ := Int.eq_ofNat_of_zero_le (show 0 ≤ n by omega)
  have h3 : 3 ≤ N := by omega
  have h65 : N ≤ 65 := by omega
  clear hn
  go_wp2_with fail
  refine (device_some w1 N h3 h65).mono ?_
  rintro e w2 ⟨B, rfl, hBn, d2, c2, l2⟩
  unfold DB.ptr
  have D2 := Lib.hid d2
  have C2 := Lib.hid c2
  have L2 := Lib.hid l2
  have HBn := Lib.hid hBn
  clear d2 c2 l2 hBn
  go_wp2_with fail
  refine (open_any w2 B _ D2.out).mono ?_
  rintro e w3 (⟨hbad, _⟩ | ⟨hnb, b, rfl, j3, c3, hb1, hb2⟩)
  · exact absurd hbad (rep_new N h3).fine
  unfold jptr
  have hN2 : w.heap.size ≤ w2.heap.size := by have := C1.out.size; have := C2.out.size; omega
  have J3 := Lib.hid (jOk_open D2.out hN2 hnb j3 hb1)
  have D3 := Lib.hid (D2.out.chg c3 (fun _ _ e => e))
  have C3 := Lib.hid c3
  have hSB : ∀ k, B.S k → ¬ k < w.heap.size := fun k hk => by have := (L2.out k hk).1; have := C1.out.size; omega
  have HSB := Lib.hid hSB
  have K3 := Lib.hid (show Chg (fun k => ¬ k < w.heap.size) w w3 from (C1.out.mono (fun _ _ e => e.elim)).trans ((C2.out.mono (fun _ _ e => e.elim)).trans (C3.out.mono (fun _ _ e => e.elim))))
  clear j3 c3 hSB
  go_wp2
  go_loopw [6, 8] (fun jv i wr => ∃ (k : Nat) (d : Dev), i = .int .i64 k ∧ k ≤ 60 ∧ DevAt wr B d ∧ JMay wr B w.heap.size jv ∧ Chg (fun k => ¬ k < w.heap.size) w wr) (fun _ i _ => 60 - (intOf i).toNat)
  case atStart => exact ⟨0, _, rfl, by omega, D3.out, .inr ⟨_, _, rfl, J3.out⟩, K3.out⟩
  case round =>
    clear hb1 hb2 hnb hN2
    obtain ⟨k, d, rfl, hk60, hd, hjv, hc⟩ := hrel
    have HD := Lib.hid hd
    have HC := Lib.hid hc
    have hcw := hc.size
    clear hd hc D3 J3 K3 C3
    by_cases hlt : k < l.length ∧ k < 60
    · obtain ⟨hlt1, hlt2⟩ := hlt
      obtain ⟨x, hx⟩ : ∃ x, l[k]? = some x := ⟨_, List.getElem?_eq_getElem hlt1⟩
      obtain ⟨lb, lo, rfl, hlb, a0, a1, a2, a3, hsz, hnr, hbo⟩ := HL3.out k x hx
      obtain ⟨kd, ss, nn, kv, keep⟩ := x
      simp only at a0 a1 a2 a3 hsz hnr hbo
      have b0 := cell_chg HC.out (fun e => e hlb) a0
      have b1 := cell_chg HC.out (fun e => e hlb) a1
      have b2 := cell_chg HC.out (fun e => e hlb) a2
      have b3 := cell_chg HC.out (fun e => e hlb) a3
      have HBO := Lib.hid hbo
      have hbo' := hbo
      obtain ⟨ka, kc, rfl, hkl, _⟩ := hbo'
      clear a0 a1 a2 a3 hx hbo
      by_cases hlg : 3000 < ss.size ∨ 200 < keep.length
      · have LG := Lib.hid (large_yes (wr.alloc (.cells #[.int .i64 kd, .string ss, .int .i64 nn, .slice ka keep.length kc] 37)) kd nn ss ka keep.length kc hsz hkl hlg)
        unfold maxLen at hsz hkl
        clear hlg
        rcases hjv with rfl | ⟨b, j, rfl, hj⟩
        all_goals
          go_wp2_with fail
          refine (LG.out).mono ?_
          rintro e w4 ⟨rfl, c4⟩
          have K4 := Lib.hid ((HC.out.alloc _).trans (c4.mono (fun _ _ e => e.elim)))
          clear c4
          go_wp2
          go_ret
          exact ⟨rfl, K4.out.mono (fun k hk e => e hk)⟩
      · have LG := Lib.hid (large_no (wr.alloc (.cells #[.int .i64 kd, .string ss, .int .i64 nn, .slice ka keep.length kc] 37)) kd nn ss ka keep.length kc (by omega) (by omega))
        unfold maxLen at hsz hkl
        have hs3 : ss.size ≤ 3000 := by omega
        clear hlg
        rcases hjv with rfl | ⟨b, j, rfl, hj⟩
        · go_wp2_with fail
          refine (LG.out).mono ?_
          rintro e w4 ⟨rfl, c4⟩
          have K4 := Lib.hid ((HC.out.alloc _).trans (c4.mono (fun _ _ e => e.elim)))
          clear c4
          go_wp2
          go_ret
          exact ⟨rfl, K4.out.mono (fun k hk e => e hk)⟩
        · have HJ := Lib.hid hj
          clear hj
          go_wp2_with fail
          refine (LG.out).mono ?_
          rintro e w4 ⟨rfl, c4⟩
          have k4 := (chg_alloc (fun _ => False) wr (.cells #[.int .i64 kd, .string ss, .int .i64 nn, .slice ka keep.length kc] 37)).trans c4
          have D4 := Lib.hid (HD.out.chg k4 (fun _ _ e => e))
          have J4 := Lib.hid (HJ.out.chg k4 (fun e => e))
          have K4 := Lib.hid (HC.out.trans (k4.mono (fun _ _ e => e.elim)))
          have X4 := Lib.hid (c4.obj (fun e => e) (obj_alloc_new wr (.cells #[.int .i64 kd, .string ss, .int .i64 nn, .slice ka keep.length kc] 37)))
          have hxS : ¬ B.S wr.heap.size := fun e => by have := HD.out.lt e; omega
          have hxb : ¬ wr.heap.size < w.heap.size := by omega
          have hwx : wr.heap.size < w4.heap.size := lt_of_obj X4.out
          generalize wr.heap.size = bx at *
          have DEAD := Lib.hid (dead_any w4 B d D4.out)
          clear k4 c4 b0 b1 b2 b3 LG HD HJ HC
          go_wp2_with fail
          refine (DEAD.out).mono ?_
          rintro e w' ⟨rfl, rfl⟩
          go_wp2
          go_loop [11, 12] (fun t i => ∃ m : Nat, m ≤ N ∧ i = .int .i64 m ∧ t = .string ⟨(allTo d.now m).toArray⟩) (fun _ i => N - (intOf i).toNat)
          case atStart => exact ⟨0, by omega, rfl, rfl⟩
          case round =>
            obtain ⟨m, hm, rfl, rfl⟩ := hrel
            by_cases hmN : m < N
            · have RD := Lib.hid (read_in w4 B d m D4.out (by rw [HBn.out]; exact hmN))
              have AS := Lib.hid (allTo_succ d.now m)
              have BA := Lib.hid (bytes_append (allTo d.now m) (d.now.getD m []))
              have la := allTo_length D4.out.ok.wnow m
              have ls := getD_le D4.out.ok.wnow m
              generalize allTo d.now m = ac at *
              generalize d.now.getD m [] = sec at *
              go_wp2_with fail
              refine (RD.out).mono ?_
              rintro e w' ⟨rfl, rfl⟩
              go_wp2
              go_round
              case rel => exact ⟨m + 1, by omega, by go_num, by rw [AS.out, ← BA.out]⟩
              case measure => simp [intOf]; omega
            · obtain rfl : N = m := by omega
              obtain ⟨al, hal⟩ : ∃ al, al = allTo d.now N := ⟨_, rfl⟩
              rw [← hal]
              have HALL := Lib.hid hal
              clear hal
              have x0 : w4.cell? ⟨bx, 0, none⟩ = some (.int .i64 kd) := cell_of X4.out rfl
              have x1 : w4.cell? ⟨bx, 1, none⟩ = some (.string ss) := cell_of X4.out rfl
              have x2 : w4.cell? ⟨bx, 2, none⟩ = some (.int .i64 nn) := cell_of X4.out rfl
              have x3 : w4.cell? ⟨bx, 3, none⟩ = some (.slice ka keep.length kc) := cell_of X4.out rfl
              by_cases e0 : kd = 0
              · have f0 : (kd == 0) = true := by rw [beq_iff_eq]; exact e0
                clear e0
                go_wp2_with fail
                refine (commit_any w4 B b d j ss D4.out J4.out.at_ J4.out.bS J4.out.half J4.out.n0 J4.out.n1 (by unfold maxLen; omega)).mono ?_
                rintro e w6 ⟨rfl, d6, j6, c6⟩
                have DO := Lib.hid (deadOk_commit d j ss)
                have D6 := Lib.hid d6
                have J6 := Lib.hid (show JOk w6 B b w.heap.size (commit d j ss).2.2 from ⟨j6, J4.out.bS, J4.out.bw, commit_half d j ss J4.out.half, (commit_num d j ss J4.out.n0 J4.out.n1).1, (commit_num d j ss J4.out.n0 J4.out.n1).2⟩)
                have K6 := Lib.hid (K4.out.trans (c6.mono (fun k _ h => by rcases h with h | rfl; exact HSB.out k h; exact J4.out.bw)))
                clear d6 j6 c6 DEAD
                generalize commit d j ss = R at *
                obtain ⟨d6, ee, j6⟩ := R
                simp only at DO D6 J6
                have DEAD := Lib.hid (dead_any w6 B d6 D6.out)
                by_cases hdd : d.dead = true
                · obtain ⟨q1, q2, q3⟩ := DO.out.was hdd
                  have Q3 := Lib.hid q3
                  rw [q1, hdd]
                  rw [q2] at DEAD
                  clear q1 q2 q3 hdd DO
                  go_wp2
                  go_loop [14, 15] (fun t i => ∃ m : Nat, m ≤ N ∧ i = .int .i64 m ∧ t = .string ⟨(allTo d6.now m).toArray⟩) (fun _ i => N - (intOf i).toNat)
                  case atStart => exact ⟨0, by omega, rfl, rfl⟩
                  case round =>
                    obtain ⟨m, hm, rfl, rfl⟩ := hrel
                    by_cases hmN : m < N
                    · have RD := Lib.hid (read_in w6 B d6 m D6.out (by rw [HBn.out]; exact hmN))
                      have AS := Lib.hid (allTo_succ d6.now m)
                      have BA := Lib.hid (bytes_append (allTo d6.now m) (d6.now.getD m []))
                      have la := allTo_length D6.out.ok.wnow m
                      have ls := getD_le D6.out.ok.wnow m
                      generalize allTo d6.now m = ac at *
                      generalize d6.now.getD m [] = sec at *
                      go_wp2_with fail
                      refine (RD.out).mono ?_
                      rintro e w' ⟨rfl, rfl⟩
                      go_wp2
                      go_round
                      case rel => exact ⟨m + 1, by omega, by go_num, by rw [AS.out, ← BA.out]⟩
                      case measure => simp [intOf]; omega
                    · obtain rfl : N = m := by omega
                      rw [Q3.out, ← HALL.out]
                      go_wp2_with fail
                      refine (DEAD.out).mono ?_
                      rintro e w' ⟨rfl, rfl⟩
                      go_wp2
                      go_roundw
                      case rel => exact ⟨k + 1, d6, by go_num, by omega, D6.out, .inr ⟨_, _, rfl, J6.out⟩, K6.out⟩
                      case measure => simp [intOf]; omega
                · have hdd : d.dead = false := by simpa using hdd
                  by_cases h20 : ee = 20
                  · have q2 := DO.out.isn hdd h20
                    rw [h20, hdd]
                    rw [q2] at DEAD
                    clear q2 h20 hdd DO
                    go_wp2
                    go_loop [14, 15] (fun t i => ∃ m : Nat, m ≤ N ∧ i = .int .i64 m ∧ t = .string ⟨(allTo d6.now m).toArray⟩) (fun _ i => N - (intOf i).toNat)
                    case atStart => exact ⟨0, by omega, rfl, rfl⟩
                    case round =>
                      obtain ⟨m, hm, rfl, rfl⟩ := hrel
                      by_cases hmN : m < N
                      · have RD := Lib.hid (read_in w6 B d6 m D6.out (by rw [HBn.out]; exact hmN))
                        have AS := Lib.hid (allTo_succ d6.now m)
                        have BA := Lib.hid (bytes_append (allTo d6.now m) (d6.now.getD m []))
                        have la := allTo_length D6.out.ok.wnow m
                        have ls := getD_le D6.out.ok.wnow m
                        generalize allTo d6.now m = ac at *
                        generalize d6.now.getD m [] = sec at *
                        go_wp2_with fail
                        refine (RD.out).mono ?_
                        rintro e w' ⟨rfl, rfl⟩
                        go_wp2
                        go_round
                        case rel => exact ⟨m + 1, by omega, by go_num, by rw [AS.out, ← BA.out]⟩
                        case measure => simp [intOf]; omega
                      · obtain rfl : N = m := by omega
                        generalize allTo d6.now N = al6 at *
                        go_wp2_with fail
                        refine (DEAD.out).mono ?_
                        rintro e w' ⟨rfl, rfl⟩
                        go_wp2
                        go_roundw
                        case rel => exact ⟨k + 1, d6, by go_num, by omega, D6.out, .inr ⟨_, _, rfl, J6.out⟩, K6.out⟩
                        case measure => simp [intOf]; omega
                  · have h20' : (ee == 20) = false := by rw [beq_eq_false_iff_ne]; exact h20
                    rw [hdd]
                    clear h20 hdd DO
                    go_wp2
                    go_loop [14, 15] (fun t i => ∃ m : Nat, m ≤ N ∧ i = .int .i64 m ∧ t = .string ⟨(allTo d6.now m).toArray⟩) (fun _ i => N - (intOf i).toNat)
                    case atStart => exact ⟨0, by omega, rfl, rfl⟩
                    case round =>
                      obtain ⟨m, hm, rfl, rfl⟩ := hrel
                      by_cases hmN : m < N
                      · have RD := Lib.hid (read_in w6 B d6 m D6.out (by rw [HBn.out]; exact hmN))
                        have AS := Lib.hid (allTo_succ d6.now m)
                        have BA := Lib.hid (bytes_append (allTo d6.now m) (d6.now.getD m []))
                        have la := allTo_length D6.out.ok.wnow m
                        have ls := getD_le D6.out.ok.wnow m
                        generalize allTo d6.now m = ac at *
                        generalize d6.now.getD m [] = sec at *
                        go_wp2_with fail
                        refine (RD.out).mono ?_
                        rintro e w' ⟨rfl, rfl⟩
                        go_wp2
                        go_round
                        case rel => exact ⟨m + 1, by omega, by go_num, by rw [AS.out, ← BA.out]⟩
                        case measure => simp [intOf]; omega
                      · obtain rfl : N = m := by omega
                        generalize allTo d6.now N = al6 at *
                        go_wp2
                        go_roundw
                        case rel => exact ⟨k + 1, d6, by go_num, by omega, D6.out, .inr ⟨_, _, rfl, J6.out⟩, K6.out⟩
                        case measure => simp [intOf]; omega
              have f0 : (kd == 0) = false := by rw [beq_eq_false_iff_ne]; exact e0
              by_cases e1 : kd = 1
              · have f1 : (kd == 1) = true := by rw [beq_iff_eq]; exact e1
                clear e0 e1
                go_wp2_with fail
                refine (crash_any w4 B d keep _ (· < w.heap.size) D4.out (fun k hk e => HSB.out k e hk) (HBO.out.chg K4.out (fun k hk e => e hk))).mono ?_
                rintro e w6 ⟨rfl, d6, c6⟩
                have D6 := Lib.hid d6
                have K6 := Lib.hid (K4.out.trans (c6.mono (fun k _ h => HSB.out k h)))
                clear d6 c6 DEAD
                have DEAD := Lib.hid (dead_any w6 B _ D6.out)
                rw [show (d.crash keep).dead = false from rfl] at DEAD
                go_wp2_with fail
                refine (DEAD.out).mono ?_
                rintro e w' ⟨rfl, rfl⟩
                go_wp2_with fail
                refine (pending_any w6 B _ D6.out).mono ?_
                rw [clean_pending (crash_clean d keep)]
                rintro e w7 ⟨v7, rfl, own7, c7⟩
                obtain ⟨a7, cc7, rfl⟩ := own_form own7
                have D7 := Lib.hid (D6.out.chg c7 (fun _ _ e => e))
                have K7 := Lib.hid (K6.out.trans (c7.mono (fun _ _ e => e.elim)))
                clear own7 c7
                have hN7 : w.heap.size ≤ w7.heap.size := K7.out.size
                go_wp2_with fail
                refine (open_any w7 B _ D7.out).mono ?_
                rintro e w8 (⟨_, rfl, c8⟩ | ⟨hnb, b8, rfl, j8, c8, hb1, hb2⟩)
                · have D8 := Lib.hid (D7.out.chg c8 (fun _ _ e => e))
                  have K8 := Lib.hid (K7.out.trans (c8.mono (fun _ _ e => e.elim)))
                  clear c8
                  go_wp2
                  go_roundw
                  case rel => exact ⟨k + 1, _, by go_num, by omega, D8.out, .inl rfl, K8.out⟩
                  case measure => simp [intOf]; omega
                · unfold jptr
                  have J8 := Lib.hid (jOk_open D7.out hN7 hnb j8 hb1)
                  have D8 := Lib.hid (D7.out.chg c8 (fun _ _ e => e))
                  have K8 := Lib.hid (K7.out.trans (c8.mono (fun _ _ e => e.elim)))
                  clear c8 j8
                  go_wp2
                  go_roundw
                  case rel => exact ⟨k + 1, _, by go_num, by omega, D8.out, .inr ⟨_, _, rfl, J8.out⟩, K8.out⟩
                  case measure => simp [intOf]; omega
              have f1 : (kd == 1) = false := by rw [beq_eq_false_iff_ne]; exact e1
              by_cases e2 : kd = 2
              · have f2 : (kd == 2) = true := by rw [beq_iff_eq]; exact e2
                clear e0 e1 e2
                go_wp2_with fail
                refine (setFuse_any w4 B d nn D4.out hnr).mono ?_
                rintro e w6 ⟨rfl, d6, c6⟩
                have D6 := Lib.hid d6
                have J6 := Lib.hid (J4.out.chg c6 J4.out.bS)
                have K6 := Lib.hid (K4.out.trans (c6.mono (fun k _ h => HSB.out k h)))
                clear d6 c6
                go_wp2
                go_roundw
                case rel => exact ⟨k + 1, _, by go_num, by omega, D6.out, .inr ⟨_, _, rfl, J6.out⟩, K6.out⟩
                case measure => simp [intOf]; omega
              have f2 : (kd == 2) = false := by rw [beq_eq_false_iff_ne]; exact e2
              by_cases e3 : kd = 3
              · have f3 : (kd == 3) = true := by rw [beq_iff_eq]; exact e3
                clear e0 e1 e2 e3
                go_wp2_with fail
                refine (write_any w4 B d nn ss D4.out (by unfold maxLen; omega)).mono ?_
                rintro e w6 ⟨rfl, d6, c6⟩
                have DO := Lib.hid (deadOk_write d nn ss.data.toList)
                have D6 := Lib.hid d6
                have J6 := Lib.hid (J4.out.chg c6 J4.out.bS)
                have K6 := Lib.hid (K4.out.trans (c6.mono (fun k _ h => HSB.out k h)))
                clear d6 c6 DEAD
                generalize d.write nn ss.data.toList = R at *
                obtain ⟨d6, ee⟩ := R
                simp only at DO D6
                have DEAD := Lib.hid (dead_any w6 B d6 D6.out)
                by_cases hdd : d.dead = true
                · obtain ⟨q1, q2, q3⟩ := DO.out.was hdd
                  have Q3 := Lib.hid q3
                  rw [q1, hdd]
                  rw [q2] at DEAD
                  clear q1 q2 q3 hdd DO
                  go_wp2
                  go_loop [14, 15] (fun t i => ∃ m : Nat, m ≤ N ∧ i = .int .i64 m ∧ t = .string ⟨(allTo d6.now m).toArray⟩) (fun _ i => N - (intOf i).toNat)
                  case atStart => exact ⟨0, by omega, rfl, rfl⟩
                  case round =>
                    obtain ⟨m, hm, rfl, rfl⟩ := hrel
                    by_cases hmN : m < N
                    · have RD := Lib.hid (read_in w6 B d6 m D6.out (by rw [HBn.out]; exact hmN))
                      have AS := Lib.hid (allTo_succ d6.now m)
                      have BA := Lib.hid (bytes_append (allTo d6.now m) (d6.now.getD m []))
                      have la := allTo_length D6.out.ok.wnow m
                      have ls := getD_le D6.out.ok.wnow m
                      generalize allTo d6.now m = ac at *
                      generalize d6.now.getD m [] = sec at *
                      go_wp2_with fail
                      refine (RD.out).mono ?_
                      rintro e w' ⟨rfl, rfl⟩
                      go_wp2
                      go_round
                      case rel => exact ⟨m + 1, by omega, by go_num, by rw [AS.out, ← BA.out]⟩
                      case measure => simp [intOf]; omega
                    · obtain rfl : N = m := by omega
                      rw [Q3.out, ← HALL.out]
                      go_wp2_with fail
                      refine (DEAD.out).mono ?_
                      rintro e w' ⟨rfl, rfl⟩
                      go_wp2
                      go_roundw
                      case rel => exact ⟨k + 1, d6, by go_num, by omega, D6.out, .inr ⟨_, _, rfl, J6.out⟩, K6.out⟩
                      case measure => simp [intOf]; omega
                · have hdd : d.dead = false := by simpa using hdd
                  by_cases h20 : ee = 20
                  · have q2 := DO.out.isn hdd h20
                    rw [h20, hdd]
                    rw [q2] at DEAD
                    clear q2 h20 hdd DO
                    go_wp2
                    go_loop [14, 15] (fun t i => ∃ m : Nat, m ≤ N ∧ i = .int .i64 m ∧ t = .string ⟨(allTo d6.now m).toArray⟩) (fun _ i => N - (intOf i).toNat)
                    case atStart => exact ⟨0, by omega, rfl, rfl⟩
                    case round =>
                      obtain ⟨m, hm, rfl, rfl⟩ := hrel
                      by_cases hmN : m < N
                      · have RD := Lib.hid (read_in w6 B d6 m D6.out (by rw [HBn.out]; exact hmN))
                        have AS := Lib.hid (allTo_succ d6.now m)
                        have BA := Lib.hid (bytes_append (allTo d6.now m) (d6.now.getD m []))
                        have la := allTo_length D6.out.ok.wnow m
                        have ls := getD_le D6.out.ok.wnow m
                        generalize allTo d6.now m = ac at *
                        generalize d6.now.getD m [] = sec at *
                        go_wp2_with fail
                        refine (RD.out).mono ?_
                        rintro e w' ⟨rfl, rfl⟩
                        go_wp2
                        go_round
                        case rel => exact ⟨m + 1, by omega, by go_num, by rw [AS.out, ← BA.out]⟩
                        case measure => simp [intOf]; omega
                      · obtain rfl : N = m := by omega
                        generalize allTo d6.now N = al6 at *
                        go_wp2_with fail
                        refine (DEAD.out).mono ?_
                        rintro e w' ⟨rfl, rfl⟩
                        go_wp2
                        go_roundw
                        case rel => exact ⟨k + 1, d6, by go_num, by omega, D6.out, .inr ⟨_, _, rfl, J6.out⟩, K6.out⟩
                        case measure => simp [intOf]; omega
                  · have h20' : (ee == 20) = false := by rw [beq_eq_false_iff_ne]; exact h20
                    rw [hdd]
                    clear h20 hdd DO
                    go_wp2
                    go_loop [14, 15] (fun t i => ∃ m : Nat, m ≤ N ∧ i = .int .i64 m ∧ t = .string ⟨(allTo d6.now m).toArray⟩) (fun _ i => N - (intOf i).toNat)
                    case atStart => exact ⟨0, by omega, rfl, rfl⟩
                    case round =>
                      obtain ⟨m, hm, rfl, rfl⟩ := hrel
                      by_cases hmN : m < N
                      · have RD := Lib.hid (read_in w6 B d6 m D6.out (by rw [HBn.out]; exact hmN))
                        have AS := Lib.hid (allTo_succ d6.now m)
                        have BA := Lib.hid (bytes_append (allTo d6.now m) (d6.now.getD m []))
                        have la := allTo_length D6.out.ok.wnow m
                        have ls := getD_le D6.out.ok.wnow m
                        generalize allTo d6.now m = ac at *
                        generalize d6.now.getD m [] = sec at *
                        go_wp2_with fail
                        refine (RD.out).mono ?_
                        rintro e w' ⟨rfl, rfl⟩
                        go_wp2
                        go_round
                        case rel => exact ⟨m + 1, by omega, by go_num, by rw [AS.out, ← BA.out]⟩
                        case measure => simp [intOf]; omega
                      · obtain rfl : N = m := by omega
                        generalize allTo d6.now N = al6 at *
                        go_wp2
                        go_roundw
                        case rel => exact ⟨k + 1, d6, by go_num, by omega, D6.out, .inr ⟨_, _, rfl, J6.out⟩, K6.out⟩
                        case measure => simp [intOf]; omega
              have f3 : (kd == 3) = false := by rw [beq_eq_false_iff_ne]; exact e3
              by_cases e4 : kd = 4
              · have f4 : (kd == 4) = true := by rw [beq_iff_eq]; exact e4
                clear e0 e1 e2 e3 e4
                go_wp2_with fail
                refine (barrier_any w4 B d D4.out).mono ?_
                rintro e w6 ⟨rfl, d6, c6⟩
                have DO := Lib.hid (deadOk_barrier d)
                have D6 := Lib.hid d6
                have J6 := Lib.hid (J4.out.chg c6 J4.out.bS)
                have K6 := Lib.hid (K4.out.trans (c6.mono (fun k _ h => HSB.out k h)))
                clear d6 c6 DEAD
                generalize d.barrier = R at *
                obtain ⟨d6, ee⟩ := R
                simp only at DO D6
                have DEAD := Lib.hid (dead_any w6 B d6 D6.out)
                by_cases hdd : d.dead = true
                · obtain ⟨q1, q2, q3⟩ := DO.out.was hdd
                  have Q3 := Lib.hid q3
                  rw [q1, hdd]
                  rw [q2] at DEAD
                  clear q1 q2 q3 hdd DO
                  go_wp2
                  go_loop [14, 15] (fun t i => ∃ m : Nat, m ≤ N ∧ i = .int .i64 m ∧ t = .string ⟨(allTo d6.now m).toArray⟩) (fun _ i => N - (intOf i).toNat)
                  case atStart => exact ⟨0, by omega, rfl, rfl⟩
                  case round =>
                    obtain ⟨m, hm, rfl, rfl⟩ := hrel
                    by_cases hmN : m < N
                    · have RD := Lib.hid (read_in w6 B d6 m D6.out (by rw [HBn.out]; exact hmN))
                      have AS := Lib.hid (allTo_succ d6.now m)
                      have BA := Lib.hid (bytes_append (allTo d6.now m) (d6.now.getD m []))
                      have la := allTo_length D6.out.ok.wnow m
                      have ls := getD_le D6.out.ok.wnow m
                      generalize allTo d6.now m = ac at *
                      generalize d6.now.getD m [] = sec at *
                      go_wp2_with fail
                      refine (RD.out).mono ?_
                      rintro e w' ⟨rfl, rfl⟩
                      go_wp2
                      go_round
                      case rel => exact ⟨m + 1, by omega, by go_num, by rw [AS.out, ← BA.out]⟩
                      case measure => simp [intOf]; omega
                    · obtain rfl : N = m := by omega
                      rw [Q3.out, ← HALL.out]
                      go_wp2_with fail
                      refine (DEAD.out).mono ?_
                      rintro e w' ⟨rfl, rfl⟩
                      go_wp2
                      go_roundw
                      case rel => exact ⟨k + 1, d6, by go_num, by omega, D6.out, .inr ⟨_, _, rfl, J6.out⟩, K6.out⟩
                      case measure => simp [intOf]; omega
                · have hdd : d.dead = false := by simpa using hdd
                  by_cases h20 : ee = 20
                  · have q2 := DO.out.isn hdd h20
                    rw [h20, hdd]
                    rw [q2] at DEAD
                    clear q2 h20 hdd DO
                    go_wp2
                    go_loop [14, 15] (fun t i => ∃ m : Nat, m ≤ N ∧ i = .int .i64 m ∧ t = .string ⟨(allTo d6.now m).toArray⟩) (fun _ i => N - (intOf i).toNat)
                    case atStart => exact ⟨0, by omega, rfl, rfl⟩
                    case round =>
                      obtain ⟨m, hm, rfl, rfl⟩ := hrel
                      by_cases hmN : m < N
                      · have RD := Lib.hid (read_in w6 B d6 m D6.out (by rw [HBn.out]; exact hmN))
                        have AS := Lib.hid (allTo_succ d6.now m)
                        have BA := Lib.hid (bytes_append (allTo d6.now m) (d6.now.getD m []))
                        have la := allTo_length D6.out.ok.wnow m
                        have ls := getD_le D6.out.ok.wnow m
                        generalize allTo d6.now m = ac at *
                        generalize d6.now.getD m [] = sec at *
                        go_wp2_with fail
                        refine (RD.out).mono ?_
                        rintro e w' ⟨rfl, rfl⟩
                        go_wp2
                        go_round
                        case rel => exact ⟨m + 1, by omega, by go_num, by rw [AS.out, ← BA.out]⟩
                        case measure => simp [intOf]; omega
                      · obtain rfl : N = m := by omega
                        generalize allTo d6.now N = al6 at *
                        go_wp2_with fail
                        refine (DEAD.out).mono ?_
                        rintro e w' ⟨rfl, rfl⟩
                        go_wp2
                        go_roundw
                        case rel => exact ⟨k + 1, d6, by go_num, by omega, D6.out, .inr ⟨_, _, rfl, J6.out⟩, K6.out⟩
                        case measure => simp [intOf]; omega
                  · have h20' : (ee == 20) = false := by rw [beq_eq_false_iff_ne]; exact h20
                    rw [hdd]
                    clear h20 hdd DO
                    go_wp2
                    go_loop [14, 15] (fun t i => ∃ m : Nat, m ≤ N ∧ i = .int .i64 m ∧ t = .string ⟨(allTo d6.now m).toArray⟩) (fun _ i => N - (intOf i).toNat)
                    case atStart => exact ⟨0, by omega, rfl, rfl⟩
                    case round =>
                      obtain ⟨m, hm, rfl, rfl⟩ := hrel
                      by_cases hmN : m < N
                      · have RD := Lib.hid (read_in w6 B d6 m D6.out (by rw [HBn.out]; exact hmN))
                        have AS := Lib.hid (allTo_succ d6.now m)
                        have BA := Lib.hid (bytes_append (allTo d6.now m) (d6.now.getD m []))
                        have la := allTo_length D6.out.ok.wnow m
                        have ls := getD_le D6.out.ok.wnow m
                        generalize allTo d6.now m = ac at *
                        generalize d6.now.getD m [] = sec at *
                        go_wp2_with fail
                        refine (RD.out).mono ?_
                        rintro e w' ⟨rfl, rfl⟩
                        go_wp2
                        go_round
                        case rel => exact ⟨m + 1, by omega, by go_num, by rw [AS.out, ← BA.out]⟩
                        case measure => simp [intOf]; omega
                      · obtain rfl : N = m := by omega
                        generalize allTo d6.now N = al6 at *
                        go_wp2
                        go_roundw
                        case rel => exact ⟨k + 1, d6, by go_num, by omega, D6.out, .inr ⟨_, _, rfl, J6.out⟩, K6.out⟩
                        case measure => simp [intOf]; omega
              have f4 : (kd == 4) = false := by rw [beq_eq_false_iff_ne]; exact e4
              clear e0 e1 e2 e3 e4
              go_wp2
              go_roundw
              case rel => exact ⟨k + 1, _, by go_num, by omega, D4.out, .inr ⟨_, _, rfl, J4.out⟩, K4.out⟩
              case measure => simp [intOf]; omega
    · clear HL3
      go_wp2
      all_goals go_ret
      all_goals exact ⟨rfl, HC.out.mono (fun k hk e => e hk)⟩
end Go.Proofs.Ytnmgnhhipgiggaa
