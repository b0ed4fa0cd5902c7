/-
  Layer 20: JournalSure, walked.
-/
import Derived.Test.YtnmgnhhipgiggaaJAwake
import Derived.Test.YtnmgnhhipgiggaaJPure
namespace Go.Proofs.Ytnmgnhhipgiggaa
open Go.RowKit

/-- A slice of strings, to be read. -/
def StrsAt (w : World) (v : Value) (G : Nat → Prop) (l : List ByteArray) : Prop :=
  ∃ la cap, v = .slice la l.length cap ∧ l.length ≤ maxLen ∧ (∀ s ∈ l, s.size ≤ maxLen) ∧ ∀ j, j < l.length → ∃ lb lo, la = some ⟨lb, lo, none⟩ ∧ G lb ∧ w.cell? ⟨lb, lo + j, none⟩ = some (.string (l.getD j ByteArray.empty))

/-- All sectors up to m, one behind the other. -/
def allTo (now : List (List UInt8)) (m : Nat) : List UInt8 := (List.range m).flatMap fun i => now.getD i []
theorem allTo_succ (now : List (List UInt8)) (m : Nat) : allTo now (m + 1) = allTo now m ++ now.getD m [] := by
  unfold allTo; rw [List.range_succ, List.flatMap_append]; simp
theorem getD_le {l : List (List UInt8)} (h : ∀ s ∈ l, s.length = 32) (i : Nat) : (l.getD i []).length ≤ 32 := by
  rcases Nat.lt_or_ge i l.length with hi | hi
  · rw [getD_len h hi]; exact Nat.le_refl _
  · rw [List.getD_eq_getElem?_getD, List.getElem?_eq_none hi]; simp
theorem allTo_length {l : List (List UInt8)} (h : ∀ s ∈ l, s.length = 32) : ∀ m, (allTo l m).length ≤ 32 * m
  | 0 => by simp [allTo]
  | m + 1 => by rw [allTo_succ, List.length_append]; have := allTo_length h m; have := getD_le h m; omega
theorem bytes_append (a b : List UInt8) : (⟨a.toArray⟩ ++ ⟨b.toArray⟩ : ByteArray) = ⟨(a ++ b).toArray⟩ := by
  apply ByteArray.ext
  simp
theorem crash_now {d : Dev} (h : Clean d) (keep : List Bool) : (d.crash keep).now = d.now := by
  unfold Dev.crash crashMid
  simp only
  apply List.ext_getElem
  · simp
  · intro i h1 h2
    simp only [List.length_map, List.length_range] at h1
    simp only [List.getElem_map, List.getElem_range, if_pos h1]
    unfold crashAt
    have := h.pend i
    unfold Dev.pd at this
    rw [this]
    simp [List.getElem?_eq_getElem h2]
theorem rep_jr {d : Dev} {j : Jr} (h : Rep d j) : (⟨hnum d.hd, hhalf d.hd, ⟨d.text.toArray⟩⟩ : Jr) = j := by
  obtain ⟨x, y, z⟩ := j
  rw [h.num, h.half, h.text]
theorem rep_now {d d' : Dev} {j : Jr} (h : Rep d j) (e : d'.now = d.now) : Rep d' j :=
  h.congr (by unfold Dev.m; rw [e]) (by unfold Dev.nw; rw [e]) (fun i _ => by unfold Dev.nw; rw [e])
theorem rep_new (n : Nat) (h3 : 3 ≤ n) : Rep (Dev.new n) ⟨0, 0, ⟨#[]⟩⟩ := by
  have e : (Dev.new n).hd = zsec := by
    unfold Dev.hd Dev.new; simp only
    rw [List.getD_eq_getElem?_getD, List.getElem?_replicate, if_pos (by omega)]; rfl
  refine ⟨?_, by rw [e]; decide, by rw [e]; decide, ?_⟩
  · unfold Dev.bad; rw [e]
    have h1 : hhalf zsec = 0 := by decide
    have h2 : hsize zsec = 0 := by decide
    rw [h1, h2]; omega
  · unfold Dev.text; rw [e, show hsize zsec = 0 from by decide]; rfl
theorem clean_new (n : Nat) : Clean (Dev.new n) := ⟨rfl, fun _ => getD_replicate_false' _ _⟩

/-- The state between two rounds of a law without fuses. -/
structure Calm (n : Nat) (d : Dev) (j : Jr) : Prop where
  ok : d.Ok n
  dead : d.dead = false
  on : d.on = false
  clean : Clean d
  rep : Rep d j
  n0 : -9223372036854775808 ≤ j.number
  n1 : j.number ≤ 4611686018427387904
theorem Calm.commit {n : Nat} {d : Dev} {j : Jr} (h : Calm n d j) (s : ByteArray) : Calm n (commit d j s).1 (commit d j s).2.2 := by
  have := commit_done h.ok h.dead h.clean h.rep h.n0 s
  generalize Go.Proofs.Ytnmgnhhipgiggaa.commit d j s = r at *
  have n0 := h.n0
  have n1 := h.n1
  cases this with
  | size _ => exact h
  | many _ _ => exact h
  | down d' _ _ _ ho => rw [h.on] at ho; cases ho
  | fine d' _ h' ok hd hc hr ho => exact ⟨ok, hd, ho.trans h.on, hc, hr, by show _ ≤ j.number + 1; omega, by show j.number + 1 ≤ _; omega⟩
theorem Calm.crash {n : Nat} {d : Dev} {j : Jr} (h : Calm n d j) (keep : List Bool) : Calm n (d.crash keep) j :=
  ⟨h.ok.crash keep, rfl, rfl, crash_clean d keep, rep_now h.rep (crash_now h.clean keep), h.n0, h.n1⟩

set_option maxHeartbeats 2000000 in
set_option maxRecDepth 100000 in
theorem sure_law (w : World) (n : Int) (v kv : Value) (l : List ByteArray) (keep : List Bool) (hv : StrsAt w v (· < w.heap.size) l) (hkv : BoolsAt w kv (· < w.heap.size) keep) :
    Calls Try.prog 7 #[.int .i64 n, v, kv] w fun e w' => e = .returned (.bool true) ∧ Chg (fun _ => False) w w' := by
  obtain ⟨la, cap, rfl, hl1, hl2, hl3⟩ := hv
  have hkv' := hkv
  obtain ⟨ka, kcap, rfl, hk1, _⟩ := hkv'
  have HKV := Lib.hid hkv
  have HL2 := Lib.hid hl2
  have HL3 := Lib.hid hl3
  clear hkv hl2 hl3
  unfold maxLen at hl1 hk1
  go_enter Try.func7, Try.ntmps7
  go_wp2_with fail
  refine (awake_any w).mono ?_
  rintro e w1 ⟨rfl, c1⟩
  have C1 := Lib.hid c1
  clear c1
  by_cases hn : n < 3 ∨ 65 < n
  · go_wp2_with fail
    refine (device_none w1 n hn).mono ?_
    rintro e w' ⟨rfl, rfl⟩
    go_wp2
    go_ret
    exact ⟨rfl, C1.out⟩
  obtain ⟨N, rfl⟩ := Int.eq_ofNat_of_zero_le (show 0 ≤ n by omega)
  have h3 : 3 ≤ N := by omega
  have h65 : N ≤ 65 := by omega
  clear hn
  go_wp2_with fail
  refine (device_some w1 N h3 h65).mono ?_
  rintro e w2 ⟨B, rfl, hBn, d2, c2, l2⟩
  unfold DB.ptr
  have D2 := Lib.hid d2
  have C2 := Lib.hid c2
  have L2 := Lib.hid l2
  have HBn := Lib.hid hBn
  clear d2 c2 l2 hBn
  by_cases hk200 : 200 < keep.length
  · go_wp2
    go_ret
    exact ⟨rfl, C1.out.trans C2.out⟩
  go_wp2_with fail
  refine (open_any w2 B _ D2.out).mono ?_
  rintro e w3 (⟨hbad, _⟩ | ⟨_, b, rfl, j3, c3, hb1, hb2⟩)
  · exact absurd hbad (rep_new N h3).fine
  rw [rep_jr (rep_new N h3)] at j3
  unfold jptr
  have J3 := Lib.hid j3
  have D3 := Lib.hid (D2.out.chg c3 (fun _ _ e => e))
  have C3 := Lib.hid c3
  have hbS : ¬ B.S b := fun e => by have := L2.out b e; omega
  have CALM := Lib.hid (show Calm B.n (Dev.new N) ⟨0, 0, ⟨#[]⟩⟩ from ⟨D3.out.ok, rfl, rfl, clean_new N, rep_new N h3, by decide, by decide⟩)
  have hSB : ∀ k, B.S k → ¬ k < w.heap.size := fun k hk => by have := (L2.out k hk).1; have := C1.out.size; omega
  have HSB := Lib.hid hSB
  have hbw : ¬ b < w.heap.size := by have := C1.out.size; have := C2.out.size; omega
  have K3 := Lib.hid (show Chg (fun k => ¬ k < w.heap.size) w w3 from (C1.out.mono (fun _ _ e => e.elim)).trans ((C2.out.mono (fun _ _ e => e.elim)).trans (C3.out.mono (fun _ _ e => e.elim))))
  clear j3 c3 hSB
  have hkd : decide (200 < (keep.length : Int)) = false := by rw [decide_eq_false_iff_not]; omega
  go_wp2
  go_loopw [8, 10] (fun jv i wr => ∃ (k b : Nat) (d : Dev) (j : Jr), i = .int .i64 k ∧ k ≤ 60 ∧ jv = .pointer (some ⟨b, 0, none⟩) ∧ DevAt wr B d ∧ JAt wr B b j ∧ ¬ B.S b ∧ ¬ b < w.heap.size ∧ Calm B.n d j ∧ Chg (fun k => ¬ k < w.heap.size) w wr) (fun _ i _ => 60 - (intOf i).toNat)
  case atStart => exact ⟨0, b, _, _, rfl, by omega, rfl, D3.out, J3.out, hbS, hbw, CALM.out, K3.out⟩
  case round =>
    clear hb1 hb2 hbS hbw
    obtain ⟨k, b, d, j, rfl, hk60, rfl, hd, hj, hbS, hbw, hcalm, hc⟩ := hrel
    have HD := Lib.hid hd
    have HJ := Lib.hid hj
    have HC := Lib.hid hc
    have HCA := Lib.hid hcalm
    have hcw := hc.size
    clear hd hj hc hcalm D3 J3 K3 CALM C3
    by_cases hlt : k < l.length ∧ k < 60
    · obtain ⟨hlt1, hlt2⟩ := hlt
      obtain ⟨lb, lo, rfl, hlb, cl0⟩ := HL3.out k hlt1
      have cl := cell_chg HC.out (fun e => e hlb) cl0
      have sz0 := HL2.out (l.getD k ByteArray.empty) (by rw [List.getD_eq_getElem?_getD, List.getElem?_eq_getElem hlt1]; exact List.getElem_mem hlt1)
      clear cl0
      unfold maxLen at sz0
      generalize l.getD k ByteArray.empty = s at *
      by_cases hs : 3000 < s.size
      · go_wp2
        go_ret
        exact ⟨rfl, HC.out.mono (fun k hk e => e hk)⟩
      · have hsd : decide (3000 < (s.size : Int)) = false := by rw [decide_eq_false_iff_not]; omega
        go_wp2_with fail
        refine (commit_any wr B b d j s HD.out HJ.out hbS HCA.out.rep.half_le HCA.out.n0 (by have := HCA.out.n1; omega) (by unfold maxLen; omega)).mono ?_
        rintro e w4 ⟨rfl, d4, j4, c4⟩
        have D4 := Lib.hid d4
        have J4 := Lib.hid j4
        have C4 := Lib.hid c4
        have CA4 := Lib.hid (HCA.out.commit s)
        have K4 := Lib.hid (HC.out.trans (c4.mono (fun k _ h => by rcases h with h | rfl; exact HSB.out k h; exact hbw)))
        clear d4 j4 c4
        generalize commit d j s = R at *
        obtain ⟨dd, ee, jj⟩ := R
        simp only at D4 J4 CA4
        go_wp2
        go_loop [11, 12] (fun t i => ∃ m : Nat, m ≤ N ∧ i = .int .i64 m ∧ t = .string ⟨(allTo dd.now m).toArray⟩) (fun _ i => N - (intOf i).toNat)
        case atStart => exact ⟨0, by omega, rfl, rfl⟩
        case round =>
          obtain ⟨m, hm, rfl, rfl⟩ := hrel
          by_cases hmN : m < N
          · have RD := Lib.hid (read_in w4 B dd m D4.out (by rw [HBn.out]; exact hmN))
            have AS := Lib.hid (allTo_succ dd.now m)
            have BA := Lib.hid (bytes_append (allTo dd.now m) (dd.now.getD m []))
            have la := allTo_length D4.out.ok.wnow m
            have ls := getD_le D4.out.ok.wnow m
            generalize allTo dd.now m = ac at *
            generalize dd.now.getD m [] = sec at *
            go_wp2_with fail
            refine (RD.out).mono ?_
            rintro e w' ⟨rfl, rfl⟩
            go_wp2
            go_round
            case rel => exact ⟨m + 1, by omega, by go_num, by rw [AS.out, ← BA.out]⟩
            case measure => simp [intOf]; omega
          · obtain rfl : N = m := by omega
            obtain ⟨al, hal⟩ : ∃ al, al = allTo dd.now N := ⟨_, rfl⟩
            rw [← hal]
            have HALL := Lib.hid hal
            clear hal
            -- the crash
            have CR : ∀ (kv' : Value) (keep' : List Bool), BoolsAt w4 kv' (· < w.heap.size) keep' → Calls Try.prog 16 #[B.ptr, kv'] w4 fun e w' => e = .returned (.tuple #[]) ∧ ∃ d', DevAt w' B d' ∧ d'.now = dd.now ∧ Calm B.n d' jj ∧ Chg B.S w4 w' := fun kv' keep' h2 =>
              (crash_any w4 B dd keep' kv' (· < w.heap.size) D4.out (fun k hk e => HSB.out k e hk) h2).mono fun e w' h => ⟨h.1, _, h.2.1, crash_now CA4.out.clean keep', CA4.out.crash keep', h.2.2⟩
            have CRA := Lib.hid (CR _ keep (HKV.out.chg K4.out (fun k hk e => e hk)))
            have CRB := Lib.hid (CR (.slice none 0 0) [] (boolsAt_nil _ _))
            clear CR
            by_cases hev : k % 2 = 0
            · have hpar : ((k : Int) % 2 == 0) = true := by rw [beq_iff_eq]; omega
              clear hev
              go_wp2_with fail
              refine (CRB.out).mono ?_
              rintro e w5 ⟨rfl, d5, dv5, nw5, ca5, c5⟩
              have D5 := Lib.hid dv5
              have N5 := Lib.hid nw5
              have CA5 := Lib.hid ca5
              have J5 := Lib.hid (J4.out.chg c5 hbS)
              have K5 := Lib.hid (K4.out.trans (c5.mono (fun k _ h => HSB.out k h)))
              clear dv5 nw5 ca5 c5 CRA CRB
              go_wp2
              go_loop [13, 14] (fun t i => ∃ m : Nat, m ≤ N ∧ i = .int .i64 m ∧ t = .string ⟨(allTo d5.now m).toArray⟩) (fun _ i => N - (intOf i).toNat)
              case atStart => exact ⟨0, by omega, rfl, rfl⟩
              case round =>
                obtain ⟨m, hm, rfl, rfl⟩ := hrel
                by_cases hmN : m < N
                · have RD := Lib.hid (read_in w5 B d5 m D5.out (by rw [HBn.out]; exact hmN))
                  have AS := Lib.hid (allTo_succ d5.now m)
                  have BA := Lib.hid (bytes_append (allTo d5.now m) (d5.now.getD m []))
                  have la := allTo_length D5.out.ok.wnow m
                  have ls := getD_le D5.out.ok.wnow m
                  generalize allTo d5.now m = ac at *
                  generalize d5.now.getD m [] = sec at *
                  go_wp2_with fail
                  refine (RD.out).mono ?_
                  rintro e w' ⟨rfl, rfl⟩
                  go_wp2
                  go_round
                  case rel => exact ⟨m + 1, by omega, by go_num, by rw [AS.out, ← BA.out]⟩
                  case measure => simp [intOf]; omega
                · obtain rfl : N = m := by omega
                  rw [N5.out, ← HALL.out]
                  go_wp2_with fail
                  refine (open_any w5 B d5 D5.out).mono ?_
                  rintro e w6 (⟨hbad, _⟩ | ⟨_, b2, rfl, j6, c6, hb1, hb2⟩)
                  · exact absurd hbad CA5.out.rep.fine
                  rw [rep_jr CA5.out.rep] at j6
                  unfold jptr
                  have J6 := Lib.hid j6
                  have J6' := Lib.hid (J5.out.chg c6 (fun e => e))
                  have D6 := Lib.hid (D5.out.chg c6 (fun _ _ e => e))
                  have K6 := Lib.hid (K5.out.trans (c6.mono (fun _ _ e => e.elim)))
                  have hb2S : ¬ B.S b2 := fun e => by
                    have h1 := D5.out
                    have : b2 < w5.heap.size := by
                      rcases e with rfl | rfl | rfl | rfl
                      · exact lt_of_obj h1.hb
                      · exact lt_of_obj h1.hn
                      · exact lt_of_obj h1.hs
                      · exact lt_of_obj h1.hp
                    omega
                  have hb2w : ¬ b2 < w.heap.size := by have := K5.out.size; omega
                  clear j6 c6
                  go_wp2_with fail
                  refine (record_at w6 B b2 jj J6.out).mono ?_
                  rintro e w' ⟨rfl, rfl⟩
                  go_wp2_with fail
                  refine (record_at w6 B b jj J6'.out).mono ?_
                  rintro e w' ⟨rfl, rfl⟩
                  go_wp2_with fail
                  refine (number_at w6 B b2 jj J6.out).mono ?_
                  rintro e w' ⟨rfl, rfl⟩
                  go_wp2_with fail
                  refine (number_at w6 B b jj J6'.out).mono ?_
                  rintro e w' ⟨rfl, rfl⟩
                  go_wp2
                  go_roundw
                  case rel => exact ⟨k + 1, b2, d5, jj, by go_num, by omega, rfl, D6.out, J6.out, hb2S, hb2w, CA5.out, K6.out⟩
                  case measure => simp [intOf]; omega
            · have hpar : ((k : Int) % 2 == 0) = false := by rw [beq_eq_false_iff_ne]; omega
              clear hev
              go_wp2_with fail
              refine (CRA.out).mono ?_
              rintro e w5 ⟨rfl, d5, dv5, nw5, ca5, c5⟩
              have D5 := Lib.hid dv5
              have N5 := Lib.hid nw5
              have CA5 := Lib.hid ca5
              have J5 := Lib.hid (J4.out.chg c5 hbS)
              have K5 := Lib.hid (K4.out.trans (c5.mono (fun k _ h => HSB.out k h)))
              clear dv5 nw5 ca5 c5 CRA CRB
              go_wp2
              go_loop [13, 14] (fun t i => ∃ m : Nat, m ≤ N ∧ i = .int .i64 m ∧ t = .string ⟨(allTo d5.now m).toArray⟩) (fun _ i => N - (intOf i).toNat)
              case atStart => exact ⟨0, by omega, rfl, rfl⟩
              case round =>
                obtain ⟨m, hm, rfl, rfl⟩ := hrel
                by_cases hmN : m < N
                · have RD := Lib.hid (read_in w5 B d5 m D5.out (by rw [HBn.out]; exact hmN))
                  have AS := Lib.hid (allTo_succ d5.now m)
                  have BA := Lib.hid (bytes_append (allTo d5.now m) (d5.now.getD m []))
                  have la := allTo_length D5.out.ok.wnow m
                  have ls := getD_le D5.out.ok.wnow m
                  generalize allTo d5.now m = ac at *
                  generalize d5.now.getD m [] = sec at *
                  go_wp2_with fail
                  refine (RD.out).mono ?_
                  rintro e w' ⟨rfl, rfl⟩
                  go_wp2
                  go_round
                  case rel => exact ⟨m + 1, by omega, by go_num, by rw [AS.out, ← BA.out]⟩
                  case measure => simp [intOf]; omega
                · obtain rfl : N = m := by omega
                  rw [N5.out, ← HALL.out]
                  go_wp2_with fail
                  refine (open_any w5 B d5 D5.out).mono ?_
                  rintro e w6 (⟨hbad, _⟩ | ⟨_, b2, rfl, j6, c6, hb1, hb2⟩)
                  · exact absurd hbad CA5.out.rep.fine
                  rw [rep_jr CA5.out.rep] at j6
                  unfold jptr
                  have J6 := Lib.hid j6
                  have J6' := Lib.hid (J5.out.chg c6 (fun e => e))
                  have D6 := Lib.hid (D5.out.chg c6 (fun _ _ e => e))
                  have K6 := Lib.hid (K5.out.trans (c6.mono (fun _ _ e => e.elim)))
                  have hb2S : ¬ B.S b2 := fun e => by
                    have h1 := D5.out
                    have : b2 < w5.heap.size := by
                      rcases e with rfl | rfl | rfl | rfl
                      · exact lt_of_obj h1.hb
                      · exact lt_of_obj h1.hn
                      · exact lt_of_obj h1.hs
                      · exact lt_of_obj h1.hp
                    omega
                  have hb2w : ¬ b2 < w.heap.size := by have := K5.out.size; omega
                  clear j6 c6
                  go_wp2_with fail
                  refine (record_at w6 B b2 jj J6.out).mono ?_
                  rintro e w' ⟨rfl, rfl⟩
                  go_wp2_with fail
                  refine (record_at w6 B b jj J6'.out).mono ?_
                  rintro e w' ⟨rfl, rfl⟩
                  go_wp2_with fail
                  refine (number_at w6 B b2 jj J6.out).mono ?_
                  rintro e w' ⟨rfl, rfl⟩
                  go_wp2_with fail
                  refine (number_at w6 B b jj J6'.out).mono ?_
                  rintro e w' ⟨rfl, rfl⟩
                  go_wp2
                  go_roundw
                  case rel => exact ⟨k + 1, b2, d5, jj, by go_num, by omega, rfl, D6.out, J6.out, hb2S, hb2w, CA5.out, K6.out⟩
                  case measure => simp [intOf]; omega
    · clear HL3
      go_wp2
      all_goals go_ret
      all_goals exact ⟨rfl, HC.out.mono (fun k hk e => e hk)⟩
end Go.Proofs.Ytnmgnhhipgiggaa
