/-
  Package acl: Ask.
-/
import Derived.Test.YtbjdndialiddpaaAFit
namespace Go.Proofs.Ytbjdndialiddpaa
open Go.RowKit Go.Maps

set_option maxHeartbeats 2000000 in
set_option maxRecDepth 100000 in
theorem ask_bad (w : World) (b0 : Nat) (rv cv : Value) (R : List BRul) (c : List ByteArray) (op b : Int) (G' : Nat → Prop) (hR : RulesAt w rv (· < w.heap.size) R) (hc : WordsAt w cv G' c) (k : Int) (hk : askBad R b c op = k) (hk0 : k ≠ 0) :
    Calls Try.prog 21 #[.pointer (some ⟨b0, 0, none⟩), rv, .int .i64 op, cv, .int .i64 b] w fun e w' => e = .returned (.tuple #[.int .i64 0, .int .i64 0, .int .i64 k]) ∧ Chg (fun _ => False) w w' := by
  have M1 := Lib.hid (setMay_any w cv G' c hc)
  obtain ⟨ra, rcap, rfl, hl, _⟩ := hR
  obtain ⟨ca, ccap, rfl, hl1, _⟩ := hc
  unfold maxLen at hl hl1
  have HK := Lib.hid hk
  have H0 := Lib.hid hk0
  unfold askBad at HK
  clear hk hk0
  cases h1 : setB c with
  | false =>
    rw [h1] at M1 HK
    obtain rfl : k = 2 := HK.out.symm
    clear h1
    go_enter Try.func21, Try.ntmps21
    go_wp2_with fail
    (with_reducible refine (M1.out).mono ?_)
    rintro e w2 ⟨rfl, d2⟩
    go_wp2
    refine bodyPost_ret (v := .tuple #[.int .i64 0, .int .i64 0, .int .i64 2]) (by simp [results, Try.results21, go_sem]) rfl ?_
    exact ⟨rfl, d2.chg⟩
  | true =>
    rw [h1, if_pos rfl] at HK
    rw [h1] at M1
    clear h1
    by_cases h2 : op < 0
    · have g1 : decide (op < 0) = true := decide_eq_true h2
      obtain rfl : k = 1 := by rw [← HK.out]; simp [h2]
      clear h2
      go_enter Try.func21, Try.ntmps21
      go_wp2_with fail
      (with_reducible refine (M1.out).mono ?_)
      rintro e w2 ⟨rfl, d2⟩
      go_wp2
      refine bodyPost_ret (v := .tuple #[.int .i64 0, .int .i64 0, .int .i64 1]) (by simp [results, Try.results21, go_sem]) rfl ?_
      exact ⟨rfl, d2.chg⟩
    · have g1 : decide (op < 0) = false := decide_eq_false h2
      by_cases h3 : 8 ≤ op
      · have g2 : decide (8 ≤ op) = true := decide_eq_true h3
        obtain rfl : k = 1 := by rw [← HK.out]; simp [h3]
        clear h2 h3
        go_enter Try.func21, Try.ntmps21
        go_wp2_with fail
        (with_reducible refine (M1.out).mono ?_)
        rintro e w2 ⟨rfl, d2⟩
        go_wp2
        refine bodyPost_ret (v := .tuple #[.int .i64 0, .int .i64 0, .int .i64 1]) (by simp [results, Try.results21, go_sem]) rfl ?_
        exact ⟨rfl, d2.chg⟩
      · have g2 : decide (8 ≤ op) = false := decide_eq_false h3
        have HK2 := Lib.hid (show badE true b R.length = k from by rw [← HK.out, if_neg (by omega)])
        clear HK
        by_cases h4 : b < 1
        · have g3 : decide (1 ≤ b) = false := decide_eq_false (by omega)
          obtain rfl : k = 1 := by rw [← HK2.out]; simp [badE, h4]
          clear h2 h3 h4
          go_enter Try.func21, Try.ntmps21
          go_wp2_with fail
          (with_reducible refine (M1.out).mono ?_)
          rintro e w2 ⟨rfl, d2⟩
          go_wp2
          refine bodyPost_ret (v := .tuple #[.int .i64 0, .int .i64 0, .int .i64 1]) (by simp [results, Try.results21, go_sem]) rfl ?_
          exact ⟨rfl, d2.chg⟩
        · have g3 : decide (1 ≤ b) = true := decide_eq_true (by omega)
          by_cases h5 : 5000 < b
          · have g4 : decide (b ≤ 5000) = false := decide_eq_false (by omega)
            obtain rfl : k = 1 := by rw [← HK2.out]; simp [badE, h5]
            clear h2 h3 h4 h5
            go_enter Try.func21, Try.ntmps21
            go_wp2_with fail
            (with_reducible refine (M1.out).mono ?_)
            rintro e w2 ⟨rfl, d2⟩
            go_wp2
            refine bodyPost_ret (v := .tuple #[.int .i64 0, .int .i64 0, .int .i64 1]) (by simp [results, Try.results21, go_sem]) rfl ?_
            exact ⟨rfl, d2.chg⟩
          · have g4 : decide (b ≤ 5000) = true := decide_eq_true (by omega)
            have h6 : 400 < R.length := by
              by_cases h6 : 400 < R.length
              · exact h6
              · exact absurd (by rw [← HK2.out]; simp [badE, h4, h5, h6]) H0.out
            have g5 : decide (400 < (R.length : Int)) = true := decide_eq_true (by omega)
            obtain rfl : k = 3 := by rw [← HK2.out]; simp [badE, h4, h5, h6]
            clear h2 h3 h4 h5
            go_enter Try.func21, Try.ntmps21
            go_wp2_with fail
            (with_reducible refine (M1.out).mono ?_)
            rintro e w2 ⟨rfl, d2⟩
            go_wp2
            refine bodyPost_ret (v := .tuple #[.int .i64 0, .int .i64 0, .int .i64 3]) (by simp [results, Try.results21, go_sem]) rfl ?_
            exact ⟨rfl, d2.chg⟩
theorem bounded_yes (w : World) (b : Int) (h1 : 1 ≤ b) (h2 : b ≤ 5000) : Calls Try.prog 37 #[.int .i64 b] w fun e w' => e = .returned (.bool true) ∧ w = w' := by
  have g3 : decide (1 ≤ b) = true := decide_eq_true h1
  have g4 : decide (b ≤ 5000) = true := decide_eq_true h2
  go_enter Try.func37, Try.ntmps37
  go_wp2
  go_ret
  exact ⟨rfl, rfl⟩
set_option maxHeartbeats 2000000 in
set_option maxRecDepth 100000 in
theorem ask_ok (w : World) (b0 : Nat) (ty : TypeId) (L : List BEnt) (ver : Nat) (rv cv : Value) (R : List BRul) (c : List ByteArray) (op b : Int) (G G' : Nat → Prop) (hl : ListAt w b0 ty G L ver) (hL : L.length ≤ 1000) (hR : RulesAt w rv (· < w.heap.size) R) (hf : Few R) (hc : WordsAt w cv G' c) (h0 : askBad R b c op = 0) :
    Calls Try.prog 21 #[.pointer (some ⟨b0, 0, none⟩), rv, .int .i64 op, cv, .int .i64 b] w fun e w' => e = .returned (.tuple #[.int .i64 (askGo R b c op 0 0 L).1, .int .i64 (askGo R b c op 0 0 L).2, .int .i64 0]) ∧ Chg (fun _ => False) w w' := by
  have M1 := Lib.hid (setMay_any w cv G' c hc)
  have FI := Lib.hid (fun w1 (q : Chg (fun _ => False) w w1) sv s (hs : WordsAt w1 sv G s) => fits_any w1 rv sv cv R s c b G G' (rules_up hR q) hf hs (hc.chg q (fun _ _ e => e)))
  obtain ⟨la, cap, h1, h2, hcap, hcm⟩ := hl.open
  have H1 := Lib.hid h1
  have H2 := Lib.hid h2
  obtain ⟨ra, rcap, rfl, hl0, _⟩ := hR
  obtain ⟨ca, ccap, rfl, hl1, _⟩ := hc
  unfold maxLen at hl0 hl1 hcm
  obtain ⟨q1, q2⟩ : setB c = true ∧ ¬ (op < 0 ∨ 8 ≤ op) ∧ badE true b R.length = 0 := by
    unfold askBad at h0
    cases hb : setB c with
    | false => rw [hb] at h0; simp at h0
    | true =>
      rw [hb, if_pos rfl] at h0
      by_cases h : op < 0 ∨ 8 ≤ op
      · rw [if_pos h] at h0; simp at h0
      · rw [if_neg h] at h0; exact ⟨rfl, h, h0⟩
  obtain ⟨_, q3, q4, q5⟩ := ba_len q2.2
  have q6 := q2.1
  rw [q1] at M1
  have g1 : decide (op < 0) = false := decide_eq_false (by omega)
  have g2 : decide (8 ≤ op) = false := decide_eq_false (by omega)
  have g3 : decide (1 ≤ b) = true := decide_eq_true (by omega)
  have g4 : decide (b ≤ 5000) = true := decide_eq_true (by omega)
  have g5 : decide (400 < (R.length : Int)) = false := decide_eq_false (by omega)
  clear hl h1 h2 hf h0 q1 q2 q6
  have ST := Lib.hid (show askGo R b c op 0 0 L = askGo R b c op 0 0 (L.drop 0) from rfl)
  generalize askGo R b c op 0 0 L = res at *
  go_enter Try.func21, Try.ntmps21
  go_wp2_with fail
  (with_reducible refine (M1.out).mono ?_)
  rintro e w2 ⟨rfl, d2⟩
  have K2 := Lib.hid (show Chg (fun _ => False) w w2 from d2.chg)
  have c0 : w2.cell? ⟨b0, 0, none⟩ = some (.slice la L.length cap) := cell_of (K2.out.obj (fun e => e) H1.out) rfl
  clear d2 M1
  have BO := Lib.hid (bounded_yes w2 b q3 q4)
  go_wp2_with fail
  (with_reducible refine (BO.out).mono ?_)
  rintro e w3 ⟨rfl, rfl⟩
  clear BO
  go_wp2
  go_loopw [13, 41] (fun av iv wr => ∃ (k : Nat) (a : Int), k ≤ L.length ∧ iv = .int .i64 k ∧ av = .int .i64 a ∧ Hid (res = askGo R b c op k a (L.drop k) ∧ Chg (fun _ => False) w wr)) (fun _ iv _ => L.length - (intOf iv).toNat)
  case atStart => exact ⟨0, 0, by omega, rfl, rfl, Lib.hid ⟨ST.out, K2.out⟩⟩
  case round =>
    obtain ⟨k, a, hk, rfl, rfl, HI⟩ := hrel
    by_cases hlt : k < L.length
    · obtain ⟨x, hx⟩ : ∃ x, L[k]? = some x := ⟨_, List.getElem?_eq_getElem hlt⟩
      obtain ⟨g, o, sa, sc, rfl, _, d0, d1, hs⟩ := (H2.out.chg HI.out.2 (fun _ _ e => e)).get hx
      have ka := chg_alloc (fun _ => False) wr (.cells #[.int .i64 x.1, .slice sa x.2.length sc] 36)
      have KW := Lib.hid (HI.out.2.trans ka)
      have F := Lib.hid (FI.out _ KW.out _ x.2 (hs.at_.chg ka (fun _ _ e => e)))
      have STP := Lib.hid (show res = if x.1 = op then (if fitV R b c x.2 = 1 then (1, (k : Int)) else askGo R b c op (k + 1) (if fitV R b c x.2 = 2 then 2 else a) (L.drop (k + 1))) else askGo R b c op (k + 1) a (L.drop (k + 1)) from by rw [HI.out.1]; exact askGo_step hx)
      clear HI hx hs ka
      generalize fitV R b c x.2 = f at *
      obtain ⟨oq, l⟩ := x
      simp only at d0 d1 F STP KW
      by_cases hop : oq = op
      · have e1 : (oq != op) = false := by rw [bne_eq_false_iff_eq]; exact hop
        have e2 : (oq == op) = true := beq_iff_eq.2 hop
        by_cases hf1 : f = 1
        · have R1 := Lib.hid (show res = (1, (k : Int)) from by rw [STP.out, if_pos hop, if_pos hf1])
          subst hf1
          clear STP hop
          go_wp2_with fail
          (with_reducible refine (F.out).mono ?_)
          rintro e w4 ⟨rfl, k4⟩
          have K4 := Lib.hid (KW.out.trans k4)
          clear k4 F
          go_wp2
          refine bodyPost_ret (v := .tuple #[.int .i64 1, .int .i64 k, .int .i64 0]) (by simp [results, Try.results21, go_sem]) rfl ?_
          exact ⟨by rw [R1.out], K4.out⟩
        · have m1 : (f == 1) = false := beq_eq_false_iff_ne.2 hf1
          by_cases hf2 : f = 2
          · have R2 := Lib.hid (show res = askGo R b c op (k + 1) 2 (L.drop (k + 1)) from by rw [STP.out, if_pos hop, if_neg hf1, if_pos hf2])
            subst hf2
            clear STP hop hf1
            go_wp2_with fail
            (with_reducible refine (F.out).mono ?_)
            rintro e w4 ⟨rfl, k4⟩
            have K4 := Lib.hid (KW.out.trans k4)
            clear k4 F
            go_wp2
            go_roundw
            case rel => exact ⟨k + 1, 2, by omega, by go_num, rfl, Lib.hid ⟨R2.out, K4.out⟩⟩
            case measure => simp [intOf]; omega
          · have m2 : (f == 2) = false := beq_eq_false_iff_ne.2 hf2
            have R2 := Lib.hid (show res = askGo R b c op (k + 1) a (L.drop (k + 1)) from by rw [STP.out, if_pos hop, if_neg hf1, if_neg hf2])
            clear STP hop hf1 hf2
            go_wp2_with fail
            (with_reducible refine (F.out).mono ?_)
            rintro e w4 ⟨rfl, k4⟩
            have K4 := Lib.hid (KW.out.trans k4)
            clear k4 F
            go_wp2
            go_roundw
            case rel => exact ⟨k + 1, a, by omega, by go_num, rfl, Lib.hid ⟨R2.out, K4.out⟩⟩
            case measure => simp [intOf]; omega
      · have e1 : (oq != op) = true := by rw [bne_iff_ne]; exact hop
        have e2 : (oq == op) = false := beq_eq_false_iff_ne.2 hop
        have R2 := Lib.hid (show res = askGo R b c op (k + 1) a (L.drop (k + 1)) from by rw [STP.out, if_neg hop])
        clear STP hop F
        go_wp2
        go_roundw
        case rel => exact ⟨k + 1, a, by omega, by go_num, rfl, Lib.hid ⟨R2.out, KW.out⟩⟩
        case measure => simp [intOf]; omega
    · obtain rfl : k = L.length := by omega
      have R := Lib.hid (show res = (a, -1) from by rw [HI.out.1, List.drop_length]; rfl)
      go_wp2
      refine bodyPost_ret (v := .tuple #[.int .i64 a, .int .i64 (-1), .int .i64 0]) (by simp [results, Try.results21, go_sem]) rfl ?_
      exact ⟨by rw [R.out], HI.out.2⟩
theorem ask_any (w : World) (b0 : Nat) (ty : TypeId) (L : List BEnt) (ver : Nat) (rv cv : Value) (R : List BRul) (c : List ByteArray) (op b : Int) (G G' : Nat → Prop) (hl : ListAt w b0 ty G L ver) (hL : L.length ≤ 1000) (hR : RulesAt w rv (· < w.heap.size) R) (hf : Few R) (hc : WordsAt w cv G' c) :
    Calls Try.prog 21 #[.pointer (some ⟨b0, 0, none⟩), rv, .int .i64 op, cv, .int .i64 b] w fun e w' => e = .returned (.tuple #[.int .i64 (askV R b c op L).1, .int .i64 (askV R b c op L).2.1, .int .i64 (askV R b c op L).2.2]) ∧ Chg (fun _ => False) w w' := by
  unfold askV
  by_cases h : askBad R b c op = 0
  · rw [if_pos h]
    exact ask_ok w b0 ty L ver rv cv R c op b G G' hl hL hR hf hc h
  · rw [if_neg h]
    exact ask_bad w b0 rv cv R c op b G' hR hc _ rfl h
end Go.Proofs.Ytbjdndialiddpaa
