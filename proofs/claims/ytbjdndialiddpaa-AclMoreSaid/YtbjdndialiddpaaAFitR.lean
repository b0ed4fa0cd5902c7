/-
  The reference's acl: fits, Fits, Ask.
-/
import Derived.Test.YtbjdndialiddpaaAAsk
import Derived.Test.YtbjdndialiddpaaARefR
namespace Go.Proofs.Ytbjdndialiddpaa
open Go.RowKit Go.Maps

def ansI (a : Bool) : Int := if a = true then 1 else 0
set_option maxHeartbeats 1000000 in
set_option maxRecDepth 100000 in
theorem rfits_any (w : World) (rv sv cv : Value) (R : List BRul) (s c : List ByteArray) (b : Int) (G G' : Nat → Prop) (hR : RulesAt w rv (· < w.heap.size) R) (hf : Few R) (h47 : Fit47 R) (hs : WordsAt w sv G s) (hz : Sizes s) (hc : WordsAt w cv G' c) :
    Calls Try.prog 40 #[rv, sv, cv, .int .i64 b] w fun e w' => e = .returned (.int .i64 (fitV R b c s)) ∧ Chg (fun _ => False) w w' := by
  have ALL := Lib.hid (fun w1 (k : Chg (fun _ => False) w w1) j x (hx : s[j]? = some x) => rall_tells (b := b) (words_asks hR hf hs k hx) h47 (hz x (List.mem_of_getElem? hx)))
  have HA := Lib.hid (fun w1 (k : Chg (fun _ => False) w w1) x => rhas_any w1 cv G' c x (hc.chg k (fun _ _ e => e)))
  have HC := Lib.hid hc
  have HS := Lib.hid hs
  obtain ⟨ra, rcap, rfl, _, _⟩ := hR
  obtain ⟨sa, scap, rfl, hl0, _⟩ := hs
  obtain ⟨ca, ccap, rfl, hl1, _⟩ := hc
  unfold maxLen at hl0 hl1
  clear hf hz h47
  have ST := Lib.hid (show fitV R b c s = fitGo R b c (ansI true) (s.drop 0) from rfl)
  generalize fitV R b c s = res at *
  go_enter Try.func40, Try.ntmps40
  go_wp2
  go_loopw [9, 10] (fun av iv wr => ∃ (k : Nat) (a : Bool), k ≤ s.length ∧ iv = .int .i64 k ∧ av = .bool a ∧ Hid (res = fitGo R b c (ansI a) (s.drop k) ∧ Chg (fun _ => False) w wr)) (fun _ iv _ => s.length - (intOf iv).toNat)
  case atStart => exact ⟨0, true, by omega, rfl, rfl, Lib.hid ⟨ST.out, Chg.refl _ _⟩⟩
  case round =>
    obtain ⟨k, a, hk, rfl, rfl, HI⟩ := hrel
    have KW := Lib.hid HI.out.2
    by_cases hlt : k < s.length
    · obtain ⟨x, hx⟩ : ∃ x, s[k]? = some x := ⟨_, List.getElem?_eq_getElem hlt⟩
      obtain ⟨sa', scap', e1, _, hcl⟩ := HS.out.chg KW.out (fun _ _ e => e)
      cases e1
      obtain ⟨lb, lo, rfl, _, c0, _⟩ := hcl k x hx
      have AL := Lib.hid (ALL.out wr KW.out k x hx)
      have FS := Lib.hid (show res = if rowErr R x b ≠ 0 then 2 else fitGo R b c (if metB R b c x = true then ansI a else 0) (s.drop (k + 1)) from by rw [HI.out.1]; exact fitGo_step hx)
      clear hcl hx HI
      by_cases he : rowErr R x b = 0
      · rw [he] at AL
        have FS2 := Lib.hid (show res = fitGo R b c (ansI (a && anyB c (tellL R x b))) (s.drop (k + 1)) from by
          rw [FS.out, if_neg (by rw [he]; simp)]
          unfold metB ansI
          cases a <;> cases anyB c (tellL R x b) <;> rfl)
        clear FS he
        generalize tellL R x b = T at *
        go_wp2_with fail
        (with_reducible refine (AL.out).mono ?_)
        rintro e w2 ⟨va, rfl, hva, k2⟩
        have KW2 := Lib.hid (KW.out.trans k2)
        obtain ⟨va1, va2, rfl, hva0, hvc⟩ := hva
        have HVC := Lib.hid hvc
        unfold maxLen at hva0
        clear k2 AL KW hvc
        go_wp2
        go_loopw [13, 14] (fun mv jv wr => ∃ (j : Nat), j ≤ T.length ∧ jv = .int .i64 j ∧ mv = .bool (anyB c (T.take j)) ∧ Hid (Chg (fun _ => False) w2 wr)) (fun _ jv _ => T.length - (intOf jv).toNat)
        case atStart => exact ⟨0, by omega, rfl, rfl, Lib.hid (Chg.refl _ _)⟩
        case round =>
          obtain ⟨j, hj, rfl, rfl, HJ⟩ := hrel
          by_cases hjt : j < T.length
          · obtain ⟨y, hy⟩ : ∃ y, T[j]? = some y := ⟨_, List.getElem?_eq_getElem hjt⟩
            obtain ⟨lc, ld, rfl, _, d0', _⟩ := HVC.out j y hy
            have d0 := cell_chg HJ.out (fun e => e) d0'
            have H2 := Lib.hid (HA.out _ (KW2.out.trans HJ.out) y)
            have AT := Lib.hid (any_take (c := c) hy)
            clear hy d0'
            generalize hm : anyB c (T.take j) = m at *
            clear hm
            generalize hasB c y = r at *
            cases m with
            | true =>
              rw [Bool.true_or] at AT
              clear H2
              go_wp2
              go_roundw
              case rel => exact ⟨j + 1, by omega, by go_num, by rw [AT.out], HJ⟩
              case measure => simp [intOf]; omega
            | false =>
              rw [Bool.false_or] at AT
              go_wp2_with fail
              (with_reducible refine (H2.out).mono ?_)
              rintro e w4 ⟨rfl, rfl⟩
              cases r
              all_goals
                go_wp2
                go_roundw
                case rel => exact ⟨j + 1, by omega, by go_num, by rw [AT.out], HJ⟩
                case measure => simp [intOf]; omega
          · obtain rfl : j = T.length := by omega
            have KWJ := Lib.hid (KW2.out.trans HJ.out)
            rw [List.take_length]
            generalize anyB c T = m at *
            cases a <;> cases m
            all_goals
              go_wp2
              go_roundw
              case rel => exact ⟨k + 1, _, by omega, by go_num, rfl, Lib.hid ⟨FS2.out, KWJ.out⟩⟩
              case measure => simp [intOf]; omega
      · have R2 := Lib.hid (show res = 2 from by rw [FS.out, if_pos he])
        have g1 : (rowErr R x b != 0) = true := by rw [bne_iff_ne]; exact he
        have g2 : (rowErr R x b == 0) = false := by rw [beq_eq_false_iff_ne]; exact he
        clear FS he
        generalize rowErr R x b = ek at *
        go_wp2_with fail
        (with_reducible refine (AL.out).mono ?_)
        rintro e w2 ⟨va, rfl, ⟨va1, va2, rfl, _, _⟩, k2⟩
        have K2 := Lib.hid (KW.out.trans k2)
        clear k2 AL
        go_wp2
        go_ret
        exact ⟨by rw [R2.out]; rfl, K2.out⟩
    · obtain rfl : k = s.length := by omega
      have R := Lib.hid (show res = ansI a from by rw [HI.out.1, List.drop_length]; rfl)
      cases a
      all_goals
        go_wp2
        go_ret
        exact ⟨by rw [R.out]; rfl, KW.out⟩
set_option maxHeartbeats 1000000 in
set_option maxRecDepth 100000 in
/-- Fits, where something is wrong. -/
theorem rfitsP_bad (w : World) (rv sv cv : Value) (R : List BRul) (s c : List ByteArray) (b : Int) (G G' : Nat → Prop) (hR : RulesAt w rv (· < w.heap.size) R) (hs : WordsAt w sv G s) (hz : Sizes s) (hc : WordsAt w cv G' c) (hzc : Sizes c) (k : Int) (hk : badE (setB s && setB c) b R.length = k) (hk0 : k ≠ 0) :
    Calls Try.prog 24 #[rv, sv, cv, .int .i64 b] w fun e w' => e = .returned (.tuple #[.int .i64 0, .int .i64 k]) ∧ Chg (fun _ => False) w w' := by
  have MS := Lib.hid (fun w1 (q : Chg (fun _ => False) w w1) => rsetMay_any w1 sv G s (hs.chg q (fun _ _ e => e)) hz)
  have MC := Lib.hid (fun w1 (q : Chg (fun _ => False) w w1) => rsetMay_any w1 cv G' c (hc.chg q (fun _ _ e => e)) hzc)
  obtain ⟨ra, rcap, rfl, hl, _⟩ := hR
  obtain ⟨sa, scap, rfl, hl0, _⟩ := hs
  obtain ⟨ca, ccap, rfl, hl1, _⟩ := hc
  unfold maxLen at hl hl0 hl1
  have HK := Lib.hid hk
  have H0 := Lib.hid hk0
  clear hk hk0
  have M1 := Lib.hid (MS.out w (Chg.refl _ _))
  cases h1 : setB s with
  | false =>
    rw [h1] at M1 HK
    obtain rfl : k = 2 := HK.out.symm
    clear MS MC h1
    go_enter Try.func24, Try.ntmps24
    go_wp2_with fail
    (with_reducible refine (M1.out).mono ?_)
    rintro e w2 ⟨rfl, d2⟩
    go_wp2
    go_ret2
    exact ⟨rfl, d2⟩
  | true =>
    rw [h1] at M1 HK
    rw [Bool.true_and] at HK
    clear MS h1
    cases h2 : setB c with
    | false =>
      rw [h2] at MC HK
      obtain rfl : k = 2 := HK.out.symm
      clear h2
      go_enter Try.func24, Try.ntmps24
      go_wp2_with fail
      (with_reducible refine (M1.out).mono ?_)
      rintro e w2 ⟨rfl, d2⟩
      have M2 := Lib.hid (MC.out w2 d2)
      go_wp2_with fail
      (with_reducible refine (M2.out).mono ?_)
      rintro e w3 ⟨rfl, d3⟩
      go_wp2
      go_ret2
      exact ⟨rfl, d2.trans d3⟩
    | true =>
      rw [h2] at MC HK
      clear h2
      by_cases h3 : b < 1
      · have g1 : decide (b < 1) = true := decide_eq_true (by omega)
        obtain rfl : k = 1 := by rw [← HK.out]; simp [badE, h3]
        clear h3
        go_enter Try.func24, Try.ntmps24
        go_wp2_with fail
        (with_reducible refine (M1.out).mono ?_)
        rintro e w2 ⟨rfl, d2⟩
        have M2 := Lib.hid (MC.out w2 d2)
        go_wp2_with fail
        (with_reducible refine (M2.out).mono ?_)
        rintro e w3 ⟨rfl, d3⟩
        go_wp2
        go_ret2
        exact ⟨rfl, d2.trans d3⟩
      · have g1 : decide (b < 1) = false := decide_eq_false (by omega)
        by_cases h4 : 5000 < b
        · have g2 : decide (5000 < b) = true := decide_eq_true (by omega)
          obtain rfl : k = 1 := by rw [← HK.out]; simp [badE, h4]
          clear h3 h4
          go_enter Try.func24, Try.ntmps24
          go_wp2_with fail
          (with_reducible refine (M1.out).mono ?_)
          rintro e w2 ⟨rfl, d2⟩
          have M2 := Lib.hid (MC.out w2 d2)
          go_wp2_with fail
          (with_reducible refine (M2.out).mono ?_)
          rintro e w3 ⟨rfl, d3⟩
          go_wp2
          go_ret2
          exact ⟨rfl, d2.trans d3⟩
        · have g2 : decide (5000 < b) = false := decide_eq_false (by omega)
          have h5 : 400 < R.length := by
            by_cases h5 : 400 < R.length
            · exact h5
            · exact absurd (by rw [← HK.out]; simp [badE, h3, h4, h5]) H0.out
          have g3 : decide (400 < (R.length : Int)) = true := decide_eq_true (by omega)
          obtain rfl : k = 3 := by rw [← HK.out]; simp [badE, h3, h4, h5]
          clear h3 h4
          go_enter Try.func24, Try.ntmps24
          go_wp2_with fail
          (with_reducible refine (M1.out).mono ?_)
          rintro e w2 ⟨rfl, d2⟩
          have M2 := Lib.hid (MC.out w2 d2)
          go_wp2_with fail
          (with_reducible refine (M2.out).mono ?_)
          rintro e w3 ⟨rfl, d3⟩
          go_wp2
          go_ret2
          exact ⟨rfl, d2.trans d3⟩
set_option maxRecDepth 100000 in
theorem rfitsP_any (w : World) (rv sv cv : Value) (R : List BRul) (s c : List ByteArray) (b : Int) (G G' : Nat → Prop) (hR : RulesAt w rv (· < w.heap.size) R) (hf : Few R) (h47 : Fit47 R) (hs : WordsAt w sv G s) (hz : Sizes s) (hc : WordsAt w cv G' c) (hzc : Sizes c) :
    Calls Try.prog 24 #[rv, sv, cv, .int .i64 b] w fun e w' => e = .returned (.tuple #[.int .i64 (fitsE R b c s).1, .int .i64 (fitsE R b c s).2]) ∧ Chg (fun _ => False) w w' := by
  by_cases h : badE (setB s && setB c) b R.length = 0
  · unfold fitsE
    rw [if_pos h]
    obtain ⟨h1, h2, h3, h4⟩ := ba_len h
    rw [Bool.and_eq_true] at h1
    have M1 := Lib.hid (rsetMay_any w sv G s hs hz)
    have MC := Lib.hid (fun w1 (q : Chg (fun _ => False) w w1) => rsetMay_any w1 cv G' c (hc.chg q (fun _ _ e => e)) hzc)
    have FI := Lib.hid (fun w1 (q : Chg (fun _ => False) w w1) => rfits_any w1 rv sv cv R s c b G G' (rules_up hR q) hf h47 (hs.chg q (fun _ _ e => e)) hz (hc.chg q (fun _ _ e => e)))
    rw [h1.1] at M1
    rw [h1.2] at MC
    obtain ⟨ra, rcap, rfl, hl, _⟩ := hR
    obtain ⟨sa, scap, rfl, hl0, _⟩ := hs
    obtain ⟨ca, ccap, rfl, hl1, _⟩ := hc
    unfold maxLen at hl hl0 hl1
    have g1 : decide (b < 1) = false := decide_eq_false (by omega)
    have g2 : decide (5000 < b) = false := decide_eq_false (by omega)
    have g3 : decide (400 < (R.length : Int)) = false := decide_eq_false (by omega)
    clear h h1 hf
    generalize fitV R b c s = r at *
    go_enter Try.func24, Try.ntmps24
    go_wp2_with fail
    (with_reducible refine (M1.out).mono ?_)
    rintro e w2 ⟨rfl, d2⟩
    have M2 := Lib.hid (MC.out w2 d2)
    go_wp2_with fail
    (with_reducible refine (M2.out).mono ?_)
    rintro e w3 ⟨rfl, d3⟩
    have F3 := Lib.hid (FI.out w3 (d2.trans d3))
    have K3 := Lib.hid (show Chg (fun _ => False) w w3 from d2.trans d3)
    clear d2 d3 M1 M2 MC FI
    go_wp2_with (first | ((with_reducible refine (F3.out).mono ?_); rintro e w4 ⟨rfl, k4⟩) | go_in)
    go_ret2
    exact ⟨rfl, K3.out.trans k4⟩
  · unfold fitsE
    rw [if_neg h]
    exact rfitsP_bad w rv sv cv R s c b G G' hR hs hz hc hzc _ rfl h
def ovI (o : Bool) : Int := if o = true then 2 else 0
set_option maxHeartbeats 2000000 in
set_option maxRecDepth 100000 in
theorem rask_bad (w : World) (b0 : Nat) (rv cv : Value) (R : List BRul) (c : List ByteArray) (op b : Int) (G' : Nat → Prop) (hR : RulesAt w rv (· < w.heap.size) R) (hc : WordsAt w cv G' c) (hzc : Sizes c) (k : Int) (hk : askBad R b c op = k) (hk0 : k ≠ 0) :
    Calls Try.prog 22 #[.pointer (some ⟨b0, 0, none⟩), rv, .int .i64 op, cv, .int .i64 b] w fun e w' => e = .returned (.tuple #[.int .i64 0, .int .i64 0, .int .i64 k]) ∧ Chg (fun _ => False) w w' := by
  have M1 := Lib.hid (rsetMay_any w cv G' c hc hzc)
  obtain ⟨ra, rcap, rfl, hl, _⟩ := hR
  obtain ⟨ca, ccap, rfl, hl1, _⟩ := hc
  unfold maxLen at hl hl1
  have HK := Lib.hid hk
  have H0 := Lib.hid hk0
  unfold askBad at HK
  clear hk hk0
  cases h1 : setB c with
  | false =>
    rw [h1] at M1 HK
    obtain rfl : k = 2 := HK.out.symm
    clear h1
    go_enter Try.func22, Try.ntmps22
    go_wp2_with fail
    (with_reducible refine (M1.out).mono ?_)
    rintro e w2 ⟨rfl, d2⟩
    go_wp2
    refine bodyPost_ret (v := .tuple #[.int .i64 0, .int .i64 0, .int .i64 2]) (by simp [results, Try.results22, go_sem]) rfl ?_
    exact ⟨rfl, d2⟩
  | true =>
    rw [h1, if_pos rfl] at HK
    rw [h1] at M1
    clear h1
    by_cases h2 : op < 0
    · have g1 : decide (op < 0) = true := decide_eq_true h2
      obtain rfl : k = 1 := by rw [← HK.out]; simp [h2]
      clear h2
      go_enter Try.func22, Try.ntmps22
      go_wp2_with fail
      (with_reducible refine (M1.out).mono ?_)
      rintro e w2 ⟨rfl, d2⟩
      go_wp2
      refine bodyPost_ret (v := .tuple #[.int .i64 0, .int .i64 0, .int .i64 1]) (by simp [results, Try.results22, go_sem]) rfl ?_
      exact ⟨rfl, d2⟩
    · have g1 : decide (op < 0) = false := decide_eq_false h2
      by_cases h3 : 8 ≤ op
      · have g2 : decide (7 < op) = true := decide_eq_true (by omega)
        obtain rfl : k = 1 := by rw [← HK.out]; simp [h3]
        clear h2 h3
        go_enter Try.func22, Try.ntmps22
        go_wp2_with fail
        (with_reducible refine (M1.out).mono ?_)
        rintro e w2 ⟨rfl, d2⟩
        go_wp2
        refine bodyPost_ret (v := .tuple #[.int .i64 0, .int .i64 0, .int .i64 1]) (by simp [results, Try.results22, go_sem]) rfl ?_
        exact ⟨rfl, d2⟩
      · have g2 : decide (7 < op) = false := decide_eq_false (by omega)
        have HK2 := Lib.hid (show badE true b R.length = k from by rw [← HK.out, if_neg (by omega)])
        clear HK
        by_cases h4 : b < 1
        · have g3 : decide (b < 1) = true := decide_eq_true (by omega)
          obtain rfl : k = 1 := by rw [← HK2.out]; simp [badE, h4]
          clear h2 h3 h4
          go_enter Try.func22, Try.ntmps22
          go_wp2_with fail
          (with_reducible refine (M1.out).mono ?_)
          rintro e w2 ⟨rfl, d2⟩
          go_wp2
          refine bodyPost_ret (v := .tuple #[.int .i64 0, .int .i64 0, .int .i64 1]) (by simp [results, Try.results22, go_sem]) rfl ?_
          exact ⟨rfl, d2⟩
        · have g3 : decide (b < 1) = false := decide_eq_false (by omega)
          by_cases h5 : 5000 < b
          · have g4 : decide (5000 < b) = true := decide_eq_true (by omega)
            obtain rfl : k = 1 := by rw [← HK2.out]; simp [badE, h5]
            clear h2 h3 h4 h5
            go_enter Try.func22, Try.ntmps22
            go_wp2_with fail
            (with_reducible refine (M1.out).mono ?_)
            rintro e w2 ⟨rfl, d2⟩
            go_wp2
            refine bodyPost_ret (v := .tuple #[.int .i64 0, .int .i64 0, .int .i64 1]) (by simp [results, Try.results22, go_sem]) rfl ?_
            exact ⟨rfl, d2⟩
          · have g4 : decide (5000 < b) = false := decide_eq_false (by omega)
            have h6 : 400 < R.length := by
              by_cases h6 : 400 < R.length
              · exact h6
              · exact absurd (by rw [← HK2.out]; simp [badE, h4, h5, h6]) H0.out
            have g5 : decide (400 < (R.length : Int)) = true := decide_eq_true (by omega)
            obtain rfl : k = 3 := by rw [← HK2.out]; simp [badE, h4, h5, h6]
            clear h2 h3 h4 h5
            go_enter Try.func22, Try.ntmps22
            go_wp2_with fail
            (with_reducible refine (M1.out).mono ?_)
            rintro e w2 ⟨rfl, d2⟩
            go_wp2
            refine bodyPost_ret (v := .tuple #[.int .i64 0, .int .i64 0, .int .i64 3]) (by simp [results, Try.results22, go_sem]) rfl ?_
            exact ⟨rfl, d2⟩
set_option maxHeartbeats 2000000 in
set_option maxRecDepth 100000 in
theorem rask_ok (w : World) (b0 : Nat) (ty : TypeId) (L : List BEnt) (ver : Nat) (rv cv : Value) (R : List BRul) (c : List ByteArray) (op b : Int) (G G' : Nat → Prop) (hl : ListAt w b0 ty G L ver) (hL : L.length ≤ 1000) (hR : RulesAt w rv (· < w.heap.size) R) (hf : Few R) (h47 : Fit47 R) (hzL : ∀ x ∈ L, Sizes x.2) (hc : WordsAt w cv G' c) (hzc : Sizes c) (h0 : askBad R b c op = 0) :
    Calls Try.prog 22 #[.pointer (some ⟨b0, 0, none⟩), rv, .int .i64 op, cv, .int .i64 b] w fun e w' => e = .returned (.tuple #[.int .i64 (askGo R b c op 0 0 L).1, .int .i64 (askGo R b c op 0 0 L).2, .int .i64 0]) ∧ Chg (fun _ => False) w w' := by
  have M1 := Lib.hid (rsetMay_any w cv G' c hc hzc)
  have FI := Lib.hid (fun w1 (q : Chg (fun _ => False) w w1) sv s (hs : WordsAt w1 sv G s) (hz : Sizes s) => rfits_any w1 rv sv cv R s c b G G' (rules_up hR q) hf h47 hs hz (hc.chg q (fun _ _ e => e)))
  obtain ⟨la, cap, h1, h2, hcap, hcm⟩ := hl.open
  have H1 := Lib.hid h1
  have H2 := Lib.hid h2
  obtain ⟨ra, rcap, rfl, hl0, _⟩ := hR
  obtain ⟨ca, ccap, rfl, hl1, _⟩ := hc
  unfold maxLen at hl0 hl1 hcm
  obtain ⟨q1, q2⟩ : setB c = true ∧ ¬ (op < 0 ∨ 8 ≤ op) ∧ badE true b R.length = 0 := by
    unfold askBad at h0
    cases hb : setB c with
    | false => rw [hb] at h0; simp at h0
    | true =>
      rw [hb, if_pos rfl] at h0
      by_cases h : op < 0 ∨ 8 ≤ op
      · rw [if_pos h] at h0; simp at h0
      · rw [if_neg h] at h0; exact ⟨rfl, h, h0⟩
  obtain ⟨_, q3, q4, q5⟩ := ba_len q2.2
  have q6 := q2.1
  rw [q1] at M1
  have g1 : decide (op < 0) = false := decide_eq_false (by omega)
  have g2 : decide (7 < op) = false := decide_eq_false (by omega)
  have g3 : decide (b < 1) = false := decide_eq_false (by omega)
  have g4 : decide (5000 < b) = false := decide_eq_false (by omega)
  have g5 : decide (400 < (R.length : Int)) = false := decide_eq_false (by omega)
  have HZL := Lib.hid hzL
  clear hl h1 h2 hf h0 q1 q2 q6 h47 hzL
  have ST := Lib.hid (show askGo R b c op 0 0 L = askGo R b c op 0 (ovI false) (L.drop 0) from rfl)
  generalize askGo R b c op 0 0 L = res at *
  go_enter Try.func22, Try.ntmps22
  go_wp2_with fail
  (with_reducible refine (M1.out).mono ?_)
  rintro e w2 ⟨rfl, d2⟩
  have K2 := Lib.hid (show Chg (fun _ => False) w w2 from d2)
  clear d2 M1
  go_wp2
  go_loopw [13, 14] (fun ov iv wr => ∃ (k : Nat) (o : Bool), k ≤ L.length ∧ iv = .int .i64 k ∧ ov = .bool o ∧ Hid (res = askGo R b c op k (ovI o) (L.drop k) ∧ Chg (fun _ => False) w wr)) (fun _ iv _ => L.length - (intOf iv).toNat)
  case atStart => exact ⟨0, false, by omega, rfl, rfl, Lib.hid ⟨ST.out, K2.out⟩⟩
  case round =>
    obtain ⟨k, ov, hk, rfl, rfl, HI⟩ := hrel
    have KW := Lib.hid HI.out.2
    have c0 : wr.cell? ⟨b0, 0, none⟩ = some (.slice la L.length cap) := cell_of (KW.out.obj (fun e => e) H1.out) rfl
    by_cases hlt : k < L.length
    · obtain ⟨x, hx⟩ : ∃ x, L[k]? = some x := ⟨_, List.getElem?_eq_getElem hlt⟩
      obtain ⟨g, o, sa, sc, rfl, _, d0, d1, hs⟩ := (H2.out.chg HI.out.2 (fun _ _ e => e)).get hx
      have F := Lib.hid (FI.out wr KW.out _ x.2 hs.at_ (HZL.out x (List.mem_of_getElem? hx)))
      have STP := Lib.hid (show res = if x.1 = op then (if fitV R b c x.2 = 1 then (1, (k : Int)) else askGo R b c op (k + 1) (if fitV R b c x.2 = 2 then 2 else ovI ov) (L.drop (k + 1))) else askGo R b c op (k + 1) (ovI ov) (L.drop (k + 1)) from by rw [HI.out.1]; exact askGo_step hx)
      clear HI hx hs
      generalize fitV R b c x.2 = f at *
      obtain ⟨oq, l⟩ := x
      simp only at d0 d1 F STP
      by_cases hop : oq = op
      · have e1 : (oq != op) = false := by rw [bne_eq_false_iff_eq]; exact hop
        have e2 : (oq == op) = true := beq_iff_eq.2 hop
        by_cases hf1 : f = 1
        · have R1 := Lib.hid (show res = (1, (k : Int)) from by rw [STP.out, if_pos hop, if_pos hf1])
          subst hf1
          clear STP hop
          go_wp2_with fail
          (with_reducible refine (F.out).mono ?_)
          rintro e w4 ⟨rfl, k4⟩
          have K4 := Lib.hid (KW.out.trans k4)
          clear k4 F
          go_wp2
          refine bodyPost_ret (v := .tuple #[.int .i64 1, .int .i64 k, .int .i64 0]) (by simp [results, Try.results22, go_sem]) rfl ?_
          exact ⟨by rw [R1.out], K4.out⟩
        · have m1 : (f == 1) = false := beq_eq_false_iff_ne.2 hf1
          by_cases hf2 : f = 2
          · have R2 := Lib.hid (show res = askGo R b c op (k + 1) (ovI true) (L.drop (k + 1)) from by rw [STP.out, if_pos hop, if_neg hf1, if_pos hf2]; rfl)
            subst hf2
            clear STP hop hf1
            go_wp2_with fail
            (with_reducible refine (F.out).mono ?_)
            rintro e w4 ⟨rfl, k4⟩
            have K4 := Lib.hid (KW.out.trans k4)
            clear k4 F
            cases ov
            all_goals
              go_wp2
              go_roundw
              case rel => exact ⟨k + 1, true, by omega, by go_num, rfl, Lib.hid ⟨R2.out, K4.out⟩⟩
              case measure => simp [intOf]; omega
          · have m2 : (f == 2) = false := beq_eq_false_iff_ne.2 hf2
            have R2 := Lib.hid (show res = askGo R b c op (k + 1) (ovI ov) (L.drop (k + 1)) from by rw [STP.out, if_pos hop, if_neg hf1, if_neg hf2])
            clear STP hop hf1 hf2
            go_wp2_with fail
            (with_reducible refine (F.out).mono ?_)
            rintro e w4 ⟨rfl, k4⟩
            have K4 := Lib.hid (KW.out.trans k4)
            clear k4 F
            cases ov
            all_goals
              go_wp2
              go_roundw
              case rel => exact ⟨k + 1, _, by omega, by go_num, rfl, Lib.hid ⟨R2.out, K4.out⟩⟩
              case measure => simp [intOf]; omega
      · have e1 : (oq != op) = true := by rw [bne_iff_ne]; exact hop
        have e2 : (oq == op) = false := beq_eq_false_iff_ne.2 hop
        have R2 := Lib.hid (show res = askGo R b c op (k + 1) (ovI ov) (L.drop (k + 1)) from by rw [STP.out, if_neg hop])
        clear STP hop F
        go_wp2
        go_roundw
        case rel => exact ⟨k + 1, ov, by omega, by go_num, rfl, Lib.hid ⟨R2.out, KW.out⟩⟩
        case measure => simp [intOf]; omega
    · obtain rfl : k = L.length := by omega
      have R := Lib.hid (show res = (ovI ov, -1) from by rw [HI.out.1, List.drop_length]; rfl)
      cases ov
      · go_wp2
        refine bodyPost_ret (v := .tuple #[.int .i64 0, .int .i64 (-1), .int .i64 0]) (by simp [results, Try.results22, go_sem]) rfl ?_
        exact ⟨by rw [R.out]; rfl, HI.out.2⟩
      · go_wp2
        refine bodyPost_ret (v := .tuple #[.int .i64 2, .int .i64 (-1), .int .i64 0]) (by simp [results, Try.results22, go_sem]) rfl ?_
        exact ⟨by rw [R.out]; rfl, HI.out.2⟩
theorem rask_any (w : World) (b0 : Nat) (ty : TypeId) (L : List BEnt) (ver : Nat) (rv cv : Value) (R : List BRul) (c : List ByteArray) (op b : Int) (G G' : Nat → Prop) (hl : ListAt w b0 ty G L ver) (hL : L.length ≤ 1000) (hR : RulesAt w rv (· < w.heap.size) R) (hf : Few R) (h47 : Fit47 R) (hzL : ∀ x ∈ L, Sizes x.2) (hc : WordsAt w cv G' c) (hzc : Sizes c) :
    Calls Try.prog 22 #[.pointer (some ⟨b0, 0, none⟩), rv, .int .i64 op, cv, .int .i64 b] w fun e w' => e = .returned (.tuple #[.int .i64 (askV R b c op L).1, .int .i64 (askV R b c op L).2.1, .int .i64 (askV R b c op L).2.2]) ∧ Chg (fun _ => False) w w' := by
  unfold askV
  by_cases h : askBad R b c op = 0
  · rw [if_pos h]
    exact rask_ok w b0 ty L ver rv cv R c op b G G' hl hL hR hf h47 hzL hc hzc h
  · rw [if_neg h]
    exact rask_bad w b0 rv cv R c op b G' hR hc hzc _ rfl h
end Go.Proofs.Ytbjdndialiddpaa
