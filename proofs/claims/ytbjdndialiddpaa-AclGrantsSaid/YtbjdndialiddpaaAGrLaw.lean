/-
  AclGrants, walked.
-/
import Derived.Test.YtbjdndialiddpaaAGrPlain
import Derived.Test.YtbjdndialiddpaaAAnsLaw
namespace Go.Proofs.Ytbjdndialiddpaa
open Go.RowKit Go.Maps

theorem stopB_take {R : List BRul} {b : Int} {c s : List ByteArray} {k : Nat} {x : ByteArray} (hx : s[k]? = some x) : stopB R b c (s.take (k + 1)) = (stopB R b c (s.take k) || !metB R b c x) := by
  unfold stopB
  rw [List.take_add_one, hx, List.any_append]; simp
theorem overB_take {R : List BRul} {b : Int} {s : List ByteArray} {k : Nat} {x : ByteArray} (hx : s[k]? = some x) : overB R b (s.take (k + 1)) = (overB R b (s.take k) || decide (rowErr R x b ≠ 0)) := by
  unfold overB
  rw [List.take_add_one, hx, List.any_append]; simp
theorem oversB_take {R : List BRul} {b op : Int} {L : List BEnt} {k : Nat} {x : BEnt} (hx : L[k]? = some x) : oversB R b op (L.take (k + 1)) = (oversB R b op (L.take k) || (decide (x.1 = op) && overB R b x.2)) := by
  unfold oversB
  rw [List.take_add_one, hx, List.any_append]; simp
set_option maxHeartbeats 2000000 in
set_option maxRecDepth 100000 in
theorem stopped_any (w : World) (x : BEnt) (sa : Option Addr) (sc : Nat) (G G' : Nat → Prop) (p1 p2 p3 : Nat) (rv cv : Value) (R : List BRul) (c : List ByteArray) (b : Int)
    (h1 : w.cell? ⟨p1, 0, none⟩ = some rv) (h2 : w.cell? ⟨p2, 0, none⟩ = some (.int .i64 b)) (h3 : w.cell? ⟨p3, 0, none⟩ = some cv)
    (hR : RulesAt w rv (· < w.heap.size) R) (hf : Few R) (h47 : Fit47 R) (hs : WordsAt w (.slice sa x.2.length sc) G x.2) (hz : Sizes x.2) (hc : WordsAt w cv G' c) :
    Calls Try.prog 25 #[.agg #[.int .i64 x.1, .slice sa x.2.length sc], .pointer (some ⟨p1, 0, none⟩), .pointer (some ⟨p2, 0, none⟩), .pointer (some ⟨p3, 0, none⟩)] w fun e w' => e = .returned (.tuple #[.bool (stopB R b c x.2), .bool (overB R b x.2)]) ∧ Chg (fun _ => False) w w' := by
  obtain ⟨op, s⟩ := x
  simp only at hs hz ⊢
  have ALL := Lib.hid (fun w1 (k : Chg (fun _ => False) w w1) j x (hx : s[j]? = some x) => rall_tells (b := b) (words_asks hR hf hs k hx) h47 (hz x (List.mem_of_getElem? hx)))
  have HC := Lib.hid hc
  have HS := Lib.hid hs
  obtain ⟨ra, rcap, rfl, hl2, _⟩ := hR
  obtain ⟨_, _, eqn, hl0, _⟩ := hs
  cases eqn
  obtain ⟨ca, ccap, rfl, hl1, _⟩ := hc
  unfold maxLen at hl0 hl1 hl2
  have H1 := Lib.hid h1
  have H2 := Lib.hid h2
  have H3 := Lib.hid h3
  have KA := Lib.hid (chg_alloc (fun _ => False) w (.cells #[.int .i64 op, .slice sa s.length sc] 36))
  clear hf h47 hz h1 h2 h3
  go_enter Try.func25, Try.ntmps25
  go_wp2
  go_loopw [7, 8, 19] (fun sv ov iv wr => ∃ k : Nat, k ≤ s.length ∧ iv = .int .i64 k ∧ sv = .bool (stopB R b c (s.take k)) ∧ ov = .bool (overB R b (s.take k)) ∧ Hid (Chg (fun _ => False) w wr)) (fun _ _ iv _ => s.length - (intOf iv).toNat)
  case atStart => exact ⟨0, by omega, rfl, rfl, rfl, KA⟩
  case round =>
    obtain ⟨k, hk, rfl, rfl, rfl, HI⟩ := hrel
    by_cases hlt : k < s.length
    · obtain ⟨x, hx⟩ : ∃ x, s[k]? = some x := ⟨_, List.getElem?_eq_getElem hlt⟩
      obtain ⟨sa', scap', e1, _, hcl⟩ := HS.out.chg HI.out (fun _ _ e => e)
      cases e1
      obtain ⟨lb, lo, rfl, _, c0, _⟩ := hcl k x hx
      have AL := Lib.hid (ALL.out wr HI.out k x hx)
      have q1 : wr.cell? ⟨p1, 0, none⟩ = _ := cell_chg HI.out (fun e => e) H1.out
      have q2 : wr.cell? ⟨p2, 0, none⟩ = _ := cell_chg HI.out (fun e => e) H2.out
      have ST := Lib.hid (stopB_take (R := R) (b := b) (c := c) hx)
      have OT := Lib.hid (overB_take (R := R) (b := b) hx)
      have MB : metB R b c x = anyB c (tellL R x b) := rfl
      rw [MB] at ST
      clear hcl hx MB
      generalize tellL R x b = T at *
      generalize hke : rowErr R x b = ke at *
      generalize stopB R b c (s.take k) = s0 at *
      generalize overB R b (s.take k) = o0 at *
      go_wp2_with fail
      (with_reducible refine (AL.out).mono ?_)
      rintro e w2 ⟨va, rfl, hva, k2⟩
      have K2 := Lib.hid (HI.out.trans k2)
      have q3 : w2.cell? ⟨p3, 0, none⟩ = _ := cell_chg K2.out (fun e => e) H3.out
      have RH := Lib.hid (fun y => rhas_any w2 (.slice ca c.length ccap) G' c y (HC.out.chg K2.out (fun _ _ e => e)))
      have VA := Lib.hid hva
      obtain ⟨va1, vac, rfl, hvl, _⟩ := hva
      unfold maxLen at hvl
      clear k2 AL q1 q2 c0 hke
      by_cases hk0 : ke = 0
      case' pos =>
        subst hk0
        have OT2 := Lib.hid (show overB R b (s.take (k + 1)) = o0 from by rw [OT.out]; simp)
      case' neg =>
        have m0 : (ke != 0) = true := by rw [bne_iff_ne]; exact hk0
        have OT2 := Lib.hid (show overB R b (s.take (k + 1)) = true from by rw [OT.out]; simp [hk0])
        clear hk0
      all_goals
        clear OT
        cases o0
        all_goals
          go_wp2
          go_loop [13, 37] (fun mv jv => ∃ j : Nat, j ≤ T.length ∧ jv = .int .i64 j ∧ mv = .bool (anyB c (T.take j))) (fun _ jv => T.length - (intOf jv).toNat)
          case atStart => exact ⟨0, by omega, rfl, rfl⟩
          case round =>
            obtain ⟨j, hj, rfl, rfl⟩ := hrel
            by_cases hjl : j < T.length
            · obtain ⟨y, hy⟩ : ∃ y, T[j]? = some y := ⟨_, List.getElem?_eq_getElem hjl⟩
              obtain ⟨_, _, e1, _, hcl⟩ := VA.out
              cases e1
              obtain ⟨lb2, lo2, rfl, _, c2, _⟩ := hcl j y hy
              have RY := Lib.hid (RH.out y)
              have AN := Lib.hid (any_take (c := c) hy)
              clear hcl hy
              generalize anyB c (T.take j) = m at *
              generalize hasB c y = h at *
              cases m with
              | true =>
                rw [Bool.true_or] at AN
                go_wp2
                go_round
                case rel => exact ⟨j + 1, by omega, by go_num, by rw [AN.out]⟩
                case measure => simp [intOf]; omega
              | false =>
                rw [Bool.false_or] at AN
                go_wp2_with fail
                (with_reducible refine (RY.out).mono ?_)
                rintro e w3 ⟨rfl, rfl⟩
                cases h
                all_goals
                  go_wp2
                  go_round
                  case rel => exact ⟨j + 1, by omega, by go_num, by rw [AN.out]⟩
                  case measure => simp [intOf]; omega
            · obtain rfl : j = T.length := by omega
              rw [List.take_length]
              generalize anyB c T = m at *
              cases s0 <;> cases m
              all_goals
                go_wp2
                go_roundw
                case rel => exact ⟨k + 1, by omega, by go_num, by rw [ST.out]; rfl, by rw [OT2.out], K2⟩
                case measure => simp [intOf]; omega
    · obtain rfl : k = s.length := by omega
      rw [List.take_length]
      go_wp2
      go_ret2
      exact ⟨rfl, HI.out⟩
theorem askV_bad {R : List BRul} {b : Int} {c : List ByteArray} {op : Int} {L : List BEnt} (h : askBad R b c op ≠ 0) : askV R b c op L = (0, 0, askBad R b c op) := if_neg h
theorem askV_ok {R : List BRul} {b : Int} {c : List ByteArray} {op : Int} {L : List BEnt} (h : askBad R b c op = 0) : askV R b c op L = ((askGo R b c op 0 0 L).1, (askGo R b c op 0 0 L).2, 0) := if_pos h
set_option maxHeartbeats 4000000 in
set_option maxRecDepth 100000 in
theorem grants_law (w : World) (ev rv : Value) (op : Int) (cv : Value) (b : Int) (L : List BEnt) (R : List BRul) (c : List ByteArray) (hE : EntsAt w ev (· < w.heap.size) L) (hR : RulesArg w rv R) (hf : RulesFit R) (hc : SetAt w cv (· < w.heap.size) c) :
    Calls Try.prog 5 #[ev, rv, .int .i64 op, cv, .int .i64 b] w fun e w' => e = .returned (.bool true) ∧ Chg (fun _ => False) w w' := by
  have HE := Lib.hid hE
  have HR := Lib.hid hR.at_
  have HF := Lib.hid hf.1
  have HC := Lib.hid hc.at_
  obtain ⟨la, cap, rfl, hcap, hcm⟩ := hE.shape
  obtain ⟨ra, rcap, rfl, hl0, _⟩ := hR.at_
  obtain ⟨ca, ccap, rfl, hl1, _⟩ := hc.at_
  unfold maxLen at hcm hl0 hl1
  clear hE hR hf hc
  have AW := Lib.hid (awake16_any (((w.alloc (.cells #[.slice ra R.length rcap] 48)).alloc (.cells #[.slice ca c.length ccap] 34)).alloc (.cells #[.int .i64 b] 3)))
  have K0 := Lib.hid (((chg_alloc (fun _ => False) w (.cells #[.slice ra R.length rcap] 48)).alloc (.cells #[.slice ca c.length ccap] 34)).alloc (.cells #[.int .i64 b] 3))
  have O1 := Lib.hid (obj_alloc (.cells #[.int .i64 b] 3) (obj_alloc (.cells #[.slice ca c.length ccap] 34) (obj_alloc_new w (.cells #[.slice ra R.length rcap] 48))))
  have O2 := obj_alloc (.cells #[.int .i64 b] 3) (obj_alloc_new (w.alloc (.cells #[.slice ra R.length rcap] 48)) (.cells #[.slice ca c.length ccap] 34))
  have O3 := obj_alloc_new ((w.alloc (.cells #[.slice ra R.length rcap] 48)).alloc (.cells #[.slice ca c.length ccap] 34)) (.cells #[.int .i64 b] 3)
  simp only [World.size_alloc] at O2 O3
  have O2 := Lib.hid O2
  have O3 := Lib.hid O3
  go_enter Try.func5, Try.ntmps5
  go_wp2_with fail
  (with_reducible refine (AW.out).mono ?_)
  rintro e w1 ⟨rfl, k1⟩
  have K1 := Lib.hid (K0.out.trans k1)
  have P1 := Lib.hid (k1.obj (fun e => e) O1.out)
  have P2 := Lib.hid (k1.obj (fun e => e) O2.out)
  have P3 := Lib.hid (k1.obj (fun e => e) O3.out)
  have MA := Lib.hid (many_any w1 _ L _ (HE.out.chg K1.out (fun _ _ e => e)))
  clear k1 AW K0 O1 O2 O3
  generalize w.heap.size + 1 + 1 = p3 at *
  generalize w.heap.size + 1 = p2 at *
  obtain ⟨p1, hp1⟩ : ∃ p, p = w.heap.size := ⟨_, rfl⟩
  rw [← hp1] at P1
  rw [← hp1]
  clear hp1
  go_wp2_with fail
  (with_reducible refine (MA.out).mono ?_)
  rintro e w2 ⟨r, rfl, hr, k2⟩
  have HNM := Lib.hid hr
  have K2 := Lib.hid (K1.out.trans k2)
  have P1 := Lib.hid (k2.obj (fun e => e) P1.out)
  have P2 := Lib.hid (k2.obj (fun e => e) P2.out)
  have P3 := Lib.hid (k2.obj (fun e => e) P3.out)
  clear hr k2 MA K1
  cases r with
  | true =>
    go_wp2
    go_ret
    exact ⟨rfl, K2.out⟩
  | false =>
    have NM := Lib.hid (HNM.out rfl)
    have hL30 := NM.out.few
    have ka := chg_alloc (fun _ => False) w2 (.cells #[.slice ca c.length ccap] 34)
    have LA := Lib.hid (large16_any _ (.slice ra R.length rcap) _ R b [c] _ _ (HR.out.chg (K2.out.trans ka) (fun _ _ e => e)) (setsAt_one w2 ca c.length ccap _ c (HC.out.chg K2.out (fun _ _ e => e))))
    have K3 := Lib.hid (K2.out.trans ka)
    have c1 : w2.cell? ⟨p1, 0, none⟩ = some (.slice ra R.length rcap) := cell_of P1.out rfl
    have c2 : w2.cell? ⟨p2, 0, none⟩ = some (.slice ca c.length ccap) := cell_of P2.out rfl
    have c3 : w2.cell? ⟨p3, 0, none⟩ = some (.int .i64 b) := cell_of P3.out rfl
    have Q1 := Lib.hid (ka.obj (fun e => e) P1.out)
    have Q2 := Lib.hid (ka.obj (fun e => e) P2.out)
    have Q3 := Lib.hid (ka.obj (fun e => e) P3.out)
    clear HNM K2 ka P1 P2 P3
    go_wp2_with fail
    (with_reducible refine (LA.out).mono ?_)
    rintro e w4 ⟨r, rfl, hr, k4⟩
    have HNL := Lib.hid hr
    have K4 := Lib.hid (K3.out.trans k4)
    have P1 := Lib.hid (k4.obj (fun e => e) Q1.out)
    have P2 := Lib.hid (k4.obj (fun e => e) Q2.out)
    have P3 := Lib.hid (k4.obj (fun e => e) Q3.out)
    clear hr k4 LA K3 c1 c2 c3 Q1 Q2 Q3
    cases r with
    | true =>
      go_wp2
      go_ret
      exact ⟨rfl, K4.out⟩
    | false =>
      have NL := Lib.hid (HNL.out rfl)
      have FEW := Lib.hid (fewOf NL.out)
      have ZL := Lib.hid (show ∀ x ∈ L, Sizes x.2 from fun x hx => setOk_sizes (NM.out.sets x hx))
      have N1 := Lib.hid (lnew_any w4 _ L _ (HE.out.chg K4.out (fun _ _ e => e)) (by omega))
      clear HNL NM NL
      by_cases h0 : newE [] L = 0
      · have H0 := Lib.hid h0
        clear h0
        go_wp2_with fail
        (with_reducible refine (N1.out).mono ?_)
        rintro e w5 ⟨hq, _, k5⟩
        obtain ⟨b1, rfl, hb1, hl⟩ := hq H0.out
        have K5 := Lib.hid (K4.out.trans k5)
        have AK := Lib.hid (ask_any w5 b1 _ L 0 _ _ R c op b _ _ hl (by omega) (rules_up HR.out K5.out) FEW.out (HC.out.chg K5.out (fun _ _ e => e)))
        have P1 := Lib.hid (k5.obj (fun e => e) P1.out)
        have P2 := Lib.hid (k5.obj (fun e => e) P2.out)
        have P3 := Lib.hid (k5.obj (fun e => e) P3.out)
        have c1 : w5.cell? ⟨p1, 0, none⟩ = some (.slice ra R.length rcap) := cell_of P1.out rfl
        have c2 : w5.cell? ⟨p2, 0, none⟩ = some (.slice ca c.length ccap) := cell_of P2.out rfl
        have c3 : w5.cell? ⟨p3, 0, none⟩ = some (.int .i64 b) := cell_of P3.out rfl
        clear hq k5 hl N1 K4
        by_cases hbad : askBad R b c op = 0
        · rw [askV_ok hbad] at AK
          simp only at AK
          have CL := Lib.hid (fun wl (q : Chg (fun _ => False) w5 wl) x sa sc G (hs : WordsAt wl (.slice sa x.2.length sc) G x.2) (hz : Sizes x.2) => stopped_any wl x sa sc G _ p1 p3 p2 (.slice ra R.length rcap) (.slice ca c.length ccap) R c b (cell_of (q.obj (fun e => e) P1.out) rfl) (cell_of (q.obj (fun e => e) P3.out) rfl) (cell_of (q.obj (fun e => e) P2.out) rfl) (rules_up HR.out (K5.out.trans q)) FEW.out HF.out hs hz (HC.out.chg (K5.out.trans q) (fun _ _ e => e)))
          clear hbad P1 P2 P3
          by_cases ha : (askGo R b c op 0 0 L).1 = 1
          · obtain ⟨j, x, hx, hj2, hop, hfit⟩ := askGo_yes L 0 0 (by omega) ha
            rw [ha, hj2, Nat.zero_add] at AK
            have hns := fitV_one.1 hfit
            have hno : overB R b x.2 = false := by
              rw [← Bool.not_eq_true]; intro e
              rw [stop_of_over e] at hns; cases hns
            have NS := Lib.hid (And.intro hns hno)
            have hjl := (List.getElem?_eq_some_iff.1 hx).1
            have g1 : decide ((L.length : Int) ≤ (j : Int)) = false := decide_eq_false (by omega)
            have hZx := ZL.out x (List.mem_of_getElem? hx)
            have ZX := Lib.hid hZx
            have HX := Lib.hid hx
            clear ha hj2 hfit hns hno hx hZx
            go_wp2_with fail
            (with_reducible refine (AK.out).mono ?_)
            rintro e w6 ⟨rfl, k6⟩
            have K6 := Lib.hid (K5.out.trans k6)
            obtain ⟨g, o, sa, sc, rfl, _, d0, d1, hs⟩ := (HE.out.chg K6.out (fun _ _ e => e)).get HX.out
            have CX := CL.out w6 k6 x sa sc _ hs.at_ ZX.out
            rw [NS.out.1, NS.out.2] at CX
            have CX := Lib.hid CX
            clear k6 AK CL hs NS ZX HX c1 c2 c3
            obtain ⟨oq, s⟩ := x
            simp only at d0 d1 CX hop
            subst hop
            go_wp2_with fail
            (with_reducible refine (CX.out).mono ?_)
            rintro e w7 ⟨rfl, k7⟩
            have K7 := Lib.hid (K6.out.trans k7)
            clear k7 CX
            go_wp2
            go_ret
            exact ⟨rfl, K7.out⟩
          · obtain ⟨hi1, hst, hov⟩ := askGo_no L 0 0 ha
            have ANS := Lib.hid (show (askGo R b c op 0 0 L).1 = if oversB R b op L = true then 2 else 0 from hov)
            rw [hi1] at AK
            have m1 : ((askGo R b c op 0 0 L).1 == 1) = false := beq_eq_false_iff_ne.2 ha
            have m2 : ((askGo R b c op 0 0 L).1 == 2) = oversB R b op L := by rw [hov]; cases oversB R b op L <;> rfl
            have HST := Lib.hid hst
            generalize (askGo R b c op 0 0 L).1 = av at *
            clear ha hi1 hst hov ANS
            go_wp2_with fail
            (with_reducible refine (AK.out).mono ?_)
            rintro e w6 ⟨rfl, k6⟩
            have K6 := Lib.hid (K5.out.trans k6)
            have CL := Lib.hid (fun wl (q : Chg (fun _ => False) w6 wl) => CL.out wl (k6.trans q))
            clear k6 AK c1 c2 c3
            go_wp2
            go_loopw [19, 97] (fun ov iv wr => ∃ k : Nat, k ≤ L.length ∧ iv = .int .i64 k ∧ ov = .bool (oversB R b op (L.take k)) ∧ Hid (Chg (fun _ => False) w6 wr)) (fun _ iv _ => L.length - (intOf iv).toNat)
            case atStart => exact ⟨0, by omega, rfl, rfl, Lib.hid (Chg.refl _ _)⟩
            case round =>
              obtain ⟨k, hk, rfl, rfl, HI⟩ := hrel
              by_cases hlt : k < L.length
              · obtain ⟨x, hx⟩ : ∃ x, L[k]? = some x := ⟨_, List.getElem?_eq_getElem hlt⟩
                obtain ⟨g, o, sa, sc, rfl, _, d0, d1, hs⟩ := (HE.out.chg (K6.out.trans HI.out) (fun _ _ e => e)).get hx
                have ka := chg_alloc (fun _ => False) wr (.cells #[.int .i64 x.1, .slice sa x.2.length sc] 36)
                have CX := Lib.hid (CL.out _ (HI.out.trans ka) x sa sc _ (hs.at_.chg ka (fun _ _ e => e)) (ZL.out x (List.mem_of_getElem? hx)))
                have OB := Lib.hid (obj_alloc_new wr (.cells #[.int .i64 x.1, .slice sa x.2.length sc] 36))
                have KA := Lib.hid (HI.out.trans ka)
                have OT := Lib.hid (oversB_take (R := R) (b := b) (op := op) hx)
                have SX := Lib.hid (HST.out x (List.mem_of_getElem? hx))
                clear hs hx HI ka
                generalize stopB R b c x.2 = st at *
                generalize overB R b x.2 = ox at *
                generalize oversB R b op (L.take k) = o0 at *
                obtain ⟨oq, s⟩ := x
                simp only at d0 d1 CX OB KA SX OT
                go_wp2_with fail
                (with_reducible refine (CX.out).mono ?_)
                rintro e w7 ⟨rfl, k7⟩
                have K7 := Lib.hid (KA.out.trans k7)
                have ob := k7.obj (fun e => e) OB.out
                have z0 : w7.cell? ⟨wr.heap.size, 0, none⟩ = some (.int .i64 oq) := cell_of ob rfl
                clear k7 CX KA OB ob d0 d1
                by_cases hop : oq = op
                · have e1 : (oq == op) = true := beq_iff_eq.2 hop
                  have e2 : st = true := SX.out hop
                  have OT2 := Lib.hid (show oversB R b op (L.take (k + 1)) = (o0 || ox) from by rw [OT.out]; simp [hop])
                  subst e2
                  clear OT hop SX
                  cases o0 <;> cases ox
                  all_goals
                    go_wp2
                    go_roundw
                    case rel => exact ⟨k + 1, by omega, by go_num, by rw [OT2.out]; rfl, K7⟩
                    case measure => simp [intOf]; omega
                · have e1 : (oq == op) = false := beq_eq_false_iff_ne.2 hop
                  have OT2 := Lib.hid (show oversB R b op (L.take (k + 1)) = o0 from by rw [OT.out]; simp [hop])
                  clear OT hop SX
                  cases o0
                  all_goals
                    go_wp2
                    go_roundw
                    case rel => exact ⟨k + 1, by omega, by go_num, by rw [OT2.out], K7⟩
                    case measure => simp [intOf]; omega
              · obtain rfl : k = L.length := by omega
                rw [List.take_length]
                generalize oversB R b op L = o0 at *
                cases o0
                all_goals
                  go_wp2
                  go_ret
                  exact ⟨rfl, K6.out.trans HI.out⟩
        · rw [askV_bad hbad] at AK
          simp only at AK
          have m0 : (askBad R b c op != 0) = true := by rw [bne_iff_ne]; exact hbad
          generalize askBad R b c op = k at *
          go_wp2_with fail
          (with_reducible refine (AK.out).mono ?_)
          rintro e w6 ⟨rfl, k6⟩
          have K6 := Lib.hid (K5.out.trans k6)
          clear k6 AK
          go_wp2
          go_ret
          exact ⟨rfl, K6.out⟩
      · have H0 := Lib.hid h0
        clear h0
        go_wp2_with fail
        (with_reducible refine (N1.out).mono ?_)
        rintro e w5 ⟨_, hq, k5⟩
        have e5 := hq H0.out
        subst e5
        have K5 := Lib.hid (K4.out.trans k5)
        clear hq k5 N1 K4
        go_wp2
        go_ret
        exact ⟨rfl, K5.out⟩
end Go.Proofs.Ytbjdndialiddpaa
