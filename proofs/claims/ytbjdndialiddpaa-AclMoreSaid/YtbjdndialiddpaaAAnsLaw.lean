/-
  AclAnswers, walked.
-/
import Derived.Test.YtbjdndialiddpaaAAwake
import Derived.Test.YtbjdndialiddpaaAArgs
namespace Go.Proofs.Ytbjdndialiddpaa
open Go.RowKit Go.Maps

theorem fewOf {R : List BRul} {b : Int} {ss : List (List ByteArray)} (h : NotLarge R b ss) : Few R := by
  rcases h.few with q | q
  · exact .inl ⟨by omega, fun r hr => by
      obtain ⟨j, hj⟩ := List.mem_iff_getElem?.1 hr
      have hl := (List.getElem?_eq_some_iff.1 hj).1
      have := h.small j r (by omega) hj
      omega⟩
  · exact .inr q
theorem newG_lt {w w' : World} {b k : Nat} (h : NewG w w' b k) : k < w'.heap.size := h.2.1
set_option maxHeartbeats 4000000 in
set_option maxRecDepth 100000 in
theorem answers_law (w : World) (ev rv : Value) (op : Int) (cv : Value) (b : Int) (L : List BEnt) (R : List BRul) (c : List ByteArray) (hE : EntsAt w ev (· < w.heap.size) L) (hR : RulesArg w rv R) (hf : RulesFit R) (hc : SetAt w cv (· < w.heap.size) c) :
    Calls Try.prog 4 #[ev, rv, .int .i64 op, cv, .int .i64 b] w fun e w' => e = .returned (.bool true) ∧ Chg (fun _ => False) w w' := by
  have AW := Lib.hid (awake16_any w)
  have HE := Lib.hid hE
  have HR := Lib.hid hR.at_
  have HF := Lib.hid hf.1
  have HC := Lib.hid hc.at_
  obtain ⟨la, cap, rfl, hcap, hcm⟩ := hE.shape
  obtain ⟨ra, rcap, rfl, hl0, _⟩ := hR.at_
  obtain ⟨ca, ccap, rfl, hl1, _⟩ := hc.at_
  unfold maxLen at hcm hl0 hl1
  clear hE hR hf hc
  go_enter Try.func4, Try.ntmps4
  go_wp2_with fail
  (with_reducible refine (AW.out).mono ?_)
  rintro e w1 ⟨rfl, k1⟩
  have K1 := Lib.hid k1
  have MA := Lib.hid (many_any w1 _ L _ (HE.out.chg k1 (fun _ _ e => e)))
  clear k1 AW
  go_wp2_with fail
  (with_reducible refine (MA.out).mono ?_)
  rintro e w2 ⟨r, rfl, hr, k2⟩
  have HNM := Lib.hid hr
  have K2 := Lib.hid (K1.out.trans k2)
  clear hr k2 MA K1
  cases r with
  | true =>
    go_wp2
    go_ret
    exact ⟨rfl, K2.out⟩
  | false =>
    have NM := Lib.hid (HNM.out rfl)
    have hL30 := NM.out.few
    have LA := Lib.hid (large16_any _ (.slice ra R.length rcap) _ R b [c] _ _ (HR.out.chg (K2.out.alloc (.cells #[.slice ca c.length ccap] 34)) (fun _ _ e => e)) (setsAt_one w2 ca c.length ccap _ c (HC.out.chg K2.out (fun _ _ e => e))))
    have K3 := Lib.hid (K2.out.alloc (.cells #[.slice ca c.length ccap] 34))
    clear HNM K2
    go_wp2_with fail
    (with_reducible refine (LA.out).mono ?_)
    rintro e w4 ⟨r, rfl, hr, k4⟩
    have HNL := Lib.hid hr
    have K4 := Lib.hid (K3.out.trans k4)
    clear hr k4 LA K3
    cases r with
    | true =>
      go_wp2
      go_ret
      exact ⟨rfl, K4.out⟩
    | false =>
      have NL := Lib.hid (HNL.out rfl)
      have FEW := Lib.hid (fewOf NL.out)
      have ZC := Lib.hid (setOk_sizes (NL.out.sets c (by simp)))
      have ZL := Lib.hid (show ∀ x ∈ L, Sizes x.2 from fun x hx => setOk_sizes (NM.out.sets x hx))
      have N1 := Lib.hid (lnew_any w4 _ L _ (HE.out.chg K4.out (fun _ _ e => e)) (by omega))
      have N2 := Lib.hid (fun w1 (q : Chg (fun _ => False) w w1) => rnew_any w1 _ L _ (HE.out.chg q (fun _ _ e => e)) (by omega) ZL.out)
      clear HNL NM NL
      by_cases h0 : newE [] L = 0
      · have H0 := Lib.hid h0
        clear h0
        go_wp2_with fail
        (with_reducible refine (N1.out).mono ?_)
        rintro e w5 ⟨hq, _, k5⟩
        obtain ⟨b1, rfl, hb1, hl⟩ := hq H0.out
        have L5 := Lib.hid hl
        have K5 := Lib.hid (K4.out.trans k5)
        have N6 := Lib.hid (N2.out w5 K5.out)
        have hb5 := hl.lt
        clear hq k5 hl N1 N2 K4
        go_wp2_with fail
        (with_reducible refine (N6.out).mono ?_)
        rintro e w7 ⟨hq, _, k7⟩
        obtain ⟨b2, rfl, hb2, hl⟩ := hq H0.out
        have L7 := Lib.hid hl
        have M7 := Lib.hid (L5.out.chg k7 (fun e => e) (fun _ _ e => e))
        have K7 := Lib.hid (K5.out.trans k7)
        clear hq k7 hl N6 L5 K5 H0
        have AK := Lib.hid (ask_any w7 b1 _ L 0 _ _ R c op b _ _ M7.out (by omega) (rules_up HR.out K7.out) FEW.out (HC.out.chg K7.out (fun _ _ e => e)))
        have RK := Lib.hid (fun w1 (q : Chg (fun _ => False) w7 w1) => rask_any w1 b2 _ L 0 _ _ R c op b _ _ (L7.out.chg q (fun e => e) (fun _ _ e => e)) (by omega) (rules_up HR.out (K7.out.trans q)) FEW.out HF.out ZL.out (HC.out.chg (K7.out.trans q) (fun _ _ e => e)) ZC.out)
        generalize askV R b c op L = q at *
        obtain ⟨q1, q2, q3⟩ := q
        simp only at AK RK
        go_wp2_with fail
        (with_reducible refine (AK.out).mono ?_)
        rintro e w8 ⟨rfl, k8⟩
        have RK8 := Lib.hid (RK.out w8 k8)
        have K8 := Lib.hid (K7.out.trans k8)
        clear k8 AK RK K7
        go_wp2_with fail
        (with_reducible refine (RK8.out).mono ?_)
        rintro e w9 ⟨rfl, k9⟩
        have K9 := Lib.hid (K8.out.trans k9)
        clear k9 RK8 K8 L7 M7
        go_wp2
        go_loopw [94] (fun iv wr => ∃ k : Nat, k ≤ L.length ∧ iv = .int .i64 k ∧ Hid (Chg (fun _ => False) w wr)) (fun iv _ => L.length - (intOf iv).toNat)
        case atStart => exact ⟨0, by omega, rfl, K9⟩
        case round =>
          obtain ⟨k, hk, rfl, HI⟩ := hrel
          by_cases hlt : k < L.length
          · obtain ⟨x, hx⟩ : ∃ x, L[k]? = some x := ⟨_, List.getElem?_eq_getElem hlt⟩
            obtain ⟨g, o, sa, sc, rfl, _, _, d1, hs⟩ := (HE.out.chg HI.out (fun _ _ e => e)).get hx
            have FP := Lib.hid (fitsP_any wr _ _ _ R x.2 c b _ _ (rules_up HR.out HI.out) FEW.out hs.at_ (HC.out.chg HI.out (fun _ _ e => e)))
            have FR := Lib.hid (fun w1 (q : Chg (fun _ => False) wr w1) => rfitsP_any w1 _ _ _ R x.2 c b _ _ (rules_up HR.out (HI.out.trans q)) FEW.out HF.out (hs.at_.chg q (fun _ _ e => e)) (ZL.out x (List.mem_of_getElem? hx)) (HC.out.chg (HI.out.trans q) (fun _ _ e => e)) ZC.out)
            generalize fitsE R b c x.2 = f at *
            obtain ⟨f1, f2⟩ := f
            have D1 := Lib.hid (fun w1 (q : Chg (fun _ => False) wr w1) => cell_chg q (fun e => e) d1)
            clear hs hx
            obtain ⟨oq, s⟩ := x
            simp only at d1 FP FR D1
            go_wp2_with fail
            (with_reducible refine (FP.out).mono ?_)
            rintro e w10 ⟨rfl, k10⟩
            have FR1 := Lib.hid (FR.out w10 k10)
            have d2 := D1.out w10 k10
            have K10 := Lib.hid (HI.out.trans k10)
            clear k10 FP FR D1 d1
            go_wp2_with fail
            (with_reducible refine (FR1.out).mono ?_)
            rintro e w11 ⟨rfl, k11⟩
            have K11 := Lib.hid (K10.out.trans k11)
            clear k11 FR1 K10 d2
            go_wp2
            go_roundw
            case rel => exact ⟨k + 1, by omega, by go_num, K11⟩
            case measure => simp [intOf]; omega
          · obtain rfl : k = L.length := by omega
            go_wp2
            go_ret
            exact ⟨rfl, HI.out⟩
      · have H0 := Lib.hid h0
        clear h0
        go_wp2_with fail
        (with_reducible refine (N1.out).mono ?_)
        rintro e w5 ⟨_, hq, k5⟩
        have e5 := hq H0.out
        subst e5
        have K5 := Lib.hid (K4.out.trans k5)
        have N6 := Lib.hid (N2.out w5 K5.out)
        clear hq k5 N1 N2 K4
        go_wp2_with fail
        (with_reducible refine (N6.out).mono ?_)
        rintro e w7 ⟨_, hq, k7⟩
        have e7 := hq H0.out
        subst e7
        have K7 := Lib.hid (K5.out.trans k7)
        clear hq k7 N6 K5
        go_wp2
        go_ret
        exact ⟨rfl, K7.out⟩
end Go.Proofs.Ytbjdndialiddpaa
