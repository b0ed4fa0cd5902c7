/-
  AclMore, walked.
-/
import Derived.Test.YtbjdndialiddpaaAMAnd
import Derived.Test.YtbjdndialiddpaaAAnsLaw
namespace Go.Proofs.Ytbjdndialiddpaa
open Go.RowKit Go.Maps

def EntArg (w : World) (v : Value) (x : BEnt) : Prop := ∃ sv, v = .agg #[.int .i64 x.1, sv] ∧ SetAt w sv (· < w.heap.size) x.2
theorem entArg_of {W : World} {H : Type} {enc : TypeId × Value → H} {cs : Array Value} {d : DataW H} {ps : List MemPlace} (h : DataW.Trod enc Try.prog W 0 (fun _ => true) true 36 (.agg cs) d ps) : ∃ x, EntArg W (.agg cs) x := by
  obtain ⟨fuel, hf⟩ := h
  obtain ⟨r, e, hs⟩ := entry_of hf
  refine ⟨r.1, r.2, ?_, hs⟩
  have e' : cs.toList = [.int .i64 r.1.1, r.2] := e
  have : cs = #[.int .i64 r.1.1, r.2] := Array.toList_inj.1 e'
  rw [this]
theorem rulesAt_nil (w : World) (G : Nat → Prop) : RulesAt w (.slice none 0 0) G [] := ⟨none, 0, rfl, by simp, fun j r h => by simp at h⟩
theorem setsAt_nil (w : World) (G : Nat → Prop) : SetsAt w (.slice none 0 0) G [] := ⟨none, 0, rfl, by simp, fun j r h => by simp at h⟩
theorem small_of {R : List BRul} {b : Int} {ss : List (List ByteArray)} (h : NotLarge R b ss) (hl : R.length ≤ 400) : ∀ r ∈ R, r.1.size ≤ 100 ∧ r.2.size ≤ 100 := fun r hr => by
  obtain ⟨j, hj⟩ := List.mem_iff_getElem?.1 hr
  have := (List.getElem?_eq_some_iff.1 hj).1
  exact h.small j r (by omega) hj
set_option maxHeartbeats 8000000 in
set_option maxRecDepth 100000 in
theorem more_law (w : World) (ev ov rv mv : Value) (op : Int) (cv dv : Value) (b : Int) (L : List BEnt) (one : BEnt) (R M : List BRul) (c d : List ByteArray) (hE : EntsAt w ev (· < w.heap.size) L) (hO : EntArg w ov one) (hR : RulesArg w rv R) (_ : RulesFit R) (hM : RulesArg w mv M) (_ : RulesFit M) (hc : SetAt w cv (· < w.heap.size) c) (hd : SetAt w dv (· < w.heap.size) d) :
    Calls Try.prog 6 #[ev, ov, rv, mv, .int .i64 op, cv, dv, .int .i64 b] w fun e w' => e = .returned (.bool true) ∧ Chg (fun _ => False) w w' := by
  obtain ⟨_, rfl, hs⟩ := hO
  obtain ⟨oop, os⟩ := one
  obtain ⟨oa, oc, rfl⟩ := hs.shape
  obtain ⟨la, cap, rfl, hcap, hcm⟩ := hE.shape
  obtain ⟨ra, rcap, rfl, hl0, _⟩ := hR.at_
  obtain ⟨ma, mcap, rfl, hl1, _⟩ := hM.at_
  obtain ⟨ca, ccap, rfl, hl2, _⟩ := hc.at_
  obtain ⟨da, dcap, rfl, hl3, _⟩ := hd.at_
  unfold maxLen at hcm hl0 hl1 hl2 hl3
  simp only at hs ⊢
  have k0 := chg_alloc (fun _ => False) w (.cells #[.int .i64 oop, .slice oa os.length oc] 36)
  have K0 := Lib.hid k0
  have PB := Lib.hid (obj_alloc_new w (.cells #[.int .i64 oop, .slice oa os.length oc] 36))
  have HE := Lib.hid (hE.chg k0 (fun _ _ e => e))
  have HS := Lib.hid (hs.chg k0 (fun _ _ e => e))
  have HR := Lib.hid (rules_up hR.at_ k0)
  have HM := Lib.hid (rules_up hM.at_ k0)
  have HC := Lib.hid (hc.chg k0 (fun _ _ e => e))
  have HD := Lib.hid (hd.chg k0 (fun _ _ e => e))
  have RN := Lib.hid hR.nil
  have MN := Lib.hid hM.nil
  have AW := Lib.hid (awake16_any (w.alloc (.cells #[.int .i64 oop, .slice oa os.length oc] 36)))
  clear hE hs hR hM hc hd k0
  go_enter Try.func6, Try.ntmps6
  go_wp2_with fail
  generalize w.alloc (.cells #[.int .i64 oop, .slice oa os.length oc] 36) = w0 at *
  (with_reducible refine (AW.out).mono ?_)
  rintro e w1 ⟨rfl, k1⟩
  have K1 := Lib.hid k1
  have MA := Lib.hid (many_any w1 _ L _ (HE.out.chg k1 (fun _ _ e => e)))
  clear k1 AW
  go_wp2_with fail
  (with_reducible refine (MA.out).mono ?_)
  rintro e w2 ⟨r, rfl, hr, k2⟩
  have HNM := Lib.hid hr
  have K2 := Lib.hid (K1.out.trans k2)
  clear hr k2 MA K1
  cases r with
  | true =>
    go_wp2
    go_ret
    exact ⟨rfl, K0.out.trans K2.out⟩
  | false =>
  have hL30 := (HNM.out rfl).few
  have pb := K2.out.obj (fun e => e) PB.out
  have p0 : w2.cell? ⟨w.heap.size, 0, none⟩ = some (.int .i64 oop) := cell_of pb rfl
  have p1 : w2.cell? ⟨w.heap.size, 1, none⟩ = some (.slice oa os.length oc) := cell_of pb rfl
  have MA2 := Lib.hid (many_any _ _ [(oop, os)] _ (entsAt_lit w2 (oop, os) (.slice oa os.length oc) _ (HS.out.chg K2.out (fun _ _ e => e))))
  have K3 := Lib.hid (K2.out.alloc (.cells #[.int .i64 oop, .slice oa os.length oc] 36))
  clear pb HNM K2
  go_wp2_with fail
  (with_reducible refine (MA2.out).mono ?_)
  rintro e w4 ⟨r, rfl, _, k4⟩
  have K4 := Lib.hid (K3.out.trans k4)
  clear k4 MA2 K3 p0 p1
  cases r with
  | true =>
    go_wp2
    go_ret
    exact ⟨rfl, K0.out.trans K4.out⟩
  | false =>
  have ka := chg_alloc (fun _ => False) w4 (.cells #[.slice ca c.length ccap, .slice da d.length dcap] 34)
  have LA := Lib.hid (large16_any _ (.slice ra R.length rcap) _ R b [c, d] _ _ (rules_up HR.out (K4.out.trans ka)) (setsAt_two w4 ca da c.length ccap d.length dcap _ c d (HC.out.chg K4.out (fun _ _ e => e)).at_ (HD.out.chg K4.out (fun _ _ e => e)).at_))
  have K5 := Lib.hid (K4.out.trans ka)
  clear ka K4
  go_wp2_with fail
  (with_reducible refine (LA.out).mono ?_)
  rintro e w6 ⟨r, rfl, hr, k6⟩
  have HNL := Lib.hid hr
  have K6 := Lib.hid (K5.out.trans k6)
  clear hr k6 LA K5
  cases r with
  | true =>
    go_wp2
    go_ret
    exact ⟨rfl, K0.out.trans K6.out⟩
  | false =>
  have NL := Lib.hid (HNL.out rfl)
  clear HNL
  have LM := Lib.hid (large16_any w6 (.slice ma M.length mcap) (.slice none 0 0) M 1 [] (fun _ => False) _ (rules_up HM.out K6.out) (setsAt_nil _ _))
  go_wp2_with fail
  (with_reducible refine (LM.out).mono ?_)
  rintro e w7 ⟨r, rfl, hr, k7⟩
  have HML := Lib.hid hr
  have K7 := Lib.hid (K6.out.trans k7)
  clear hr k7 LM K6
  cases r with
  | true =>
    go_wp2
    go_ret
    exact ⟨rfl, K0.out.trans K7.out⟩
  | false =>
  have NM := Lib.hid (HML.out rfl)
  clear HML
  by_cases h10 : 10 < L.length
  · have g1 : decide (10 < (L.length : Int)) = true := decide_eq_true (by omega)
    clear h10
    go_wp2
    go_ret
    exact ⟨rfl, K0.out.trans K7.out⟩
  have g1 : decide (10 < (L.length : Int)) = false := decide_eq_false (by omega)
  by_cases h12 : 12 < M.length
  · have g2 : decide (12 < (M.length : Int)) = true := decide_eq_true (by omega)
    clear h12
    go_wp2
    go_ret
    exact ⟨rfl, K0.out.trans K7.out⟩
  have g2 : decide (12 < (M.length : Int)) = false := decide_eq_false (by omega)
  have FEW := Lib.hid (fewOf NL.out)
  have hcl : c.length ≤ 30 := (NL.out.sets c (by simp)).1
  have hdl : d.length ≤ 30 := (NL.out.sets d (by simp)).1
  have ZC := Lib.hid (setOk_sizes (NL.out.sets c (by simp)))
  have ZD := Lib.hid (setOk_sizes (NL.out.sets d (by simp)))
  have hM12 : M.length ≤ 12 := by omega
  have SM := Lib.hid (small_of NM.out (by omega))
  have N1 := Lib.hid (lnew_any w7 _ L _ (HE.out.chg K7.out (fun _ _ e => e)) (by omega))
  clear NM h10 h12
  by_cases h0 : newE [] L = 0
  · have LOK := Lib.hid (show LOk L from by have := newE_ok L [] LOk.nil h0; rwa [List.nil_append] at this)
    have H0 := Lib.hid h0
    clear h0
    go_wp2_with fail
    (with_reducible refine (N1.out).mono ?_)
    rintro e w8 ⟨hq, _, k8⟩
    obtain ⟨b1, rfl, hb1, hl⟩ := hq H0.out
    have hb8 := hl.lt
    have LT8 := Lib.hid hl
    have K8 := Lib.hid (K7.out.trans k8)
    have hs7 : w0.heap.size ≤ w7.heap.size := K7.out.size
    clear hq k8 hl N1 K7
    go_wp2
    go_loopw [74] (fun iv wr => ∃ k : Nat, k ≤ L.length ∧ iv = .int .i64 k ∧ Hid (Chg (fun _ => False) w8 wr)) (fun iv _ => L.length - (intOf iv).toNat)
    case atStart => exact ⟨0, by omega, rfl, Lib.hid (Chg.refl _ _)⟩
    case round =>
      obtain ⟨k, hk, rfl, HI⟩ := hrel
      by_cases hlt : k < L.length
      · obtain ⟨x, hx⟩ : ∃ x, L[k]? = some x := ⟨_, List.getElem?_eq_getElem hlt⟩
        obtain ⟨g, o, sa, sc, rfl, _, d0, d1, hs⟩ := (HE.out.chg (K8.out.trans HI.out) (fun _ _ e => e)).get hx
        have ka := chg_alloc (fun _ => False) wr (.cells #[.int .i64 x.1, .slice sa x.2.length sc] 36)
        have hs2 := (hs.chg ka (fun _ _ e => e)).at_
        have FP := fitsP_any (wr.alloc (.cells #[.int .i64 x.1, .slice sa x.2.length sc] 36)) (.slice none 0 0) _ _ [] x.2 x.2 1 _ _ (rulesAt_nil _ _) (.inl ⟨by simp, by simp⟩) hs2 hs2
        rw [fits_own (entB_iff.1 (LOK.out.may x (List.mem_of_getElem? hx))).2] at FP
        have FP := Lib.hid FP
        have KA := Lib.hid (HI.out.trans ka)
        clear hs hs2 hx HI ka
        obtain ⟨oq, s⟩ := x
        simp only at d0 d1 FP KA
        go_wp2_with fail
        (with_reducible refine (FP.out).mono ?_)
        rintro e w9 ⟨rfl, k9⟩
        have K9 := Lib.hid (KA.out.trans k9)
        clear k9 FP KA d0 d1
        go_wp2
        go_roundw
        case rel => exact ⟨k + 1, by omega, by go_num, K9⟩
        case measure => simp [intOf]; omega
      · obtain rfl : k = L.length := by omega
        have LTR := Lib.hid (LT8.out.chg HI.out (fun e => e) (fun _ _ e => e))
        have hsz8 : w8.heap.size ≤ wr.heap.size := HI.out.size
        have KR := Lib.hid (K8.out.trans HI.out)
        clear HI LT8 K8
        have AK := Lib.hid (ask_any wr b1 _ L 0 _ _ R c op b _ _ LTR.out (by omega) (rules_up HR.out KR.out) FEW.out (HC.out.chg KR.out (fun _ _ e => e)).at_)
        by_cases hbad : askBad R b c op = 0
        · obtain ⟨_, hb1', hR4, hcb⟩ := askBad_of (R' := R) (c' := c) hbad (by have := ba_len (b := b) (n := R.length) (ok := true) (by unfold askBad at hbad; split at hbad <;> (try split at hbad) <;> first | exact hbad | simp at hbad); omega) (by
            unfold askBad at hbad
            cases q : setB c with
            | true => rfl
            | false => rw [q] at hbad; simp at hbad)
          have SR := Lib.hid (small_of NL.out hR4)
          have hR12 : R.length ≤ 12 := by rcases NL.out.few with q | q <;> omega
          by_cases ha : (askGo R b c op 0 0 L).1 = 1
          · have av := askV_yes (L := L) hbad
            rw [ha] at av
            rw [av] at AK
            simp only at AK
            obtain ⟨x, hx, hxo, hxf⟩ := ask_in ha
            have A2 := Lib.hid (show ∃ i j, askV (M ++ R) b c op L = (i, j, 0) ∧ (i == 0) = false from
              ⟨_, _, askV_yes (askBad_of hbad (by rw [List.length_append]; omega) hcb).1, beq_eq_false_iff_ne.2 (ask_ne0 hx hxo (fit_more hb1' (fun y hy => List.mem_append_right _ hy) hxf))⟩)
            have A3 := Lib.hid (fun m (hm : setB m = true) (hcm : ∀ x ∈ c, x ∈ m) => show ∃ j, askV R b m op L = (1, j, 0) from
              ⟨(askGo R b m op 0 0 L).2, by rw [askV_yes (askBad_of hbad (by omega) hm).1, ask_one hx hxo (fit_words hcm hxf)]⟩)
            have A4 := Lib.hid (show ∃ j, askV R b c op (addL (oop, os) L) = (1, j, 0) from
              ⟨(askGo R b c op 0 0 (addL (oop, os) L)).2, by rw [askV_yes hbad, ask_one (addL_mem hx) hxo hxf]⟩)
            clear ha av hbad hx hxo hxf hcb
            go_wp2_with fail
            (with_reducible refine (AK.out).mono ?_)
            rintro e w9 ⟨rfl, k9⟩
            have L9 := Lib.hid (LTR.out.chg k9 (fun e => e) (fun _ _ e => e))
            have K9 := Lib.hid (KR.out.trans k9)
            have hsz9 : wr.heap.size ≤ w9.heap.size := k9.size
            clear k9 AK LTR KR
            go_wp2_with (at_builtin; refine wpList_pushS rfl (.tmp 111) (.tmp 112) 48 rfl 68 2 32 Try.underlying48 Try.elemRule w9.heap.size _ 0 [] rfl (own_empty _ _ _ _ (Nat.le_refl _)) ma M.length mcap (ruleCells M) rfl ?a1 ?a2 ?a3 ?a4 ?a5 ?a6 ?a7 ?nx1)
            case a1 => exact ruleCells_length M
            case a2 => exact rules_src (rules_up HM.out (K9.out.alloc _))
            case a3 => intro e; exact MN.out _ _ (by rw [e])
            case a4 => exact ruleCells_one M
            case a5 => omega
            case a6 => unfold maxLen; omega
            case a7 => simp
            intro v10 w10 o10 g10
            obtain ⟨a10, c10, rfl⟩ := own_shape o10
            have k10 : Chg (fun _ => False) w9 w10 := (chg_alloc (fun _ => False) w9 (.cells #[] 68)).next (Chg.of_grown g10) (fun x hx e => by
              have e2 : w9.heap.size = x := by simpa [Value.ownBlock] using e
              omega)
            have O10 := Lib.hid (show w10.ownsRow w9.heap.size 68 2 (.slice a10 M.length c10) M.length (ruleCells M) from by simpa using o10)
            have K10 := Lib.hid k10
            have hs10 := k10.size
            clear o10 g10 k10
            go_wp2_with (at_builtin; refine wpList_pushS rfl (.tmp 113) (.tmp 114) 48 rfl 68 2 32 Try.underlying48 Try.elemRule w9.heap.size _ M.length (ruleCells M) rfl O10.out ra R.length rcap (ruleCells R) rfl ?b1 ?b2 ?b3 ?b4 ?b5 ?b6 ?b7 ?nx2)
            case b1 => exact ruleCells_length R
            case b2 => exact rules_src (rules_up HR.out (K9.out.trans K10.out))
            case b3 => intro e; exact RN.out _ _ (by rw [e])
            case b4 => exact ruleCells_one R
            case b5 => omega
            case b6 => unfold maxLen; omega
            case b7 => omega
            intro v11 w11 o11 g11
            have k11 : Chg (fun _ => False) w9 w11 := K10.out.next (Chg.of_grown g11) (fun x hx e => by have := (O10.out.lt x e).1; omega)
            have SMR : ∀ r ∈ M ++ R, r.1.size ≤ 100 ∧ r.2.size ≤ 100 := fun r hr => by
              rcases List.mem_append.1 hr with q | q
              · exact SM.out r q
              · exact SR.out r q
            have hro : RulesAt w11 v11 (· < w11.heap.size) (M ++ R) := rulesAt_own (by rw [List.length_append, ruleCells_append]; exact o11) (fun r hr => by have := SMR r hr; unfold maxLen; omega)
            have L11 := Lib.hid (L9.out.chg k11 (fun e => e) (fun _ _ e => e))
            have K11 := Lib.hid (K9.out.trans k11)
            obtain ⟨i2, j2, av2, hi2⟩ := A2.out
            have AK2 := ask_any w11 b1 _ L 0 _ _ (M ++ R) c op b _ _ L11.out (by omega) hro (.inl ⟨by rw [List.length_append]; omega, fun r hr => by have := SMR r hr; omega⟩) (HC.out.chg K11.out (fun _ _ e => e)).at_
            rw [av2] at AK2
            simp only at AK2
            obtain ⟨a11, c11, rfl⟩ := own_shape o11
            have AK2 := Lib.hid AK2
            have hsz11 : w9.heap.size ≤ w11.heap.size := k11.size
            clear o11 g11 k11 hro SMR av2 A2 K10 O10 K9 L9
            go_wp2_with fail
            (with_reducible refine (AK2.out).mono ?_)
            rintro e w12 ⟨rfl, k12⟩
            have L12 := Lib.hid (L11.out.chg k12 (fun e => e) (fun _ _ e => e))
            have K12 := Lib.hid (K11.out.trans k12)
            have hsz12 : w11.heap.size ≤ w12.heap.size := k12.size
            have AN := Lib.hid (and_any w12 _ _ c d _ _ (HC.out.chg K12.out (fun _ _ e => e)) (HD.out.chg K12.out (fun _ _ e => e)) ZC.out ZD.out hcl hdl)
            clear k12 AK2 L11 K11
            go_wp2_with fail
            (with_reducible refine (AN.out).mono ?_)
            rintro e w13 ⟨xa, xn, xc, k, rfl, hk0, k13⟩
            have L13 := Lib.hid (L12.out.chg k13 (fun e => e) (fun _ _ e => e))
            have K13 := Lib.hid (K12.out.trans k13)
            have hsz13 : w12.heap.size ≤ w13.heap.size := k13.size
            have HK := Lib.hid hk0
            clear k13 AN L12 K12 hk0
            by_cases hk : k = 0
            case' pos =>
              subst hk
              obtain ⟨m, wa, sb, hcm⟩ := HK.out rfl
              obtain ⟨j3, av3⟩ := A3.out m sb hcm
              have AK3 := ask_any w13 b1 _ L 0 _ _ R m op b _ _ L13.out (by omega) (rules_up HR.out K13.out) FEW.out wa
              rw [av3] at AK3
              simp only at AK3
              have AK3 := Lib.hid AK3
              obtain ⟨_, _, ew, _, _⟩ := wa
              cases ew
              clear av3 sb hcm A3 HK
              go_wp2_with fail
              (with_reducible refine (AK3.out).mono ?_)
              rintro e w14 ⟨rfl, k14⟩
              have L14 := Lib.hid (L13.out.chg k14 (fun e => e) (fun _ _ e => e))
              have K14 := Lib.hid (K13.out.trans k14)
              have hsz14 : w13.heap.size ≤ w14.heap.size := k14.size
              clear k14 AK3 L13 K13
            case' neg =>
              have m0 : (k == 0) = false := beq_eq_false_iff_ne.2 hk
              clear A3 HK hk
              have L14 := Lib.hid L13.out
              have K14 := Lib.hid K13.out
              have hsz14 : w13.heap.size ≤ w13.heap.size := Nat.le_refl _
              clear L13 K13
              obtain ⟨w14, hw14⟩ : ∃ x, x = w13 := ⟨_, rfl⟩
              subst hw14
            all_goals
              have pb := K14.out.obj (fun e => e) PB.out
              have p0 := cell_of (o := 0) pb rfl
              have p1 := cell_of (o := 1) pb rfl
              have AD := Lib.hid (add_any _ b1 _ (oop, os) L 0 oa os.length oc _ _ L14.out (by omega) (HS.out.chg K14.out (fun _ _ e => e)))
              have F4 := Lib.hid (LOK.out.add (x := (oop, os))).few
              obtain ⟨j4, av4⟩ := A4.out
              clear pb
              go_wp2_with fail
              (with_reducible refine (AD.out).mono ?_)
              rintro e w15 ⟨rfl, hl15, k15⟩
              have K15 := Lib.hid (K14.out.next k15 (fun x hx e => by omega))
              have AK4 := ask_any w15 b1 _ (addL (oop, os) L) _ _ _ R c op b _ _ hl15 (by have := F4.out; omega) (rules_up HR.out K15.out) FEW.out (HC.out.chg K15.out (fun _ _ e => e)).at_
              rw [av4] at AK4
              simp only at AK4
              have AK4 := Lib.hid AK4
              clear k15 hl15 AD av4 A4 p0 p1 K14 L14
              go_wp2_with fail
              (with_reducible refine (AK4.out).mono ?_)
              rintro e w16 ⟨rfl, k16⟩
              have K16 := Lib.hid (K15.out.trans k16)
              clear k16 AK4 K15
              go_wp2
              go_ret
              exact ⟨rfl, K0.out.trans K16.out⟩
          · have m0 : ((askGo R b c op 0 0 L).1 != 1) = true := by rw [bne_iff_ne]; exact ha
            rw [askV_yes hbad] at AK
            simp only at AK
            clear ha hbad
            generalize askGo R b c op 0 0 L = av at *
            go_wp2_with fail
            (with_reducible refine (AK.out).mono ?_)
            rintro e w9 ⟨rfl, k9⟩
            have K9 := Lib.hid (KR.out.trans k9)
            clear k9 AK
            go_wp2
            go_ret
            exact ⟨rfl, K0.out.trans K9.out⟩
        · rw [askV_no hbad] at AK
          simp only at AK
          generalize askBad R b c op = k at *
          go_wp2_with fail
          (with_reducible refine (AK.out).mono ?_)
          rintro e w9 ⟨rfl, k9⟩
          have K9 := Lib.hid (KR.out.trans k9)
          clear k9 AK
          go_wp2
          go_ret
          exact ⟨rfl, K0.out.trans K9.out⟩
  · have H0 := Lib.hid h0
    clear h0
    go_wp2_with fail
    (with_reducible refine (N1.out).mono ?_)
    rintro e w8 ⟨_, hq, k8⟩
    have e8 := hq H0.out
    subst e8
    have K8 := Lib.hid (K7.out.trans k8)
    clear hq k8 N1 K7
    go_wp2
    go_ret
    exact ⟨rfl, K0.out.trans K8.out⟩
end Go.Proofs.Ytbjdndialiddpaa
