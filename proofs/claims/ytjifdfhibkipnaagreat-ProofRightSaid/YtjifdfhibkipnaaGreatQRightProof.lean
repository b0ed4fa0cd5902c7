/-
  ProofRight, walked.
  What is made is right, and looked through on its own it is found so.
-/
import Derived.Test.YtjifdfhibkipnaaGreatQPArg
import Derived.Test.YtjifdfhibkipnaaGreatQRRun
import Derived.Test.YtjifdfhibkipnaaGreatQRChk
import Derived.SizedLaws
namespace Go.Proofs.YtjifdfhibkipnaaGreat
open Go.RowKit Go.Maps

theorem anewS_fst (roots : Int) (B : List Nat) (g : Nat → Nat) (s : Int × Int) : (anewS roots B g s).1 = s.1 := by
  unfold anewS
  split <;> rfl
theorem cut_fit {roots : Nat} {C : List BCert} {p : BProof} (h : CutOk roots C p) (hf : ProofFit p) (hC : ∀ c ∈ C, c.fr.length ≤ 1000) (hI : (cutE roots C p).items.length ≤ 1000) (hr : roots ≤ 1000) : ProofFit (cutE roots C p) := by
  have hq := cut_ok13 h
  have tb : ∀ k, k ≤ (cutE roots C p).items.length → tot C (cutE roots C p).items k ≤ 1000000 := fun k hk => Nat.le_trans (tot_bound hC _ k) (by have := Nat.mul_le_mul_right 1000 (Nat.le_trans hk hI); omega)
  refine ⟨fun y hy => ?_, fun s hs => ⟨?_, ?_⟩⟩
  · obtain ⟨k, hk⟩ := List.mem_iff_getElem?.1 hy
    have hkl := (List.getElem?_eq_some_iff.1 hk).1
    obtain ⟨i, x, hx, _, rfl, _⟩ := cut_get hk
    have hxf := hf.items x (List.mem_of_getElem? hx)
    refine ⟨hxf.1, fun l hl s hs => ⟨?_, ?_⟩⟩
    · obtain ⟨l0, hl0, rfl⟩ := List.mem_map.1 hl
      obtain ⟨s0, hs0, rfl⟩ := List.mem_map.1 hs
      rw [anewS_fst]
      exact (hxf.2 l0 hl0 s0 hs0).1
    · obtain ⟨h1, h2⟩ := hq.stands hk hl hs
      have := tb k (Nat.le_of_lt hkl)
      unfold Fit64
      omega
  · rw [cut_steps] at hs
    obtain ⟨s0, hs0, rfl⟩ := List.mem_map.1 hs
    rw [anewS_fst]
    exact (hf.steps s0 hs0).1
  · obtain ⟨h1, h2⟩ := hq.lasts hs
    have := tb _ (Nat.le_refl _)
    unfold Fit64
    omega
theorem step_ne {C : List BCert} {b : Int} {s : ASt} {i : Nat} {k : Int} (h : stepE C b s i = .error k) : k ≠ 0 := by
  unfold stepE at h
  split at h
  · cases h
  · split at h
    · cases h
    · split at h
      · split at h <;> cases h
      · rename_i hb
        cases h
        exact hb
theorem pass_ne {C : List BCert} {b : Int} {s : ASt} {k : Int} : ∀ {n : Nat}, passE C b s n = .error k → k ≠ 0
  | 0, h => by cases h
  | n + 1, h => by
    unfold passE at h
    split at h
    · rename_i e he
      cases h
      exact pass_ne he
    · exact step_ne h
theorem run_ne {C : List BCert} {b : Int} {k : Int} : ∀ {f : Nat} {s : ASt}, runE C b f s = .error k → k ≠ 0
  | 0, s, h => by cases h
  | f + 1, s, h => by
    unfold runE at h
    split at h
    · rename_i e he
      cases h
      exact pass_ne he
    · split at h
      · cases h
      · exact run_ne h
theorem accept_ne {R : List BRul} {C : List BCert} {b : Int} {k : Int} (h : acceptE R C b = .error k) : k ≠ 0 := by
  unfold acceptE at h
  split at h
  · exact run_ne h
  · rename_i hr
    cases h
    exact hr
theorem makeE_bad {R : List BRul} {C : List BCert} {x u : ByteArray} {b : Int} (h : (makeE R C x u b).1 ≠ 0) : (makeE R C x u b).2 = ⟨[], []⟩ := by
  unfold makeE at h ⊢
  cases hacc : acceptE R C b with
  | error k => rfl
  | ok s =>
    rw [hacc] at h
    simp only at h ⊢
    split
    · split
      · rename_i h1 h2
        rw [if_pos h1, if_pos h2] at h
        exact absurd rfl h
      · rfl
    · rfl
theorem makeE_zero {R : List BRul} {C : List BCert} {x u : ByteArray} {b : Int} (h : (makeE R C x u b).1 = 0) : ∃ s, acceptE R C b = .ok s ∧ tellPE s.rules x u b = 0 ∧ makeE R C x u b = (0, cutE R.length C (wholeM R C b s x u)) := by
  cases hacc : acceptE R C b with
  | error k =>
    rw [makeE_err hacc] at h
    exact absurd h (accept_ne hacc)
  | ok s =>
    by_cases ht : tellPE s.rules x u b = 0
    · exact ⟨s, rfl, ht, makeE_yes hacc ht⟩
    · rw [makeE_tell hacc ht] at h
      exact absurd h ht
/-- What is made. -/
structure Made (R : List BRul) (C : List BCert) (x u : ByteArray) (s : ASt) (Q : BProof) : Prop where
  right : Right13 R C Q x u
  fit : ProofFit Q
  same : cutE R.length C Q = Q
  items : Q.items.length ≤ 1000
  steps : Q.steps.length ≤ 1000000
  paths : ∀ y ∈ Q.items, y.paths.length ≤ 1000 ∧ ∀ l ∈ y.paths, l.length ≤ 1000000
  has : ∀ y ∈ Q.items, y.cert.toNat ∈ s.order ∧ 0 ≤ y.cert
theorem made_of {R : List BRul} {C : List BCert} {x u : ByteArray} {b : Int} {s : ASt} (hacc : acceptE R C b = .ok s) (ht : tellPE s.rules x u b = 0) (hC : C.length ≤ 1000) (hF : ∀ c ∈ C, c.fr.length ≤ 1000) (hR : R.length ≤ 1000) : Made R C x u s (cutE R.length C (wholeM R C b s x u)) := by
  have hw := make_right (x := x) (u := u) hacc ht
  obtain ⟨f1, f2, f3, f4⟩ := wholeM_fit (accept_fin hacc).1.inv hC hF x u
  obtain ⟨t1, t2, t3⟩ := cut_sizes (roots := R.length) (C := C) f2 f3 f4
  exact ⟨hw.cut, cut_fit hw.cutOk f1 hF t1 hR, cut_twice hw.cutOk, t1, t2, t3, fun y hy => ⟨(right_sound hacc hw.cut).1 y hy, by
    obtain ⟨k, hk⟩ := List.mem_iff_getElem?.1 hy
    exact (hw.cut.cutOk.cert hk).1⟩⟩
set_option maxHeartbeats 8000000 in
set_option maxRecDepth 100000 in
theorem right_law (w : World) (v u : Value) (x y : ByteArray) (n : Int) (R : List BRul) (P : List (BCert × Value)) (_ : x.size ≤ maxLen) (_ : y.size ≤ maxLen) (hv : RulesArg w v R) (hrf : RulesFit R) (hca : CertsArg w u P) (_ : CertsFit P) :
    Calls Tryz.prog 6 #[v, u, .string x, .string y, .int .i64 n] w fun e w' => e = .returned (.bool true) ∧ Chg (fun _ => False) w w' := by
  have hu := hca.at_
  obtain ⟨ra, rc, rfl, hl0, _⟩ := hv.at_
  have HV := Lib.hid hv
  have HU := Lib.hid hu
  have HRF := Lib.hid hrf
  obtain ⟨la, cap, rfl, hu0, _⟩ := hu
  have AW := Lib.hid (awake13_any w)
  have LG := Lib.hid (fun w0 w1 (k : Chg (fun _ => False) w w0) (k2 : Chg (fun _ => False) w0 w1) lv L h hL => large13_any w0 w1 ra R rc _ P n lv L ((HV.out.at_.chg k (fun _ _ e => e)).imp (fun j hj => Nat.lt_of_lt_of_le hj k.size)) ((HU.out.chg k (fun _ _ e => e)).up (fun j hj => Nat.lt_of_lt_of_le hj k.size)) h k2 hL)
  clear hv hl0 hu0 hca hrf
  go_enter Tryz.func6, Tryz.ntmps6
  go_wp2_with fail
  (with_reducible refine (AW.out).mono ?_)
  rintro e w1 ⟨rfl, k1⟩
  have K1 := Lib.hid k1
  have kl := chg_alloc (fun _ => False) w1 (.cells #[.string x, .string y] 24)
  have L1 := Lib.hid (LG.out w1 _ k1 kl _ [x, y] (own_two w1 x y) (by simp))
  clear AW LG k1 kl
  go_wp2_with fail
  generalize w1.alloc (.cells #[.string x, .string y] 24) = w2 at *
  (with_reducible refine (L1.out).mono ?_)
  rintro e w3 ⟨lg, rfl, k3, hlg⟩
  have K3 := Lib.hid (K1.out.trans k3)
  clear L1 k3 K1
  cases lg with
  | true =>
    go_wp2
    go_ret
    exact ⟨rfl, K3.out⟩
  | false =>
  have FIT := Lib.hid (hlg rfl)
  clear hlg
  have hx1 : x.size ≤ 140737488355328 := by have := FIT.out.more x (by simp); omega
  have hxs : x.size ≤ maxLen := by have := FIT.out.more x (by simp); unfold maxLen; omega
  have hys : y.size ≤ maxLen := by have := FIT.out.more y (by simp); unfold maxLen; omega
  have hF : ∀ c ∈ certsOf P, c.fr.length ≤ 1000 := fun c hc => by have := (FIT.out.cert c hc).2.1; omega
  have hcs : ∀ c ∈ certsOf P, c.sp.size ≤ 140737488355328 ∧ Sizes c.fr := fun c hc => ⟨by have := (FIT.out.cert c hc).1; omega, fun z hz => by have := (FIT.out.cert c hc).2.2 z hz; omega⟩
  have hr12 := FIT.out.rules
  have RUNA := Lib.hid (fun (W : World) (k : Chg (fun _ => False) w W) => FIT.out.run HV.out HRF.out HU.out k)
  have ARGS := Lib.hid (fun (W : World) (k : Chg (fun _ => False) w W) => FIT.out.args HV.out HU.out rfl k)
  have M1 := make_any w3 ra R rc _ P _ n x y (RUNA.out w3 K3.out) hxs hys hF
  by_cases hk : (makeE R (certsOf P) x y n).1 = 0
  rotate_left
  · as_aux_lemma =>
    have hb := makeE_bad hk
    generalize makeE R (certsOf P) x y n = q at *
    obtain ⟨qk, Q⟩ := q
    simp only at hk hb
    subst hb
    have MM1 := Lib.hid M1
    have g1 : (qk != 0) = true := by rw [bne_iff_ne]; exact hk
    clear hk M1 RUNA ARGS hF hcs FIT
    go_wp2_with fail
    (with_reducible refine (MM1.out).mono ?_)
    rintro e w4 ⟨k4, iv, sv, rfl, hit, hst⟩
    simp only at hit hst
    obtain ⟨ia, ic, rfl⟩ := hit.shape
    obtain ⟨sa, sc, rfl⟩ := own_shape hst
    have K5 := Lib.hid (K3.out.trans (k4.trans (chg_alloc (fun _ => False) w4 (.cells #[.slice ia 0 ic, .slice sa 0 sc] 30))))
    have ob := obj_alloc_new w4 (.cells #[.slice ia 0 ic, .slice sa 0 sc] 30)
    have c0 := cell_of (o := 0) ob rfl
    have c1 := cell_of (o := 1) ob rfl
    clear hit hst ob k4 MM1
    simp only [List.length_nil]
    go_wp2
    go_ret
    exact ⟨rfl, K5.out⟩
  obtain ⟨s, hacc, htp, hE⟩ := makeE_zero hk
  have MD := made_of (x := x) (u := y) hacc htp (by rw [certsOf_length]; have := FIT.out.certs; rw [certsOf_length] at this; omega) hF (by omega)
  rw [hE] at M1
  have RUN2 := Lib.hid (fun (W : World) (k : Chg (fun _ => False) w W) => rrun_ok (RUNA.out W k) HRF.out.1 hcs hacc)
  generalize cutE R.length (certsOf P) (wholeM R (certsOf P) n s x y) = Q at *
  have M1 := Lib.hid M1
  have MDH := Lib.hid MD
  have hck := check_zero.2 MD.right
  have CK1 := Lib.hid (fun (W : World) (k : Chg (fun _ => False) w W) iv sv (hz : ProofAt W iv sv (· < W.heap.size) Q) => show Calls Tryz.prog 17 #[.slice ra R.length rc, .slice la P.length cap, .agg #[iv, sv], .string x, .string y] W (fun e w' => e = .returned (.int .i64 0) ∧ Chg (fun _ => False) W w') from by
    obtain ⟨a1, a2, a3, a4⟩ := ARGS.out W k
    have := check_any13 W ra R rc _ iv sv P Q x y a1 a2 (by omega) a3 (by omega) hz MDH.out.items hxs
    rwa [hck] at this)
  have CK2 := Lib.hid (fun (W : World) (k : Chg (fun _ => False) w W) iv sv (hz : ProofAt W iv sv (· < W.heap.size) Q) => show Calls Tryz.prog 18 #[.slice ra R.length rc, .slice la P.length cap, .agg #[iv, sv], .string x, .string y] W (fun e w' => e = .returned (.int .i64 0) ∧ Chg (fun _ => False) W w') from by
    obtain ⟨a1, a2, a3, a4⟩ := ARGS.out W k
    have := rcheck13_any W ra R rc _ iv sv P Q x y a1 a2 (by omega) a3 hz MDH.out.items MDH.out.fit HRF.out.1 hcs hx1
    rwa [hck] at this)
  have CUT := Lib.hid (fun (W : World) (k : Chg (fun _ => False) w W) iv sv (hz : ProofAt W iv sv (· < W.heap.size) Q) => cut_any W R.length _ iv sv P Q _ _ (ARGS.out W k).2.2.1 hz (fun _ e => e) MDH.out.fit MDH.out.items hF MDH.out.steps MDH.out.paths)
  have HCO := Lib.hid MD.right.cutOk
  have SAME := Lib.hid MD.same
  have HAS := Lib.hid (fun (k : Nat) (z : BItem) (hz : Q.items[k]? = some z) => MDH.out.has z (List.mem_of_getElem? hz))
  have QI := MD.items
  clear MD MDH hck hk hacc htp hE hF hcs RUNA ARGS FIT HU HV HRF
  go_wp2_with fail
  (with_reducible refine (M1.out).mono ?_)
  rintro e w4 ⟨k4, iv, sv, rfl, hit, hst⟩
  simp only at hit hst
  obtain ⟨ia, ic, rfl⟩ := hit.shape
  obtain ⟨sa, sc, rfl⟩ := own_shape hst
  have hq : ProofAt w4 (.slice ia Q.items.length ic) (.slice sa Q.steps.length sc) (· < w4.heap.size) Q := ⟨hit.up (fun k hk => hk.2), (stepsN_own hst).up (fun k hk => (hst.lt k hk).2)⟩
  have kb := chg_alloc (fun _ => False) w4 (.cells #[.slice ia Q.items.length ic, .slice sa Q.steps.length sc] 30)
  have ob := obj_alloc_new w4 (.cells #[.slice ia Q.items.length ic, .slice sa Q.steps.length sc] 30)
  have FB := Lib.hid (fun (W : World) (k : Chg (fun _ => False) (w4.alloc (.cells #[.slice ia Q.items.length ic, .slice sa Q.steps.length sc] 30)) W) => And.intro (show W.cell? ⟨w4.heap.size, 0, none⟩ = some (.slice ia Q.items.length ic) from cell_of (o := 0) (k.obj (fun e => e) ob) rfl) (show W.cell? ⟨w4.heap.size, 1, none⟩ = some (.slice sa Q.steps.length sc) from cell_of (o := 1) (k.obj (fun e => e) ob) rfl))
  have HQ := Lib.hid (fun (W : World) (k : Chg (fun _ => False) (w4.alloc (.cells #[.slice ia Q.items.length ic, .slice sa Q.steps.length sc] 30)) W) => hq.later (kb.trans k) (fun _ e => e.elim))
  have K5 := Lib.hid ((K3.out.trans k4).trans kb)
  clear M1 k4 hit hst hq kb ob K3
  go_wp2_with fail
  generalize w4.alloc (.cells #[.slice ia Q.items.length ic, .slice sa Q.steps.length sc] 30) = w5 at *
  generalize w4.heap.size = b5 at *
  obtain ⟨c0, c1⟩ := FB.out w5 (Chg.refl _ _)
  have C1 := Lib.hid (CK1.out w5 K5.out _ _ (HQ.out _ (Chg.refl _ _)))
  clear CK1
  go_wp2_with fail
  clear c0 c1
  (with_reducible refine (C1.out).mono ?_)
  rintro e w6 ⟨rfl, k6⟩
  have E6 := Lib.hid k6
  have C2 := Lib.hid (CK2.out w6 (K5.out.trans k6) _ _ (HQ.out _ k6))
  obtain ⟨c0, c1⟩ := FB.out w6 k6
  clear C1 k6 CK2
  go_wp2_with fail
  clear c0 c1
  (with_reducible refine (C2.out).mono ?_)
  rintro e w7 ⟨rfl, k7⟩
  have E7 := Lib.hid (E6.out.trans k7)
  have R2 := Lib.hid (RUN2.out w7 (K5.out.trans E7.out))
  clear C2 k7 E6 RUN2
  go_wp2_with fail
  (with_reducible refine (R2.out).mono ?_)
  rintro e w8 ⟨oa, va, oc, vc, rfl, hoo, hor, k8⟩
  have kr := chg_alloc (fun _ => False) w8 (.cells #[.slice oa s.order.length oc, .slice va s.rules.length vc] 50)
  have or := obj_alloc_new w8 (.cells #[.slice oa s.order.length oc, .slice va s.rules.length vc] 50)
  have OO := Lib.hid (own_chg hoo kr (fun _ _ e => e))
  have ORH := Lib.hid or
  have E9 := Lib.hid ((E7.out.trans k8).trans kr)
  clear R2 k8 hoo hor kr or E7
  go_upto_region 13 with fail
  generalize w8.alloc (.cells #[.slice oa s.order.length oc, .slice va s.rules.length vc] 50) = w9 at *
  generalize w8.heap.size = b8 at *
  obtain ⟨c0, c1⟩ := FB.out w9 E9.out
  go_wp2
  clear c0 c1
  go_loopw [77] (fun iv wr => ∃ k : Nat, k ≤ Q.items.length ∧ iv = .int .i64 k ∧ Hid (Chg (fun _ => False) w9 wr)) (fun iv _ => Q.items.length - (intOf iv).toNat)
  case atStart => exact ⟨0, by omega, rfl, Lib.hid (Chg.refl _ _)⟩
  case round =>
    obtain ⟨k, hk, rfl, KC⟩ := hrel
    by_cases hlt : k < Q.items.length
    · as_aux_lemma =>
      have g1 : decide ((k : Int) < (Q.items.length : Int)) = true := decide_eq_true (by omega)
      have g1' : decide (k < Q.items.length) = true := decide_eq_true hlt
      obtain ⟨z, hz⟩ : ∃ z, Q.items[k]? = some z := ⟨_, List.getElem?_eq_getElem hlt⟩
      obtain ⟨_, _, e1, _, hcl⟩ := (HQ.out wr (E9.out.trans KC.out)).items
      cases e1
      obtain ⟨lb, lo, pv, rfl, _, j0, j1, hpv⟩ := hcl k _ hz
      obtain ⟨pa, pc, rfl⟩ := hpv.shape
      clear hpv
      obtain ⟨hh1, hh2⟩ := HAS.out k z hz
      obtain ⟨cert, paths⟩ := z
      simp only at j0 j1 hh1 hh2
      obtain ⟨c, rfl⟩ : ∃ c : Nat, cert = (c : Int) := ⟨cert.toNat, by omega⟩
      rw [Int.toNat_natCast] at hh1
      have kx := chg_alloc (fun _ => False) wr (.cells #[.int .i64 (c : Int), .slice pa paths.length pc] 43)
      have ox := obj_alloc_new wr (.cells #[.int .i64 (c : Int), .slice pa paths.length pc] 43)
      have HC := has12_own (va := va) (vn := s.rules.length) (vc := vc) (own_chg OO.out (KC.out.trans kx) (fun _ _ e => e)) c (c : Int) rfl
      rw [decide_eq_true hh1] at HC
      have HC := Lib.hid HC
      have o9 := (KC.out.trans kx).obj (fun e => e) ORH.out
      have r0 := cell_of (o := 0) o9 rfl
      have r1 := cell_of (o := 1) o9 rfl
      have x0 := cell_of (o := 0) ox rfl
      have KX := Lib.hid (KC.out.trans kx)
      clear hcl hz kx ox o9 hh1 hh2
      go_wp2_with fail
      generalize wr.alloc (.cells #[.int .i64 (c : Int), .slice pa paths.length pc] 43) = wx at *
      (with_reducible refine (HC.out).mono ?_)
      rintro e w10 ⟨rfl, k10⟩
      have K10 := Lib.hid (KX.out.trans k10)
      clear HC k10 r0 r1 x0 j0 j1
      go_wp2
      go_roundw
      case rel => exact ⟨k + 1, by omega, by go_num, K10⟩
      case measure => simp [intOf]; omega
    · as_aux_lemma =>
      obtain rfl : k = Q.items.length := by omega
      have g1 : decide ((Q.items.length : Int) < (Q.items.length : Int)) = false := decide_eq_false (by omega)
      have g1' : decide (Q.items.length < Q.items.length) = false := decide_eq_false (by omega)
      have EC := Lib.hid (E9.out.trans KC.out)
      obtain ⟨c0, c1⟩ := FB.out wr EC.out
      have CT := Lib.hid (CUT.out wr (K5.out.trans EC.out) _ _ (HQ.out _ EC.out))
      go_wp2_with fail
      clear c0 c1
      (with_reducible refine (CT.out).mono ?_)
      rintro e w10 ⟨k10, hres⟩
      rcases hres with ⟨_, jv, tv, rfl, hit, hst⟩ | ⟨hno, _⟩
      rotate_left
      · exact absurd HCO.out hno
      rw [SAME.out] at hit hst
      obtain ⟨ja, jc, rfl⟩ := hit.shape
      obtain ⟨ta, tc, rfl⟩ := own_shape hst
      have hq2 : ProofAt w10 (.slice ja Q.items.length jc) (.slice ta Q.steps.length tc) (· < w10.heap.size) Q := ⟨hit.up (fun k hk => hk.2), (stepsN_own hst).up (fun k hk => (hst.lt k hk).2)⟩
      have kb := chg_alloc (fun _ => False) w10 (.cells #[.slice ja Q.items.length jc, .slice ta Q.steps.length tc] 30)
      have ob := obj_alloc_new w10 (.cells #[.slice ja Q.items.length jc, .slice ta Q.steps.length tc] 30)
      have SM := Lib.hid (same13_any (w10.alloc (.cells #[.slice ja Q.items.length jc, .slice ta Q.steps.length tc] 30)) _ _ _ _ Q _ _ (HQ.out _ (EC.out.trans (k10.trans kb))) (hq2.later kb (fun _ e => e.elim)))
      have E11 := Lib.hid (EC.out.trans (k10.trans kb))
      obtain ⟨c0, c1⟩ := FB.out _ E11.out
      have d0 := cell_of (o := 0) ob rfl
      have d1 := cell_of (o := 1) ob rfl
      clear CT k10 hit hst hq2 kb ob
      go_wp2_with fail
      (with_reducible refine (SM.out).mono ?_)
      rintro e w12 ⟨rfl, k12⟩
      have K12 := Lib.hid (K5.out.trans (E11.out.trans k12))
      clear c0 c1 d0 d1 k12 SM
      go_wp2
      go_ret
      exact ⟨rfl, K12.out⟩
end Go.Proofs.YtjifdfhibkipnaaGreat

namespace Go.Proofs.YtjifdfhibkipnaaGreat.ProofRightP
open Go.ChangeShapes Go.WideShapes Go.ChangeAt Go.RowKit

set_option maxRecDepth 100000 in
theorem lifted (os : Os) (started : os.Started) (H : Type) (enc : TypeId × Value → H) :
    ReturnsInHanded {} Tryz.checked os 6 .any (Rows.proofRightSpec.pre6 enc Tryz.prog Tryz.f6 Rows.proofRightRow.domain false) (Rows.proofRightSpec.post enc Tryz.prog Tryz.f6 false true false false) := by
  refine returnsInHanded_of_change_sized (C := Tryz.checked) Tryz.own started (by kernel_rfl) Tryz.func6
    (ChangeSpec.witness6 (enc := enc) (C := Tryz.checked) false ⟨#[], #[.slice none 0 0, .slice none 0 0, .string ⟨#[]⟩, .string ⟨#[]⟩, .int .i64 0], []⟩ 8 (by kernel_rfl) (by kernel_rfl) (by kernel_rfl) (by kernel_rfl)) ?_
  intro W base args ds gs before hval0 hW hcnd hsz _
  have hval : ∀ (j : Nat) t v, Tryz.f6.params[j]? = some t → args[j]? = some v → Value.okWide Tryz.prog W .any base t v := hval0
  have hW' := hW
  obtain ⟨p, q, hA0, hV, rfl, hfz, hnd⟩ := hW
  have hA : DataW.TrodAll enc Tryz.prog W 0 (fun _ => true) true Tryz.f6.params.toList args.toList ds p := hA0
  rw [Tryz.params6] at hA hval
  obtain ⟨v0, vs0, d0, ds0, p0, q0, hargs, rfl, rfl, h0, r0⟩ := trodAll_cons hA
  obtain ⟨v1, vs1, d1, ds1, p1, q1, rfl, rfl, rfl, h1, r1⟩ := trodAll_cons r0
  obtain ⟨v2, vs2, d2, ds2, p2, q2, rfl, rfl, rfl, h2, r2⟩ := trodAll_cons r1
  obtain ⟨v3, vs3, d3, ds3, p3, q3, rfl, rfl, rfl, h3, r3⟩ := trodAll_cons r2
  obtain ⟨v4, vs4, d4, ds4, p4, q4, rfl, rfl, rfl, h4, r4⟩ := trodAll_cons r3
  obtain ⟨rfl, rfl, rfl⟩ := trodAll_nil r4
  obtain rfl : args = #[v0, v1, v2, v3, v4] := by cases args; simp_all
  obtain ⟨rfl, rfl⟩ := trodVars_none hV
  have lt0 : ∀ x ∈ p0, x.block < W.heap.size := by obtain ⟨m, hm⟩ := h0; exact DataW.trod_lt m _ _ _ hm
  have lt1 : ∀ x ∈ p1, x.block < W.heap.size := by obtain ⟨m, hm⟩ := h1; exact DataW.trod_lt m _ _ _ hm
  have lt2 : ∀ x ∈ p2, x.block < W.heap.size := by obtain ⟨m, hm⟩ := h2; exact DataW.trod_lt m _ _ _ hm
  have lt3 : ∀ x ∈ p3, x.block < W.heap.size := by obtain ⟨m, hm⟩ := h3; exact DataW.trod_lt m _ _ _ hm
  have lt4 : ∀ x ∈ p4, x.block < W.heap.size := by obtain ⟨m, hm⟩ := h4; exact DataW.trod_lt m _ _ _ hm
  have k0 := h0
  have k1 := h1
  have k2 := h2
  have k3 := h3
  have k4 := h4
  obtain ⟨a0, len0, cap0, rfl⟩ := okWide_slice Tryz.underlying22 (hval 0 22 v0 rfl rfl)
  obtain ⟨l0, hl0, hw0⟩ := rulesArg_of h0
  have hf0 := hw0 (fun x hx => by have := List.all_eq_true.1 hsz x (DataW.weights_mem_each (j := 0) rfl rfl x hx); simpa using this)
  obtain ⟨a1, len1, cap1, rfl⟩ := okWide_slice Tryz.underlying23 (hval 1 23 v1 rfl rfl)
  obtain ⟨l1, hl1, hw1⟩ := certsArg_of h1
  have hf1 := hw1 (fun x hx => by have := List.all_eq_true.1 hsz x (DataW.weights_mem_each (j := 1) rfl rfl x hx); simpa using this)
  obtain ⟨s2, rfl, rfl, rfl, hs2⟩ := ChangeMaps.open_string Tryz.underlying24 (hval 2 24 v2 rfl rfl) h2
  obtain ⟨s3, rfl, rfl, rfl, hs3⟩ := ChangeMaps.open_string Tryz.underlying24 (hval 3 24 v3 rfl rfl) h3
  obtain ⟨n4, rfl, rfl, rfl, wn4⟩ := open_int Tryz.underlying3 (hval 4 3 v4 rfl rfl) h4
  clear hA0 hval0
  refine (right_law W _ _ s2 s3 n4 l0 l1 hs2 hs3 hl0 hf0 hl1 hf1).mono fun e W' ⟨he, hc⟩ => ?_
  subst he
  have bel : Below W.heap.size W W' := hc.below (fun _ _ e => e) (Nat.le_refl _)
  exact ⟨_, rfl, _, _, _, [], _, [], hW', trodAll_mk1 (shut_bool Tryz.underlying4 _), (trodAll_cons_mk (Below.trod Tryz.laidOut (by kernel_rfl) (of_decide_eq_true (by kernel_rfl)) k0 bel lt0) (trodAll_cons_mk (Below.trod Tryz.laidOut (by kernel_rfl) (of_decide_eq_true (by kernel_rfl)) k1 bel lt1) (trodAll_cons_mk (Below.trod Tryz.laidOut (by kernel_rfl) (of_decide_eq_true (by kernel_rfl)) k2 bel lt2) (trodAll_cons_mk (Below.trod Tryz.laidOut (by kernel_rfl) (of_decide_eq_true (by kernel_rfl)) k3 bel lt3) (trodAll_cons_mk (Below.trod Tryz.laidOut (by kernel_rfl) (of_decide_eq_true (by kernel_rfl)) k4 bel lt4) trodAll_mk0))))), rfl, bel.frame _, fun h => by cases h⟩

theorem over : Rows.proofRightRow.holds Tryz.pinned (OpenSpec.ofChange Rows.proofRightSpec) :=
  OpenClaim.holds_of_wide 6 Tryz.f6 rfl rfl rfl rfl rfl rfl rfl ⟨rfl, rfl, rfl, rfl, rfl⟩ rfl rfl rfl rfl rfl (by kernel_rfl) Tryz.func6 (by kernel_rfl)
    (of_decide_eq_true (by kernel_rfl)) (by unfold Func.isWrapper; first | (rw [if_pos (by decide +kernel)]; kernel_rfl) | (rw [if_neg (by decide +kernel)]; exact ⟨rfl, rfl⟩))
    (fun os started H enc _ => lifted os started H enc)
end Go.Proofs.YtjifdfhibkipnaaGreat.ProofRightP
namespace Go.Proofs.YtjifdfhibkipnaaGreat
theorem proofRight_holds : Rows.ProofRightSaid := ProofRightP.over
end Go.Proofs.YtjifdfhibkipnaaGreat
