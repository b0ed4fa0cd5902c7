/-
  ProofCutRight, walked.
-/
import Derived.Test.YtjifdfhibkipnaaGreatQPArg
namespace Go.Proofs.YtjifdfhibkipnaaGreat
open Go.RowKit Go.Maps

set_option maxHeartbeats 8000000 in
set_option maxRecDepth 100000 in
theorem cutright_law (w : World) (v u t : Value) (x y : ByteArray) (R : List BRul) (P : List (BCert × Value)) (p : BProof) (_ : x.size ≤ maxLen) (_ : y.size ≤ maxLen) (hv : RulesArg w v R) (_ : RulesFit R) (hca : CertsArg w u P) (_ : CertsFit P) (hp : ProofArg w t p) :
    Calls Tryz.prog 8 #[v, u, t, .string x, .string y] w fun e w' => e = .returned (.bool true) ∧ Chg (fun _ => False) w w' := by
  have hu := hca.at_
  obtain ⟨ra, rc, rfl, hl0, _⟩ := hv.at_
  have HV := Lib.hid hv
  have HU := Lib.hid hu
  obtain ⟨la, cap, rfl, hu0, _⟩ := hu
  obtain ⟨ia, ic, sa, sc, rfl, hpa, hfit⟩ := hp
  have HP := Lib.hid hpa
  have HF := Lib.hid hfit
  have LG := Lib.hid (fun w0 w1 (k : Chg (fun _ => False) w w0) (k2 : Chg (fun _ => False) w0 w1) lv L h hL => large13_any w0 w1 ra R rc _ P 1 lv L ((HV.out.at_.chg k (fun _ _ e => e)).imp (fun j hj => Nat.lt_of_lt_of_le hj k.size)) ((HU.out.chg k (fun _ _ e => e)).up (fun j hj => Nat.lt_of_lt_of_le hj k.size)) h k2 hL)
  have LO := Lib.hid (fun w1 (k : Chg (fun _ => False) w w1) => long13_any w1 _ _ _ p (HP.out.later k (fun _ e => e.elim)))
  have kb := chg_alloc (fun _ => False) w (.cells #[.slice ia p.items.length ic, .slice sa p.steps.length sc] 30)
  have ob := obj_alloc_new w (.cells #[.slice ia p.items.length ic, .slice sa p.steps.length sc] 30)
  have F7 := Lib.hid (fun (W : World) (k : Chg (fun _ => False) (w.alloc (.cells #[.slice ia p.items.length ic, .slice sa p.steps.length sc] 30)) W) => And.intro (show W.cell? ⟨w.heap.size, 0, none⟩ = some (.slice ia p.items.length ic) from cell_of (o := 0) (k.obj (fun e => e) ob) rfl) (show W.cell? ⟨w.heap.size, 1, none⟩ = some (.slice sa p.steps.length sc) from cell_of (o := 1) (k.obj (fun e => e) ob) rfl))
  have KB := Lib.hid kb
  have il : p.items.length ≤ 9223372036854775807 := by obtain ⟨_, _, _, q, _⟩ := hpa.items; unfold maxLen at q; omega
  clear hv hl0 hu0 hca hpa hfit kb ob
  go_enter Tryz.func8, Tryz.ntmps8
  go_wp2_with fail
  generalize w.alloc (.cells #[.slice ia p.items.length ic, .slice sa p.steps.length sc] 30) = wb at *
  obtain ⟨b7, hb7⟩ : ∃ b7, b7 = w.heap.size := ⟨_, rfl⟩
  rw [← hb7] at F7
  rw [← hb7]
  clear hb7
  have AW := Lib.hid (awake13_any wb)
  (with_reducible refine (AW.out).mono ?_)
  rintro e w1 ⟨rfl, k1⟩
  have E1 := Lib.hid k1
  have kl := chg_alloc (fun _ => False) w1 (.cells #[.string x, .string y] 24)
  have L1 := Lib.hid (LG.out w1 _ (KB.out.trans k1) kl _ [x, y] (own_two w1 x y) (by simp))
  clear AW LG k1 kl
  go_wp2_with fail
  generalize w1.alloc (.cells #[.string x, .string y] 24) = w2 at *
  (with_reducible refine (L1.out).mono ?_)
  rintro e w3 ⟨lg, rfl, k3, hlg⟩
  have E3 := Lib.hid (E1.out.trans k3)
  clear L1 k3 E1
  obtain ⟨q0, q1⟩ := F7.out _ E3.out
  cases lg with
  | true =>
    go_wp2
    go_ret
    exact ⟨rfl, KB.out.trans E3.out⟩
  | false =>
  have FIT := Lib.hid (hlg rfl)
  clear hlg
  have L2 := Lib.hid (LO.out w3 (KB.out.trans E3.out))
  clear LO
  go_wp2_with fail
  (with_reducible refine (L2.out).mono ?_)
  rintro e w4 ⟨lo, rfl, k4, hlo⟩
  have E4 := Lib.hid (E3.out.trans k4)
  clear L2 k4 E3 q0 q1
  obtain ⟨q0, q1⟩ := F7.out _ E4.out
  cases lo with
  | true =>
    go_wp2
    go_ret
    exact ⟨rfl, KB.out.trans E4.out⟩
  | false =>
  have SH := Lib.hid (hlo rfl)
  clear hlo
  have hxs : x.size ≤ maxLen := by have := FIT.out.more x (by simp); unfold maxLen; omega
  have CKF := Lib.hid (fun (W : World) (k : Chg (fun _ => False) wb W) iv sv (z : BProof) (hz : ProofAt W iv sv (· < W.heap.size) z) (hzi : z.items.length ≤ 1000) => show Calls Tryz.prog 17 #[.slice ra R.length rc, .slice la P.length cap, .agg #[iv, sv], .string x, .string y] W (fun e w' => e = .returned (.int .i64 (check13 R (certsOf P) z x y)) ∧ Chg (fun _ => False) W w') from by
    obtain ⟨a1, a2, a3, a4⟩ := FIT.out.args HV.out HU.out rfl (KB.out.trans k)
    exact check_any13 W ra R rc _ iv sv P z x y a1 a2 (by have := FIT.out.rules; omega) a3 (by omega) hz hzi hxs)
  have CK1 := CKF.out w4 E4.out _ _ p (HP.out.later (KB.out.trans E4.out) (fun _ e => e.elim)) (by have := SH.out.items; omega)
  by_cases hck : check13 R (certsOf P) p x y = 0
  rotate_left
  · have g1 : (check13 R (certsOf P) p x y != 0) = true := by rw [bne_iff_ne]; exact hck
    have CK1 := Lib.hid CK1
    generalize check13 R (certsOf P) p x y = cr at *
    clear CKF
    go_wp2_with fail
    (with_reducible refine (CK1.out).mono ?_)
    rintro e w5 ⟨rfl, k5⟩
    have E5 := Lib.hid (E4.out.trans k5)
    clear k5 CK1
    go_wp2
    go_ret
    exact ⟨rfl, KB.out.trans E5.out⟩
  have RT := check_zero.1 hck
  have hck2 := check_zero.2 RT.cut
  have HCO := Lib.hid RT.cutOk
  obtain ⟨s1, s2, s3⟩ := SH.out.sizes
  have CUT := Lib.hid (fun (W : World) (k : Chg (fun _ => False) wb W) => cut_any W R.length _ _ _ P p _ _ (FIT.out.args HV.out HU.out rfl (KB.out.trans k)).2.2.1 (HP.out.later (KB.out.trans k) (fun _ e => e.elim)) (fun _ e => e) HF.out s1 (fun c hc => by have := (FIT.out.cert c hc).2.1; omega) s2 s3)
  have HV1 := Lib.hid (fun (W : World) (k : Chg (fun _ => False) wb W) => heavy_any W _ _ _ p (HP.out.later (KB.out.trans k) (fun _ e => e.elim)) s1 s2 s3)
  obtain ⟨t1, t2, t3⟩ := cut_sizes (roots := R.length) (C := certsOf P) s1 s2 s3
  have HL := Lib.hid (heavy_cut R.length (certsOf P) p)
  have CL := cut_len R.length (certsOf P) p
  have CKQ := Lib.hid (fun (W : World) (k : Chg (fun _ => False) wb W) iv sv (hz : ProofAt W iv sv (· < W.heap.size) (cutE R.length (certsOf P) p)) => by
    have := CKF.out W k iv sv _ hz t1
    rwa [hck2] at this)
  have HVQ := Lib.hid (fun (W : World) iv sv (hz : ProofAt W iv sv (· < W.heap.size) (cutE R.length (certsOf P) p)) => heavy_any W iv sv _ _ hz t1 t2 t3)
  rw [hck] at CK1
  have CK1 := Lib.hid CK1
  clear RT hck hck2 t1 t2 t3 s1 s2 s3 CKF
  go_wp2_with fail
  (with_reducible refine (CK1.out).mono ?_)
  rintro e w5 ⟨rfl, k5⟩
  have E5 := Lib.hid (E4.out.trans k5)
  clear k5 CK1 q0 q1 E4
  obtain ⟨q0, q1⟩ := F7.out _ E5.out
  have CT := Lib.hid (CUT.out w5 E5.out)
  clear CUT
  go_wp2_with fail
  (with_reducible refine (CT.out).mono ?_)
  rintro e w6 ⟨k6, hres⟩
  clear CT
  rcases hres with ⟨_, iv, sv, rfl, hit, hst⟩ | ⟨hno, _⟩
  rotate_left
  · exact absurd HCO.out hno
  have hq : ProofAt w6 iv sv (· < w6.heap.size) (cutE R.length (certsOf P) p) := ⟨hit.up (fun k hk => hk.2), (stepsN_own hst).up (fun k hk => (hst.lt k hk).2)⟩
  obtain ⟨Q, hQ⟩ : ∃ Q, Q = cutE R.length (certsOf P) p := ⟨_, rfl⟩
  rw [← hQ] at hq HL CL CKQ HVQ
  clear hit hst hQ HCO
  obtain ⟨ja, jc, rfl⟩ := hq.items.shape
  obtain ⟨ta, tc, rfl⟩ := hq.steps.shape
  have jl : Q.items.length ≤ 9223372036854775807 := by omega
  have kc := chg_alloc (fun _ => False) w6 (.cells #[.slice ja Q.items.length jc, .slice ta Q.steps.length tc] 30)
  have oc := obj_alloc_new w6 (.cells #[.slice ja Q.items.length jc, .slice ta Q.steps.length tc] 30)
  have FC := Lib.hid (fun (W : World) (k : Chg (fun _ => False) (w6.alloc (.cells #[.slice ja Q.items.length jc, .slice ta Q.steps.length tc] 30)) W) => And.intro (show W.cell? ⟨w6.heap.size, 0, none⟩ = some (.slice ja Q.items.length jc) from cell_of (o := 0) (k.obj (fun e => e) oc) rfl) (show W.cell? ⟨w6.heap.size, 1, none⟩ = some (.slice ta Q.steps.length tc) from cell_of (o := 1) (k.obj (fun e => e) oc) rfl))
  have PQ := Lib.hid (fun (W : World) (k : Chg (fun _ => False) (w6.alloc (.cells #[.slice ja Q.items.length jc, .slice ta Q.steps.length tc] 30)) W) => hq.later (kc.trans k) (fun _ e => e.elim))
  have E6 := Lib.hid ((E5.out.trans k6).trans kc)
  clear kc oc hq k6 E5 q0 q1
  go_wp2_with fail
  generalize w6.alloc (.cells #[.slice ja Q.items.length jc, .slice ta Q.steps.length tc] 30) = w7 at *
  generalize w6.heap.size = b11 at *
  obtain ⟨hq, hhq⟩ : ∃ n, n = heavyE Q := ⟨_, rfl⟩
  obtain ⟨hp, hhp⟩ : ∃ n, n = heavyE p := ⟨_, rfl⟩
  have HL := HL.out
  rw [← hhq, ← hhp] at HL
  rw [← hhq] at HVQ
  rw [← hhp] at HV1
  clear hhq hhp
  have g5 : decide ((hq : Int) ≤ (hp : Int)) = true := decide_eq_true (by omega)
  have g5' : decide (hq ≤ hp) = true := decide_eq_true HL
  have g6 : decide ((Q.items.length : Int) ≤ (p.items.length : Int)) = true := decide_eq_true (by omega)
  have g6' : decide (Q.items.length ≤ p.items.length) = true := decide_eq_true CL
  have FACTS := Lib.hid (fun (W : World) (k : Chg (fun _ => False) w7 W) => And.intro (F7.out W (E6.out.trans k)) (FC.out W k))
  clear F7 FC
  refine wp_region_plan (N := 69) [.rd [0, 1, 2, 3, 4, 5, 6, 7], .ef 8, .rd [9, 10, 11, 12, 14], .ef 13, .ef 15, .rd [16, 17, 18, 19, 20, 21, 22, 23, 24, 25, 26, 27]] (fun W => (W.cell? ⟨b7, 0, none⟩ = some (.slice ia p.items.length ic) ∧ W.cell? ⟨b7, 1, none⟩ = some (.slice sa p.steps.length sc)) ∧ (W.cell? ⟨b11, 0, none⟩ = some (.slice ja Q.items.length jc) ∧ W.cell? ⟨b11, 1, none⟩ = some (.slice ta Q.steps.length tc))) (by kernel_rfl) (by kernel_rfl) (by kernel_rfl) (by kernel_rfl) (Nat.le_of_ble_eq_true rfl) (FACTS.out _ (chg_drew _ _)) ?_
  refine plan_rd (A := ?A1) ?h1 ?h2
  case h1 =>
    rintro w' ⟨⟨f0, f1⟩, f2, f3⟩ K hK
    simp only [opsAt, List.filterMap_cons, List.filterMap_nil, List.getElem?_toArray, List.getElem?_cons_succ, List.getElem?_cons_zero]
    repeat still_step
    refine wpStill_nil ?_
    exact hK
  have D := Lib.hid (chg_drew (fun _ => False) w7)
  have C2 := Lib.hid (CKQ.out w7.drew (E6.out.trans D.out) _ _ (PQ.out _ D.out))
  clear CKQ
  generalize w7.drew = w8 at *
  refine plan_ef rfl ?_
  go_wp2_with fail
  (with_reducible refine (C2.out).mono ?_)
  rintro e w9 ⟨rfl, k9⟩
  have D9 := Lib.hid (D.out.trans k9)
  have V1 := Lib.hid (HVQ.out w9 _ _ (PQ.out _ D9.out))
  clear k9 C2 D HVQ
  go_wp2_with fail
  refine ⟨FACTS.out _ D9.out, ?_⟩
  refine plan_rd (A := ?A2) ?h3 ?h4
  case h3 =>
    rintro w' ⟨⟨f0, f1⟩, f2, f3⟩ K hK
    simp only [opsAt, List.filterMap_cons, List.filterMap_nil, List.getElem?_toArray, List.getElem?_cons_succ, List.getElem?_cons_zero]
    repeat still_step
    refine wpStill_nil ?_
    exact hK
  refine plan_ef rfl ?_
  go_wp2_with fail
  (with_reducible refine (V1.out).mono ?_)
  rintro e w10 ⟨rfl, k10⟩
  have D10 := Lib.hid (D9.out.trans k10)
  have V2 := Lib.hid (HV1.out w10 (E6.out.trans D10.out))
  clear k10 V1 D9 HV1
  go_wp2_with fail
  refine ⟨FACTS.out _ D10.out, ?_⟩
  refine plan_ef rfl ?_
  go_wp2_with fail
  (with_reducible refine (V2.out).mono ?_)
  rintro e w11 ⟨rfl, k11⟩
  have D11 := Lib.hid (D10.out.trans k11)
  clear k11 V2 D10
  go_wp2_with fail
  refine ⟨FACTS.out _ D11.out, ?_⟩
  refine plan_rd (A := ?A3) ?h5 ?h6
  case h5 =>
    rintro w' ⟨⟨f0, f1⟩, f2, f3⟩ K hK
    simp only [opsAt, List.filterMap_cons, List.filterMap_nil, List.getElem?_toArray, List.getElem?_cons_succ, List.getElem?_cons_zero]
    repeat still_step
    refine wpStill_nil ?_
    exact hK
  refine plan_nil ?_
  clear FACTS
  go_wp2
  go_ret
  exact ⟨rfl, KB.out.trans (E6.out.trans D11.out)⟩
end Go.Proofs.YtjifdfhibkipnaaGreat
