/-
  ProofChecks, walked.
  What is wrong with any proof is as the document says; the proof stays.
-/
import Derived.Test.YtjifdfhibkipnaaGreatQPArg
import Derived.Test.YtjifdfhibkipnaaGreatQRChk
import Derived.SizedLaws
namespace Go.Proofs.YtjifdfhibkipnaaGreat
open Go.RowKit Go.Maps

set_option maxHeartbeats 8000000 in
set_option maxRecDepth 100000 in
theorem checks_law (w : World) (v u t : Value) (x y : ByteArray) (R : List BRul) (P : List (BCert × Value)) (p : BProof) (_ : x.size ≤ maxLen) (_ : y.size ≤ maxLen) (hv : RulesArg w v R) (hrf : RulesFit R) (hca : CertsArg w u P) (_ : CertsFit P) (hp : ProofArg w t p) :
    Calls Tryz.prog 4 #[v, u, t, .string x, .string y] w fun e w' => e = .returned (.bool true) ∧ Chg (fun _ => False) w w' := by
  have hu := hca.at_
  obtain ⟨ra, rc, rfl, hl0, _⟩ := hv.at_
  have HV := Lib.hid hv
  have HU := Lib.hid hu
  have HRF := Lib.hid hrf
  obtain ⟨la, cap, rfl, hu0, _⟩ := hu
  obtain ⟨ia, ic, sa, sc, rfl, hpa, hfit⟩ := hp
  have HP := Lib.hid hpa
  have HF := Lib.hid hfit
  have LG := Lib.hid (fun w0 w1 (k : Chg (fun _ => False) w w0) (k2 : Chg (fun _ => False) w0 w1) lv L h hL => large13_any w0 w1 ra R rc _ P 1 lv L ((HV.out.at_.chg k (fun _ _ e => e)).imp (fun j hj => Nat.lt_of_lt_of_le hj k.size)) ((HU.out.chg k (fun _ _ e => e)).up (fun j hj => Nat.lt_of_lt_of_le hj k.size)) h k2 hL)
  have LO := Lib.hid (fun w1 (k : Chg (fun _ => False) w w1) => long13_any w1 _ _ _ p (HP.out.later k (fun _ e => e.elim)))
  have kb := chg_alloc (fun _ => False) w (.cells #[.slice ia p.items.length ic, .slice sa p.steps.length sc] 30)
  have ob := obj_alloc_new w (.cells #[.slice ia p.items.length ic, .slice sa p.steps.length sc] 30)
  have F7 := Lib.hid (fun (W : World) (k : Chg (fun _ => False) (w.alloc (.cells #[.slice ia p.items.length ic, .slice sa p.steps.length sc] 30)) W) => And.intro (show W.cell? ⟨w.heap.size, 0, none⟩ = some (.slice ia p.items.length ic) from cell_of (o := 0) (k.obj (fun e => e) ob) rfl) (show W.cell? ⟨w.heap.size, 1, none⟩ = some (.slice sa p.steps.length sc) from cell_of (o := 1) (k.obj (fun e => e) ob) rfl))
  have KB := Lib.hid kb
  have il : p.items.length ≤ 9223372036854775807 := by obtain ⟨_, _, _, q, _⟩ := hpa.items; unfold maxLen at q; omega
  clear hv hl0 hu0 hca hpa hfit kb ob hrf
  go_enter Tryz.func4, Tryz.ntmps4
  go_wp2_with fail
  generalize w.alloc (.cells #[.slice ia p.items.length ic, .slice sa p.steps.length sc] 30) = wb at *
  obtain ⟨b7, hb7⟩ : ∃ b7, b7 = w.heap.size := ⟨_, rfl⟩
  rw [← hb7] at F7
  rw [← hb7]
  clear hb7
  have AW := Lib.hid (awake13_any wb)
  (with_reducible refine (AW.out).mono ?_)
  rintro e w1 ⟨rfl, k1⟩
  have E1 := Lib.hid k1
  have kl := chg_alloc (fun _ => False) w1 (.cells #[.string x, .string y] 24)
  have L1 := Lib.hid (LG.out w1 _ (KB.out.trans k1) kl _ [x, y] (own_two w1 x y) (by simp))
  clear AW LG k1 kl
  go_wp2_with fail
  generalize w1.alloc (.cells #[.string x, .string y] 24) = w2 at *
  (with_reducible refine (L1.out).mono ?_)
  rintro e w3 ⟨lg, rfl, k3, hlg⟩
  have E3 := Lib.hid (E1.out.trans k3)
  clear L1 k3 E1
  obtain ⟨q0, q1⟩ := F7.out _ E3.out
  cases lg with
  | true =>
    go_wp2
    go_ret
    exact ⟨rfl, KB.out.trans E3.out⟩
  | false =>
  have FIT := Lib.hid (hlg rfl)
  clear hlg
  have L2 := Lib.hid (LO.out w3 (KB.out.trans E3.out))
  clear LO
  go_wp2_with fail
  (with_reducible refine (L2.out).mono ?_)
  rintro e w4 ⟨lo, rfl, k4, hlo⟩
  have E4 := Lib.hid (E3.out.trans k4)
  clear L2 k4 E3 q0 q1
  obtain ⟨q0, q1⟩ := F7.out _ E4.out
  cases lo with
  | true =>
    go_wp2
    go_ret
    exact ⟨rfl, KB.out.trans E4.out⟩
  | false =>
  have SH := Lib.hid (hlo rfl)
  clear hlo
  have hx1 : x.size ≤ 140737488355328 := by have := FIT.out.more x (by simp); omega
  have hxs : x.size ≤ maxLen := by have := FIT.out.more x (by simp); unfold maxLen; omega
  obtain ⟨s1, s2, s3⟩ := SH.out.sizes
  have CP := Lib.hid (fun (W : World) (k : Chg (fun _ => False) wb W) => copied_any W _ _ p _ (HP.out.later (KB.out.trans k) (fun _ e => e.elim)) s1 s2 s3)
  have CK1 := Lib.hid (fun (W : World) (k : Chg (fun _ => False) wb W) iv sv (hz : ProofAt W iv sv (· < W.heap.size) p) => show Calls Tryz.prog 17 #[.slice ra R.length rc, .slice la P.length cap, .agg #[iv, sv], .string x, .string y] W (fun e w' => e = .returned (.int .i64 (check13 R (certsOf P) p x y)) ∧ Chg (fun _ => False) W w') from by
    obtain ⟨a1, a2, a3, a4⟩ := FIT.out.args HV.out HU.out rfl (KB.out.trans k)
    exact check_any13 W ra R rc _ iv sv P p x y a1 a2 (by have := FIT.out.rules; omega) a3 (by omega) hz s1 hxs)
  have CK2 := Lib.hid (fun (W : World) (k : Chg (fun _ => False) wb W) => show Calls Tryz.prog 18 #[.slice ra R.length rc, .slice la P.length cap, .agg #[.slice ia p.items.length ic, .slice sa p.steps.length sc], .string x, .string y] W (fun e w' => e = .returned (.int .i64 (check13 R (certsOf P) p x y)) ∧ Chg (fun _ => False) W w') from by
    obtain ⟨a1, a2, a3, a4⟩ := FIT.out.args HV.out HU.out rfl (KB.out.trans k)
    exact rcheck13_any W ra R rc _ _ _ P p x y a1 a2 (by have := FIT.out.rules; omega) a3 (HP.out.later (KB.out.trans k) (fun _ e => e.elim)) s1 HF.out HRF.out.1 (fun c hc => ⟨by have := (FIT.out.cert c hc).1; omega, fun z hz => by have := (FIT.out.cert c hc).2.2 z hz; omega⟩) hx1)
  have CPP := Lib.hid (CP.out w4 E4.out)
  clear CP SH s1 s2 s3 FIT HU HV HRF HF
  generalize check13 R (certsOf P) p x y = cr at *
  go_wp2_with fail
  (with_reducible refine (CPP.out).mono ?_)
  rintro e w5 ⟨k5, iv, sv, rfl, hit, hst⟩
  obtain ⟨ja, jc, rfl⟩ := hit.shape
  obtain ⟨ta, tc, rfl⟩ := own_shape hst
  have hq : ProofAt w5 (.slice ja p.items.length jc) (.slice ta p.steps.length tc) (· < w5.heap.size) p := ⟨hit.up (fun k hk => hk.2), (stepsN_own hst).up (fun k hk => (hst.lt k hk).2)⟩
  have kc := chg_alloc (fun _ => False) w5 (.cells #[.slice ja p.items.length jc, .slice ta p.steps.length tc] 30)
  have oc := obj_alloc_new w5 (.cells #[.slice ja p.items.length jc, .slice ta p.steps.length tc] 30)
  have FC := Lib.hid (fun (W : World) (k : Chg (fun _ => False) (w5.alloc (.cells #[.slice ja p.items.length jc, .slice ta p.steps.length tc] 30)) W) => And.intro (show W.cell? ⟨w5.heap.size, 0, none⟩ = some (.slice ja p.items.length jc) from cell_of (o := 0) (k.obj (fun e => e) oc) rfl) (show W.cell? ⟨w5.heap.size, 1, none⟩ = some (.slice ta p.steps.length tc) from cell_of (o := 1) (k.obj (fun e => e) oc) rfl))
  have PQ := Lib.hid (fun (W : World) (k : Chg (fun _ => False) (w5.alloc (.cells #[.slice ja p.items.length jc, .slice ta p.steps.length tc] 30)) W) => hq.later (kc.trans k) (fun _ e => e.elim))
  have E6 := Lib.hid ((E4.out.trans k5).trans kc)
  clear kc oc hq k5 hit hst E4 q0 q1 CPP
  go_wp2_with fail
  generalize w5.alloc (.cells #[.slice ja p.items.length jc, .slice ta p.steps.length tc] 30) = w7 at *
  generalize w5.heap.size = b11 at *
  have FACTS := Lib.hid (fun (W : World) (k : Chg (fun _ => False) w7 W) => And.intro (F7.out W (E6.out.trans k)) (FC.out W k))
  have SM := Lib.hid (fun (W : World) (k : Chg (fun _ => False) w7 W) => same13_any W _ _ _ _ p _ _ (PQ.out W k) (HP.out.later (KB.out.trans (E6.out.trans k)) (fun _ e => e.elim)))
  have gq : (cr == cr) = true := by simp
  clear F7 FC
  refine wp_region_plan (N := 44) [.rd [0, 1, 2, 3, 4, 6, 7, 8, 9, 10], .ef 5, .ef 11, .rd [12, 13, 14, 15], .ef 16, .rd [17, 18]] (fun W => (W.cell? ⟨b7, 0, none⟩ = some (.slice ia p.items.length ic) ∧ W.cell? ⟨b7, 1, none⟩ = some (.slice sa p.steps.length sc)) ∧ (W.cell? ⟨b11, 0, none⟩ = some (.slice ja p.items.length jc) ∧ W.cell? ⟨b11, 1, none⟩ = some (.slice ta p.steps.length tc))) (by kernel_rfl) (by kernel_rfl) (by kernel_rfl) (by kernel_rfl) (Nat.le_of_ble_eq_true rfl) (FACTS.out _ (chg_drew _ _)) ?_
  refine plan_rd (A := ?A1) ?h1 ?h2
  case h1 =>
    rintro w' ⟨⟨f0, f1⟩, f2, f3⟩ K hK
    simp only [opsAt, List.filterMap_cons, List.filterMap_nil, List.getElem?_toArray, List.getElem?_cons_succ, List.getElem?_cons_zero]
    repeat still_step
    refine wpStill_nil ?_
    exact hK
  have KD := Lib.hid (chg_drew (fun _ => False) w7)
  generalize w7.drew = wd at *
  refine plan_ef rfl ?_
  have C1 := Lib.hid (CK1.out wd (E6.out.trans KD.out) _ _ (PQ.out _ KD.out))
  go_wp2_with fail
  (with_reducible refine (C1.out).mono ?_)
  rintro e w8 ⟨rfl, k8⟩
  have K8 := Lib.hid (KD.out.trans k8)
  clear C1 k8 KD CK1
  go_wp2_with fail
  refine ⟨FACTS.out _ K8.out, ?_⟩
  refine plan_ef rfl ?_
  have C2 := Lib.hid (CK2.out w8 (E6.out.trans K8.out))
  go_wp2_with fail
  (with_reducible refine (C2.out).mono ?_)
  rintro e w9 ⟨rfl, k9⟩
  have K9 := Lib.hid (K8.out.trans k9)
  clear C2 k9 K8 CK2
  go_wp2_with fail
  refine ⟨FACTS.out _ K9.out, ?_⟩
  refine plan_rd (A := ?A2) ?h3 ?h4
  case h3 =>
    rintro w' ⟨⟨f0, f1⟩, f2, f3⟩ K hK
    simp only [opsAt, List.filterMap_cons, List.filterMap_nil, List.getElem?_toArray, List.getElem?_cons_succ, List.getElem?_cons_zero]
    refine WS.out ?_
    repeat (refine ws_step (fun K hK => ?_); go_simp; refine hK _ ?_; clear hK K)
    refine ws_nil ?_
    exact hK
  refine plan_ef rfl ?_
  have SS := Lib.hid (SM.out w9 K9.out)
  go_wp2_with fail
  (with_reducible refine (SS.out).mono ?_)
  rintro e w10 ⟨rfl, k10⟩
  have K10 := Lib.hid (K9.out.trans k10)
  clear SS k10 K9 SM
  go_wp2_with fail
  refine ⟨FACTS.out _ K10.out, ?_⟩
  refine plan_rd (A := ?A3) ?h5 ?h6
  case h5 =>
    rintro w' z0 K hK
    clear z0
    simp only [opsAt, List.filterMap_cons, List.filterMap_nil, List.getElem?_toArray, List.getElem?_cons_succ, List.getElem?_cons_zero]
    refine WS.out ?_
    repeat (refine ws_step (fun K hK => ?_); go_simp; refine hK _ ?_; clear hK K)
    refine ws_nil ?_
    exact hK
  refine plan_nil ?_
  go_wp2
  go_ret
  exact ⟨rfl, KB.out.trans (E6.out.trans K10.out)⟩
end Go.Proofs.YtjifdfhibkipnaaGreat

namespace Go.Proofs.YtjifdfhibkipnaaGreat.ProofChecksP
open Go.ChangeShapes Go.WideShapes Go.ChangeAt Go.RowKit

set_option maxRecDepth 100000 in
theorem lifted (os : Os) (started : os.Started) (H : Type) (enc : TypeId × Value → H) :
    ReturnsInHanded {} Tryz.checked os 4 .any (Rows.proofChecksSpec.pre6 enc Tryz.prog Tryz.f4 Rows.proofChecksRow.domain false) (Rows.proofChecksSpec.post enc Tryz.prog Tryz.f4 false true false false) := by
  refine returnsInHanded_of_change_sized (C := Tryz.checked) Tryz.own started (by kernel_rfl) Tryz.func4
    (ChangeSpec.witness6 (enc := enc) (C := Tryz.checked) false ⟨#[], #[.slice none 0 0, .slice none 0 0, .agg #[.slice none 0 0, .slice none 0 0], .string ⟨#[]⟩, .string ⟨#[]⟩], []⟩ 8 (by kernel_rfl) (by kernel_rfl) (by kernel_rfl) (by kernel_rfl)) ?_
  intro W base args ds gs before hval0 hW hcnd hsz _
  have hval : ∀ (j : Nat) t v, Tryz.f4.params[j]? = some t → args[j]? = some v → Value.okWide Tryz.prog W .any base t v := hval0
  have hW' := hW
  obtain ⟨p, q, hA0, hV, rfl, hfz, hnd⟩ := hW
  have hA : DataW.TrodAll enc Tryz.prog W 0 (fun _ => true) true Tryz.f4.params.toList args.toList ds p := hA0
  rw [Tryz.params4] at hA hval
  obtain ⟨v0, vs0, d0, ds0, p0, q0, hargs, rfl, rfl, h0, r0⟩ := trodAll_cons hA
  obtain ⟨v1, vs1, d1, ds1, p1, q1, rfl, rfl, rfl, h1, r1⟩ := trodAll_cons r0
  obtain ⟨v2, vs2, d2, ds2, p2, q2, rfl, rfl, rfl, h2, r2⟩ := trodAll_cons r1
  obtain ⟨v3, vs3, d3, ds3, p3, q3, rfl, rfl, rfl, h3, r3⟩ := trodAll_cons r2
  obtain ⟨v4, vs4, d4, ds4, p4, q4, rfl, rfl, rfl, h4, r4⟩ := trodAll_cons r3
  obtain ⟨rfl, rfl, rfl⟩ := trodAll_nil r4
  obtain rfl : args = #[v0, v1, v2, v3, v4] := by cases args; simp_all
  obtain ⟨rfl, rfl⟩ := trodVars_none hV
  have lt0 : ∀ x ∈ p0, x.block < W.heap.size := by obtain ⟨m, hm⟩ := h0; exact DataW.trod_lt m _ _ _ hm
  have lt1 : ∀ x ∈ p1, x.block < W.heap.size := by obtain ⟨m, hm⟩ := h1; exact DataW.trod_lt m _ _ _ hm
  have lt2 : ∀ x ∈ p2, x.block < W.heap.size := by obtain ⟨m, hm⟩ := h2; exact DataW.trod_lt m _ _ _ hm
  have lt3 : ∀ x ∈ p3, x.block < W.heap.size := by obtain ⟨m, hm⟩ := h3; exact DataW.trod_lt m _ _ _ hm
  have lt4 : ∀ x ∈ p4, x.block < W.heap.size := by obtain ⟨m, hm⟩ := h4; exact DataW.trod_lt m _ _ _ hm
  have k0 := h0
  have k1 := h1
  have k2 := h2
  have k3 := h3
  have k4 := h4
  obtain ⟨a0, len0, cap0, rfl⟩ := okWide_slice Tryz.underlying22 (hval 0 22 v0 rfl rfl)
  obtain ⟨l0, hl0, hw0⟩ := rulesArg_of h0
  have hf0 := hw0 (fun x hx => by have := List.all_eq_true.1 hsz x (DataW.weights_mem_each (j := 0) rfl rfl x hx); simpa using this)
  obtain ⟨a1, len1, cap1, rfl⟩ := okWide_slice Tryz.underlying23 (hval 1 23 v1 rfl rfl)
  obtain ⟨l1, hl1, hw1⟩ := certsArg_of h1
  have hf1 := hw1 (fun x hx => by have := List.all_eq_true.1 hsz x (DataW.weights_mem_each (j := 1) rfl rfl x hx); simpa using this)
  obtain ⟨cs2, rfl, _⟩ := okWide_struct Tryz.underlying30 (hval 2 30 v2 rfl rfl)
  obtain ⟨l2, hl2⟩ := proofArg_of h2
  obtain ⟨s3, rfl, rfl, rfl, hs3⟩ := ChangeMaps.open_string Tryz.underlying24 (hval 3 24 v3 rfl rfl) h3
  obtain ⟨s4, rfl, rfl, rfl, hs4⟩ := ChangeMaps.open_string Tryz.underlying24 (hval 4 24 v4 rfl rfl) h4
  clear hA0 hval0
  refine (checks_law W _ _ _ s3 s4 l0 l1 l2 hs3 hs4 hl0 hf0 hl1 hf1 hl2).mono fun e W' ⟨he, hc⟩ => ?_
  subst he
  have bel : Below W.heap.size W W' := hc.below (fun _ _ e => e) (Nat.le_refl _)
  exact ⟨_, rfl, _, _, _, [], _, [], hW', trodAll_mk1 (shut_bool Tryz.underlying4 _), (trodAll_cons_mk (Below.trod Tryz.laidOut (by kernel_rfl) (of_decide_eq_true (by kernel_rfl)) k0 bel lt0) (trodAll_cons_mk (Below.trod Tryz.laidOut (by kernel_rfl) (of_decide_eq_true (by kernel_rfl)) k1 bel lt1) (trodAll_cons_mk (Below.trod Tryz.laidOut (by kernel_rfl) (of_decide_eq_true (by kernel_rfl)) k2 bel lt2) (trodAll_cons_mk (Below.trod Tryz.laidOut (by kernel_rfl) (of_decide_eq_true (by kernel_rfl)) k3 bel lt3) (trodAll_cons_mk (Below.trod Tryz.laidOut (by kernel_rfl) (of_decide_eq_true (by kernel_rfl)) k4 bel lt4) trodAll_mk0))))), rfl, bel.frame _, fun h => by cases h⟩

theorem over : Rows.proofChecksRow.holds Tryz.pinned (OpenSpec.ofChange Rows.proofChecksSpec) :=
  OpenClaim.holds_of_wide 4 Tryz.f4 rfl rfl rfl rfl rfl rfl rfl ⟨rfl, rfl, rfl, rfl, rfl⟩ rfl rfl rfl rfl rfl (by kernel_rfl) Tryz.func4 (by kernel_rfl)
    (of_decide_eq_true (by kernel_rfl)) (by unfold Func.isWrapper; first | (rw [if_pos (by decide +kernel)]; kernel_rfl) | (rw [if_neg (by decide +kernel)]; exact ⟨rfl, rfl⟩))
    (fun os started H enc _ => lifted os started H enc)
end Go.Proofs.YtjifdfhibkipnaaGreat.ProofChecksP
namespace Go.Proofs.YtjifdfhibkipnaaGreat
theorem proofChecks_holds : Rows.ProofChecksSaid := ProofChecksP.over
end Go.Proofs.YtjifdfhibkipnaaGreat
