/-
  ProofMakes, walked.
  Which proof is made of any word by any other one, or why there is none, is as the document says.
-/
import Derived.Test.YtjifdfhibkipnaaGreatQPMk
import Derived.Test.YtjifdfhibkipnaaGreatQRMk
import Derived.SizedLaws
namespace Go.Proofs.YtjifdfhibkipnaaGreat
open Go.RowKit Go.Maps

set_option maxHeartbeats 8000000 in
set_option maxRecDepth 100000 in
theorem makes_law (w : World) (v u : Value) (x y : ByteArray) (n : Int) (R : List BRul) (P : List (BCert × Value)) (_ : x.size ≤ maxLen) (_ : y.size ≤ maxLen) (hv : RulesArg w v R) (hrf : RulesFit R) (hca : CertsArg w u P) (_ : CertsFit P) :
  Calls Tryz.prog 3 #[v, u, .string x, .string y, .int .i64 n] w fun e w' => e = .returned (.bool true) ∧ Chg (fun _ => False) w w' := by
 have hu := hca.at_
 obtain ⟨ra, rc, rfl, hl0, _⟩ := hv.at_
 have HV := Lib.hid hv
 have HU := Lib.hid hu
 have HRF := Lib.hid hrf
 obtain ⟨la, cap, rfl, hu0, _⟩ := hu
 have AW := Lib.hid (awake13_any w)
 have LG := Lib.hid (fun w0 w1 (k : Chg (fun _ => False) w w0) (k2 : Chg (fun _ => False) w0 w1) lv L h hL => large13_any w0 w1 ra R rc _ P n lv L ((HV.out.at_.chg k (fun _ _ e => e)).imp (fun j hj => Nat.lt_of_lt_of_le hj k.size)) ((HU.out.chg k (fun _ _ e => e)).up (fun j hj => Nat.lt_of_lt_of_le hj k.size)) h k2 hL)
 clear hv hl0 hu0 hca hrf
 go_enter Tryz.func3, Tryz.ntmps3
 go_wp2_with fail
 (with_reducible refine (AW.out).mono ?_)
 rintro e w1 ⟨rfl, k1⟩
 have K1 := Lib.hid k1
 have kl := chg_alloc (fun _ => False) w1 (.cells #[.string x, .string y] 24)
 have L1 := Lib.hid (LG.out w1 _ k1 kl _ [x, y] (own_two w1 x y) (by simp))
 clear AW LG k1 kl
 go_wp2_with fail
 generalize w1.alloc (.cells #[.string x, .string y] 24) = w2 at *
 (with_reducible refine (L1.out).mono ?_)
 rintro e w3 ⟨lg, rfl, k3, hlg⟩
 have K3 := Lib.hid (K1.out.trans k3)
 clear L1 k3 K1
 cases lg with
 | true =>
  go_wp2
  go_ret
  exact ⟨rfl, K3.out⟩
 | false =>
 have FIT := Lib.hid (hlg rfl)
 clear hlg
 have hx1 : x.size ≤ 140737488355328 := by have := FIT.out.more x (by simp); omega
 have hxs : x.size ≤ maxLen := by have := FIT.out.more x (by simp); unfold maxLen; omega
 have hys : y.size ≤ maxLen := by have := FIT.out.more y (by simp); unfold maxLen; omega
 have hF : ∀ c ∈ certsOf P, c.fr.length ≤ 1000 := fun c hc => by have := (FIT.out.cert c hc).2.1; omega
 have hcs : ∀ c ∈ certsOf P, c.sp.size ≤ 140737488355328 ∧ Sizes c.fr := fun c hc => ⟨by have := (FIT.out.cert c hc).1; omega, fun z hz => by have := (FIT.out.cert c hc).2.2 z hz; omega⟩
 have M1 := Lib.hid (fun (W : World) (k : Chg (fun _ => False) w W) => make_any W ra R rc _ P _ n x y (FIT.out.run HV.out HRF.out HU.out k) hxs hys hF)
 have M2 := Lib.hid (fun (W : World) (k : Chg (fun _ => False) w W) => rmake_any W ra R rc _ P _ n x y (FIT.out.run HV.out HRF.out HU.out k) hxs hys hF HRF.out.1 hcs hx1)
 generalize makeE R (certsOf P) x y n = q at *
 obtain ⟨qk, Q⟩ := q
 have MM1 := Lib.hid (M1.out w3 K3.out)
 clear hxs hys hF hcs M1 FIT HU HV HRF
 go_wp2_with fail
 (with_reducible refine (MM1.out).mono ?_)
 rintro e w4 ⟨k4, iv, sv, rfl, hit, hst⟩
 simp only at hit hst
 obtain ⟨ia, ic, rfl⟩ := hit.shape
 obtain ⟨sa, sc, rfl⟩ := own_shape hst
 have hq : ProofAt w4 (.slice ia Q.items.length ic) (.slice sa Q.steps.length sc) (· < w4.heap.size) Q := ⟨hit.up (fun k hk => hk.2), (stepsN_own hst).up (fun k hk => (hst.lt k hk).2)⟩
 have kb := chg_alloc (fun _ => False) w4 (.cells #[.slice ia Q.items.length ic, .slice sa Q.steps.length sc] 30)
 have ob := obj_alloc_new w4 (.cells #[.slice ia Q.items.length ic, .slice sa Q.steps.length sc] 30)
 have OB := Lib.hid ob
 have HQ := Lib.hid (fun (W : World) (k : Chg (fun _ => False) (w4.alloc (.cells #[.slice ia Q.items.length ic, .slice sa Q.steps.length sc] 30)) W) => hq.later (kb.trans k) (fun _ e => e.elim))
 have K5 := Lib.hid ((K3.out.trans k4).trans kb)
 clear MM1 k4 hit hst hq kb ob K3
 go_wp2_with fail
 generalize w4.alloc (.cells #[.slice ia Q.items.length ic, .slice sa Q.steps.length sc] 30) = w5 at *
 generalize w4.heap.size = b5 at *
 have MM2 := Lib.hid (M2.out w5 K5.out)
 clear M2
 (with_reducible refine (MM2.out).mono ?_)
 rintro e w6 ⟨k6, jv, tv, rfl, hit, hst⟩
 simp only at hit hst
 obtain ⟨ja, jc, rfl⟩ := hit.shape
 obtain ⟨ta, tc, rfl⟩ := own_shape hst
 have hq2 : ProofAt w6 (.slice ja Q.items.length jc) (.slice ta Q.steps.length tc) (· < w6.heap.size) Q := ⟨hit.up (fun k hk => hk.2), (stepsN_own hst).up (fun k hk => (hst.lt k hk).2)⟩
 have kb := chg_alloc (fun _ => False) w6 (.cells #[.slice ja Q.items.length jc, .slice ta Q.steps.length tc] 30)
 have ob := obj_alloc_new w6 (.cells #[.slice ja Q.items.length jc, .slice ta Q.steps.length tc] 30)
 have SM := Lib.hid (same13_any (w6.alloc (.cells #[.slice ja Q.items.length jc, .slice ta Q.steps.length tc] 30)) _ _ _ _ Q _ _ (HQ.out _ (k6.trans kb)) (hq2.later kb (fun _ e => e.elim)))
 have K7 := Lib.hid (K5.out.trans (k6.trans kb))
 have o5 := (k6.trans kb).obj (fun e => e) OB.out
 have c0 := cell_of (o := 0) o5 rfl
 have c1 := cell_of (o := 1) o5 rfl
 have d0 := cell_of (o := 0) ob rfl
 have d1 := cell_of (o := 1) ob rfl
 have gq : (qk == qk) = true := by simp
 clear MM2 k6 hit hst hq2 kb ob K5 HQ OB o5
 go_wp2_with fail
 (with_reducible refine (SM.out).mono ?_)
 rintro e w8 ⟨rfl, k8⟩
 have K8 := Lib.hid (K7.out.trans k8)
 clear c0 c1 d0 d1 k8 SM
 go_wp2
 go_ret
 exact ⟨rfl, K8.out⟩
end Go.Proofs.YtjifdfhibkipnaaGreat

namespace Go.Proofs.YtjifdfhibkipnaaGreat.ProofMakesP
open Go.ChangeShapes Go.WideShapes Go.ChangeAt Go.RowKit

set_option maxRecDepth 100000 in
theorem lifted (os : Os) (started : os.Started) (H : Type) (enc : TypeId × Value → H) :
  ReturnsInHanded {} Tryz.checked os 3 .any (Rows.proofMakesSpec.pre6 enc Tryz.prog Tryz.f3 Rows.proofMakesRow.domain false) (Rows.proofMakesSpec.post enc Tryz.prog Tryz.f3 false true false false) := by
 refine returnsInHanded_of_change_sized (C := Tryz.checked) Tryz.own started (by kernel_rfl) Tryz.func3
  (ChangeSpec.witness6 (enc := enc) (C := Tryz.checked) false ⟨#[], #[.slice none 0 0, .slice none 0 0, .string ⟨#[]⟩, .string ⟨#[]⟩, .int .i64 0], []⟩ 8 (by kernel_rfl) (by kernel_rfl) (by kernel_rfl) (by kernel_rfl)) ?_
 intro W base args ds gs before hval0 hW hcnd hsz _
 have hval : ∀ (j : Nat) t v, Tryz.f3.params[j]? = some t → args[j]? = some v → Value.okWide Tryz.prog W .any base t v := hval0
 have hW' := hW
 obtain ⟨p, q, hA0, hV, rfl, hfz, hnd⟩ := hW
 have hA : DataW.TrodAll enc Tryz.prog W 0 (fun _ => true) true Tryz.f3.params.toList args.toList ds p := hA0
 rw [Tryz.params3] at hA hval
 obtain ⟨v0, vs0, d0, ds0, p0, q0, hargs, rfl, rfl, h0, r0⟩ := trodAll_cons hA
 obtain ⟨v1, vs1, d1, ds1, p1, q1, rfl, rfl, rfl, h1, r1⟩ := trodAll_cons r0
 obtain ⟨v2, vs2, d2, ds2, p2, q2, rfl, rfl, rfl, h2, r2⟩ := trodAll_cons r1
 obtain ⟨v3, vs3, d3, ds3, p3, q3, rfl, rfl, rfl, h3, r3⟩ := trodAll_cons r2
 obtain ⟨v4, vs4, d4, ds4, p4, q4, rfl, rfl, rfl, h4, r4⟩ := trodAll_cons r3
 obtain ⟨rfl, rfl, rfl⟩ := trodAll_nil r4
 obtain rfl : args = #[v0, v1, v2, v3, v4] := by cases args; simp_all
 obtain ⟨rfl, rfl⟩ := trodVars_none hV
 have lt0 : ∀ x ∈ p0, x.block < W.heap.size := by obtain ⟨m, hm⟩ := h0; exact DataW.trod_lt m _ _ _ hm
 have lt1 : ∀ x ∈ p1, x.block < W.heap.size := by obtain ⟨m, hm⟩ := h1; exact DataW.trod_lt m _ _ _ hm
 have lt2 : ∀ x ∈ p2, x.block < W.heap.size := by obtain ⟨m, hm⟩ := h2; exact DataW.trod_lt m _ _ _ hm
 have lt3 : ∀ x ∈ p3, x.block < W.heap.size := by obtain ⟨m, hm⟩ := h3; exact DataW.trod_lt m _ _ _ hm
 have lt4 : ∀ x ∈ p4, x.block < W.heap.size := by obtain ⟨m, hm⟩ := h4; exact DataW.trod_lt m _ _ _ hm
 have k0 := h0
 have k1 := h1
 have k2 := h2
 have k3 := h3
 have k4 := h4
 obtain ⟨a0, len0, cap0, rfl⟩ := okWide_slice Tryz.underlying22 (hval 0 22 v0 rfl rfl)
 obtain ⟨l0, hl0, hw0⟩ := rulesArg_of h0
 have hf0 := hw0 (fun x hx => by have := List.all_eq_true.1 hsz x (DataW.weights_mem_each (j := 0) rfl rfl x hx); simpa using this)
 obtain ⟨a1, len1, cap1, rfl⟩ := okWide_slice Tryz.underlying23 (hval 1 23 v1 rfl rfl)
 obtain ⟨l1, hl1, hw1⟩ := certsArg_of h1
 have hf1 := hw1 (fun x hx => by have := List.all_eq_true.1 hsz x (DataW.weights_mem_each (j := 1) rfl rfl x hx); simpa using this)
 obtain ⟨s2, rfl, rfl, rfl, hs2⟩ := ChangeMaps.open_string Tryz.underlying24 (hval 2 24 v2 rfl rfl) h2
 obtain ⟨s3, rfl, rfl, rfl, hs3⟩ := ChangeMaps.open_string Tryz.underlying24 (hval 3 24 v3 rfl rfl) h3
 obtain ⟨n4, rfl, rfl, rfl, wn4⟩ := open_int Tryz.underlying3 (hval 4 3 v4 rfl rfl) h4
 clear hA0 hval0
 refine (makes_law W _ _ s2 s3 n4 l0 l1 hs2 hs3 hl0 hf0 hl1 hf1).mono fun e W' ⟨he, hc⟩ => ?_
 subst he
 have bel : Below W.heap.size W W' := hc.below (fun _ _ e => e) (Nat.le_refl _)
 exact ⟨_, rfl, _, _, _, [], _, [], hW', trodAll_mk1 (shut_bool Tryz.underlying4 _), (trodAll_cons_mk (Below.trod Tryz.laidOut (by kernel_rfl) (of_decide_eq_true (by kernel_rfl)) k0 bel lt0) (trodAll_cons_mk (Below.trod Tryz.laidOut (by kernel_rfl) (of_decide_eq_true (by kernel_rfl)) k1 bel lt1) (trodAll_cons_mk (Below.trod Tryz.laidOut (by kernel_rfl) (of_decide_eq_true (by kernel_rfl)) k2 bel lt2) (trodAll_cons_mk (Below.trod Tryz.laidOut (by kernel_rfl) (of_decide_eq_true (by kernel_rfl)) k3 bel lt3) (trodAll_cons_mk (Below.trod Tryz.laidOut (by kernel_rfl) (of_decide_eq_true (by kernel_rfl)) k4 bel lt4) trodAll_mk0))))), rfl, bel.frame _, fun h => by cases h⟩

theorem over : Rows.proofMakesRow.holds Tryz.pinned (OpenSpec.ofChange Rows.proofMakesSpec) :=
 OpenClaim.holds_of_wide 3 Tryz.f3 rfl rfl rfl rfl rfl rfl rfl ⟨rfl, rfl, rfl, rfl, rfl⟩ rfl rfl rfl rfl rfl (by kernel_rfl) Tryz.func3 (by kernel_rfl)
  (of_decide_eq_true (by kernel_rfl)) (by unfold Func.isWrapper; first | (rw [if_pos (by decide +kernel)]; kernel_rfl) | (rw [if_neg (by decide +kernel)]; exact ⟨rfl, rfl⟩))
  (fun os started H enc _ => lifted os started H enc)
end Go.Proofs.YtjifdfhibkipnaaGreat.ProofMakesP
namespace Go.Proofs.YtjifdfhibkipnaaGreat
theorem proofMakes_holds : Rows.ProofMakesSaid := ProofMakesP.over
end Go.Proofs.YtjifdfhibkipnaaGreat
