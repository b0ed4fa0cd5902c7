/-
  ProofCuts, walked.
  What is left of any proof that is cut down, or that it can't be, is as the document says; the proof stays.
-/
import Derived.Test.YtjifdfhibkipnaaGreatQPArg
import Derived.Test.YtjifdfhibkipnaaGreatQRef3
import Derived.SizedLaws
namespace Go.Proofs.YtjifdfhibkipnaaGreat
open Go.RowKit Go.Maps

open Classical in
/-- What Cut answers, said as one. -/
noncomputable def cutQ (r : Int) (C : List BCert) (p : BProof) : Int × BProof := if CutOk r C p then (0, cutE r C p) else (2, ⟨[], []⟩)
theorem cutRes_q {w w' : World} {r : Int} {C : List BCert} {p : BProof} {e : Ending} (h : CutRes w r C p e w') : MakeRes w (cutQ r C p) e w' := by
  obtain ⟨hc, ⟨hco, iv, sv, he, hi, hs⟩ | ⟨hno, he⟩⟩ := h
  · have : cutQ r C p = (0, cutE r C p) := by unfold cutQ; rw [if_pos hco]
    rw [this]
    exact ⟨hc, iv, sv, he, hi, hs⟩
  · have : cutQ r C p = (2, ⟨[], []⟩) := by unfold cutQ; rw [if_neg hno]
    rw [this]
    exact ⟨hc, _, _, he, items_nil _ _, own_none _ _ _ _⟩
theorem cutQ_len (r : Int) (C : List BCert) (p : BProof) : (cutQ r C p).2.steps.length ≤ p.steps.length := by
  unfold cutQ
  split
  · simp only
    rw [cut_steps]
    unfold anewL
    rw [List.length_map]
    exact Nat.le_refl _
  · simp
/-- Steps counted on the way. -/
def heavyTo (p : BProof) (k : Nat) : Nat := p.steps.length + ((p.items.take k).map heavyI).sum
def heavyIn (x : BItem) (j : Nat) : Nat := ((x.paths.take j).map List.length).sum
theorem heavyTo_succ {p : BProof} {k : Nat} {x : BItem} (h : p.items[k]? = some x) : heavyTo p (k + 1) = heavyTo p k + heavyIn x x.paths.length := by
  unfold heavyTo heavyIn
  rw [List.take_add_one, h, List.map_append, List.sum_append, List.take_length]
  simp only [Option.toList_some, List.map_cons, List.map_nil, List.sum_cons, List.sum_nil]
  unfold heavyI
  omega
theorem heavyIn_succ {x : BItem} {j : Nat} {l : BSteps} (h : x.paths[j]? = some l) : heavyIn x (j + 1) = heavyIn x j + l.length := by
  unfold heavyIn
  rw [List.take_add_one, h, List.map_append, List.sum_append]
  simp
theorem heavyIn_le {x : BItem} (h : x.paths.length ≤ 20 ∧ ∀ l ∈ x.paths, l.length ≤ 60) : ∀ j, heavyIn x j ≤ j * 60
  | 0 => by unfold heavyIn; simp
  | j + 1 => by
    have ih := heavyIn_le h j
    cases hl : x.paths[j]? with
    | some l =>
      have := h.2 l (List.mem_of_getElem? hl)
      rw [heavyIn_succ hl]
      omega
    | none =>
      have e : heavyIn x (j + 1) = heavyIn x j := by unfold heavyIn; rw [List.take_add_one, hl]; simp
      omega
theorem heavyTo_le {p : BProof} (h : Short13 p) : ∀ k, heavyTo p k ≤ 60 + k * 1200
  | 0 => by unfold heavyTo; have := h.steps; simp; omega
  | k + 1 => by
    have ih := heavyTo_le h k
    cases hx : p.items[k]? with
    | some x =>
      have hp := h.path x (List.mem_of_getElem? hx)
      have := heavyIn_le hp x.paths.length
      rw [heavyTo_succ hx]
      omega
    | none =>
      have e : heavyTo p (k + 1) = heavyTo p k := by unfold heavyTo; rw [List.take_add_one, hx]; simp
      omega
set_option maxHeartbeats 16000000 in
set_option maxRecDepth 100000 in
theorem cuts_law (w : World) (r : Int) (u t : Value) (P : List (BCert × Value)) (p : BProof) (hr : (Lit.int .i64 r).wf = true) (hca : CertsArg w u P) (_ : CertsFit P) (hp : ProofArg w t p) :
    Calls Tryz.prog 5 #[.int .i64 r, u, t] w fun e w' => e = .returned (.bool true) ∧ Chg (fun _ => False) w w' := by
  have hr1 : -9223372036854775808 ≤ r := by
    simp only [Lit.wf, Bool.and_eq_true, decide_eq_true_eq] at hr
    exact hr.1
  have hu := hca.at_
  have HU := Lib.hid hu
  obtain ⟨la, cap, rfl, hu0, _⟩ := hu
  obtain ⟨ia, ic, sa, sc, rfl, hpa, hfit⟩ := hp
  have HP := Lib.hid hpa
  have HF := Lib.hid hfit
  have LG := Lib.hid (fun w0 (k : Chg (fun _ => False) w w0) => show Calls Tryz.prog 11 #[.slice none 0 0, .slice la P.length cap, .int .i64 1, .slice none 0 0] w0 (Large13Res w0 [] (certsOf P) []) from large13_any w0 w0 none [] 0 _ P 1 (.slice none 0 0) [] ⟨none, 0, rfl, by simp, fun j r hj => by simp at hj⟩ ((HU.out.chg k (fun _ _ e => e)).up (fun j hj => Nat.lt_of_lt_of_le hj k.size)) (own_none _ _ _ _) (Chg.refl _ _) (by simp))
  have LO := Lib.hid (fun w1 (k : Chg (fun _ => False) w w1) => long13_any w1 _ _ _ p (HP.out.later k (fun _ e => e.elim)))
  have kb := chg_alloc (fun _ => False) w (.cells #[.slice ia p.items.length ic, .slice sa p.steps.length sc] 30)
  have ob := obj_alloc_new w (.cells #[.slice ia p.items.length ic, .slice sa p.steps.length sc] 30)
  have F7 := Lib.hid (fun (W : World) (S : Nat → Prop) (k : Chg S (w.alloc (.cells #[.slice ia p.items.length ic, .slice sa p.steps.length sc] 30)) W) (hS : ¬ S w.heap.size) => And.intro (show W.cell? ⟨w.heap.size, 0, none⟩ = some (.slice ia p.items.length ic) from cell_of (o := 0) (k.obj hS ob) rfl) (show W.cell? ⟨w.heap.size, 1, none⟩ = some (.slice sa p.steps.length sc) from cell_of (o := 1) (k.obj hS ob) rfl))
  have KB := Lib.hid kb
  have hwb : w.heap.size < (w.alloc (.cells #[.slice ia p.items.length ic, .slice sa p.steps.length sc] 30)).heap.size := lt_of_obj ob
  clear hu0 hca hpa hfit kb ob hr
  go_enter Tryz.func5, Tryz.ntmps5
  go_wp2_with fail
  generalize w.alloc (.cells #[.slice ia p.items.length ic, .slice sa p.steps.length sc] 30) = wb at *
  obtain ⟨b7, hb7⟩ : ∃ b7, b7 = w.heap.size := ⟨_, rfl⟩
  rw [← hb7] at F7 hwb
  rw [← hb7]
  clear hb7
  have AW := Lib.hid (awake13_any wb)
  (with_reducible refine (AW.out).mono ?_)
  rintro e w1 ⟨rfl, k1⟩
  have E1 := Lib.hid k1
  have L1 := Lib.hid (LG.out w1 (KB.out.trans k1))
  clear AW LG k1
  go_wp2_with fail
  (with_reducible refine (L1.out).mono ?_)
  rintro e w3 ⟨lg, rfl, k3, hlg⟩
  have E3 := Lib.hid (E1.out.trans k3)
  clear L1 k3 E1
  obtain ⟨q0, q1⟩ := F7.out _ _ E3.out (fun e => e)
  cases lg with
  | true =>
    go_wp2
    go_ret
    exact ⟨rfl, KB.out.trans E3.out⟩
  | false =>
  have FIT := Lib.hid (hlg rfl)
  clear hlg
  have L2 := Lib.hid (LO.out w3 (KB.out.trans E3.out))
  clear LO
  go_wp2_with fail
  (with_reducible refine (L2.out).mono ?_)
  rintro e w4 ⟨lo, rfl, k4, hlo⟩
  have E4 := Lib.hid (E3.out.trans k4)
  clear L2 k4 E3 q0 q1
  obtain ⟨q0, q1⟩ := F7.out _ _ E4.out (fun e => e)
  cases lo with
  | true =>
    go_wp2
    go_ret
    exact ⟨rfl, KB.out.trans E4.out⟩
  | false =>
  have SH := Lib.hid (hlo rfl)
  clear hlo
  by_cases h40 : 1099511627776 < r
  · have g1 : decide ((1099511627776 : Int) < r) = true := decide_eq_true h40
    go_wp2
    go_ret
    exact ⟨rfl, KB.out.trans E4.out⟩
  have g1 : decide ((1099511627776 : Int) < r) = false := decide_eq_false h40
  obtain ⟨s1, s2, s3⟩ := SH.out.sizes
  have hF : ∀ c ∈ certsOf P, c.fr.length ≤ 1000 := fun c hc => by have := (FIT.out.cert c hc).2.1; omega
  have CP := Lib.hid (copied_any w4 _ _ p _ (HP.out.later (KB.out.trans E4.out) (fun _ e => e.elim)) s1 s2 s3)
  have CUT := Lib.hid (fun (W : World) (k : Chg (fun _ => False) wb W) iv sv (hz : ProofAt W iv sv (· < W.heap.size) p) => (cut_any W r (.slice la P.length cap) iv sv P p _ _ ((HU.out.chg (KB.out.trans k) (fun _ _ e => e)).up (G' := (· < W.heap.size)) (fun j hj => Nat.lt_of_lt_of_le hj (KB.out.trans k).size)) hz (fun _ e => e) HF.out s1 hF s2 s3).mono (fun e w' h => cutRes_q h))
  have RCUT := Lib.hid (fun (W : World) (k : Chg (fun _ => False) wb W) => (rcut_any W r (.slice la P.length cap) _ _ P p _ _ ((HU.out.chg (KB.out.trans k) (fun _ _ e => e)).up (G' := (· < W.heap.size)) (fun j hj => Nat.lt_of_lt_of_le hj (KB.out.trans k).size)) (HP.out.later (KB.out.trans k) (fun _ e => e.elim)) (fun _ e => e) HF.out s1 hF s2 s3 hr1 (by omega)).mono (fun e w' h => cutRes_q h))
  have QL := cutQ_len r (certsOf P) p
  have HVY := Lib.hid (fun (W : World) iv sv (hz : ProofAt W iv sv (· < W.heap.size) p) => heavy_any W iv sv _ p hz s1 s2 s3)
  generalize cutQ r (certsOf P) p = q at *
  obtain ⟨qk, Q⟩ := q
  simp only at QL
  clear hF FIT HU HF s3
  go_wp2_with fail
  clear q0 q1
  (with_reducible refine (CP.out).mono ?_)
  rintro e w5 ⟨k5, iv, sv, rfl, hit, hst⟩
  obtain ⟨ja, jc, rfl⟩ := hit.shape
  obtain ⟨ta, tc, rfl⟩ := own_shape hst
  have hq : ProofAt w5 (.slice ja p.items.length jc) (.slice ta p.steps.length tc) (· < w5.heap.size) p := ⟨hit.up (fun k hk => hk.2), (stepsN_own hst).up (fun k hk => (hst.lt k hk).2)⟩
  have kc := chg_alloc (fun _ => False) w5 (.cells #[.slice ja p.items.length jc, .slice ta p.steps.length tc] 30)
  have oc := obj_alloc_new w5 (.cells #[.slice ja p.items.length jc, .slice ta p.steps.length tc] 30)
  have FC := Lib.hid (fun (W : World) (S : Nat → Prop) (k : Chg S (w5.alloc (.cells #[.slice ja p.items.length jc, .slice ta p.steps.length tc] 30)) W) (hS : ¬ S w5.heap.size) => And.intro (show W.cell? ⟨w5.heap.size, 0, none⟩ = some (.slice ja p.items.length jc) from cell_of (o := 0) (k.obj hS oc) rfl) (show W.cell? ⟨w5.heap.size, 1, none⟩ = some (.slice ta p.steps.length tc) from cell_of (o := 1) (k.obj hS oc) rfl))
  have HQ6 := Lib.hid (hq.later kc (fun _ e => e.elim))
  have hw6 : w5.heap.size < (w5.alloc (.cells #[.slice ja p.items.length jc, .slice ta p.steps.length tc] 30)).heap.size := lt_of_obj oc
  have E6 := Lib.hid ((E4.out.trans k5).trans kc)
  clear kc oc hq k5 hit hst E4 CP
  go_wp2_with fail
  generalize w5.alloc (.cells #[.slice ja p.items.length jc, .slice ta p.steps.length tc] 30) = w6 at *
  generalize w5.heap.size = b11 at *
  have C1 := Lib.hid (CUT.out w6 E6.out _ _ HQ6.out)
  obtain ⟨f0, f1⟩ := FC.out w6 _ (Chg.refl (fun _ => False) _) (fun e => e)
  clear CUT
  go_wp2_with fail
  clear f0 f1
  (with_reducible refine (C1.out).mono ?_)
  rintro e w7 ⟨k7, av, bv, rfl, hita, hsta⟩
  simp only at hita hsta
  obtain ⟨aa, ac, rfl⟩ := hita.shape
  obtain ⟨ba, bc, rfl⟩ := own_shape hsta
  have hqa : ProofAt w7 (.slice aa Q.items.length ac) (.slice ba Q.steps.length bc) (· < w7.heap.size) Q := ⟨hita.up (fun k hk => hk.2), (stepsN_own hsta).up (fun k hk => (hsta.lt k hk).2)⟩
  have kd := chg_alloc (fun _ => False) w7 (.cells #[.slice aa Q.items.length ac, .slice ba Q.steps.length bc] 30)
  have od := obj_alloc_new w7 (.cells #[.slice aa Q.items.length ac, .slice ba Q.steps.length bc] 30)
  have FD := Lib.hid (fun (W : World) (S : Nat → Prop) (k : Chg S (w7.alloc (.cells #[.slice aa Q.items.length ac, .slice ba Q.steps.length bc] 30)) W) (hS : ¬ S w7.heap.size) => And.intro (show W.cell? ⟨w7.heap.size, 0, none⟩ = some (.slice aa Q.items.length ac) from cell_of (o := 0) (k.obj hS od) rfl) (show W.cell? ⟨w7.heap.size, 1, none⟩ = some (.slice ba Q.steps.length bc) from cell_of (o := 1) (k.obj hS od) rfl))
  have HA8 := Lib.hid (hqa.later kd (fun _ e => e.elim))
  have ROWA := Lib.hid (own_chg hsta kd (fun _ _ e => e))
  have RLT := Lib.hid (fun k hk => (hsta.lt k hk).2)
  have K68 := Lib.hid (k7.trans kd)
  have hw8 : w7.heap.size < (w7.alloc (.cells #[.slice aa Q.items.length ac, .slice ba Q.steps.length bc] 30)).heap.size := lt_of_obj od
  have hw67 : w6.heap.size ≤ w7.heap.size := k7.size
  clear kd od hqa k7 hita hsta C1
  go_upto_region 7 with fail
  generalize w7.alloc (.cells #[.slice aa Q.items.length ac, .slice ba Q.steps.length bc] 30) = w8 at *
  generalize w7.heap.size = b8 at *
  have C2 := Lib.hid (RCUT.out w8 (E6.out.trans K68.out))
  obtain ⟨f0, f1⟩ := F7.out w8 _ (E6.out.trans K68.out) (fun e => e)
  clear RCUT
  go_wp2_with fail
  clear f0 f1
  (with_reducible refine (C2.out).mono ?_)
  rintro e w9 ⟨k9, cv, dv, rfl, hitb, hstb⟩
  simp only at hitb hstb
  obtain ⟨ca, cc, rfl⟩ := hitb.shape
  obtain ⟨da, dc, rfl⟩ := own_shape hstb
  have hqb : ProofAt w9 (.slice ca Q.items.length cc) (.slice da Q.steps.length dc) (· < w9.heap.size) Q := ⟨hitb.up (fun k hk => hk.2), (stepsN_own hstb).up (fun k hk => (hstb.lt k hk).2)⟩
  have ke := chg_alloc (fun _ => False) w9 (.cells #[.slice ca Q.items.length cc, .slice da Q.steps.length dc] 30)
  have oe := obj_alloc_new w9 (.cells #[.slice ca Q.items.length cc, .slice da Q.steps.length dc] 30)
  have d0 := cell_of (o := 0) oe rfl
  have d1 := cell_of (o := 1) oe rfl
  have HB := Lib.hid (hqb.later ke (fun _ e => e.elim))
  have K8A := Lib.hid (k9.trans ke)
  clear ke oe hqb k9 hitb hstb C2
  go_upto_region 8 with fail
  generalize w9.alloc (.cells #[.slice ca Q.items.length cc, .slice da Q.steps.length dc] 30) = wA at *
  generalize w9.heap.size = b10 at *
  have SM1 := Lib.hid (same13_any wA _ _ _ _ Q _ _ (HA8.out.later K8A.out (fun _ e => e.elim)) HB.out)
  have gq : (qk != qk) = false := by simp
  obtain ⟨f0, f1⟩ := FD.out wA _ K8A.out (fun e => e)
  go_wp2_with fail
  clear d0 d1 f0 f1
  (with_reducible refine (SM1.out).mono ?_)
  rintro e wB ⟨rfl, kB⟩
  have K8B := Lib.hid (K8A.out.trans kB)
  have K6B := Lib.hid (K68.out.trans K8B.out)
  have SM2 := Lib.hid (same13_any wB _ _ _ _ p _ _ (HQ6.out.later K6B.out (fun _ e => e.elim)) (HP.out.later (KB.out.trans (E6.out.trans K6B.out)) (fun _ e => e.elim)))
  obtain ⟨f0, f1⟩ := FC.out wB _ K6B.out (fun e => e)
  obtain ⟨f2, f3⟩ := F7.out wB _ (E6.out.trans K6B.out) (fun e => e)
  clear SM1 kB K8A HB
  go_wp2_with fail
  clear f0 f1 f2 f3
  (with_reducible refine (SM2.out).mono ?_)
  rintro e wD ⟨rfl, kD⟩
  have K8D := Lib.hid (K8B.out.trans kD)
  have K6D := Lib.hid (K6B.out.trans kD)
  have KWD := Lib.hid (E6.out.trans K6D.out)
  clear SM2 kD K8B K6B
  obtain ⟨f2, f3⟩ := F7.out wD _ KWD.out (fun e => e)
  go_wp2
  obtain ⟨HT, hHT⟩ : ∃ HT : Nat → Nat, HT = heavyTo p := ⟨_, rfl⟩
  have HT0 := Lib.hid (show HT 0 = p.steps.length from by rw [hHT]; unfold heavyTo; simp)
  have HTS := Lib.hid (fun k x (hx : p.items[k]? = some x) => show HT (k + 1) = HT k + heavyIn x x.paths.length from by rw [hHT]; exact heavyTo_succ hx)
  have HTN := Lib.hid (show heavyE p = HT p.items.length from by rw [hHT]; unfold heavyTo heavyE; rw [List.take_length])
  have HTL := Lib.hid (fun k => show HT k ≤ 60 + k * 1200 from by rw [hHT]; exact heavyTo_le SH.out k)
  have il : p.items.length ≤ 12 := SH.out.items
  clear hHT f2 f3
  go_loopw [12, 65] (fun nv iv wr => ∃ k : Nat, k ≤ p.items.length ∧ nv = .int .i64 (HT k : Int) ∧ iv = .int .i64 k ∧ Hid (Chg (fun _ => False) wD wr)) (fun _ iv _ => p.items.length - (intOf iv).toNat)
  case atStart => exact ⟨0, by omega, by rw [HT0.out], rfl, Lib.hid (Chg.refl _ _)⟩
  case round =>
    obtain ⟨k, hk, rfl, rfl, KC⟩ := hrel
    by_cases hlt : k < p.items.length
    · as_aux_lemma =>
      have g2 : decide ((k : Int) < (p.items.length : Int)) = true := decide_eq_true (by omega)
      have g2' : decide (k < p.items.length) = true := decide_eq_true hlt
      have hkn : (k : Int) < (p.items.length : Int) := by omega
      obtain ⟨x, hx⟩ : ∃ x, p.items[k]? = some x := ⟨_, List.getElem?_eq_getElem hlt⟩
      have HTK := Lib.hid (HTS.out k x hx)
      have hxp := SH.out.path x (List.mem_of_getElem? hx)
      have hTk := HTL.out k
      obtain ⟨_, _, e1, _, hcl⟩ := HP.out.items
      cases e1
      obtain ⟨lb, lo, pv, rfl, _, _, j1, hpa⟩ := hcl k _ hx
      obtain ⟨pa, pc, rfl⟩ := hpa.shape
      have HPA := Lib.hid hpa
      have J1 := Lib.hid j1
      obtain ⟨HI, hHI⟩ : ∃ HI : Nat → Nat, HI = heavyIn x := ⟨_, rfl⟩
      have HI0 := Lib.hid (show HI 0 = 0 from by rw [hHI]; unfold heavyIn; simp)
      have HIS := Lib.hid (fun j l (hl : x.paths[j]? = some l) => show HI (j + 1) = HI j + l.length from by rw [hHI]; exact heavyIn_succ hl)
      have HIL := Lib.hid (fun j => show HI j ≤ j * 60 from by rw [hHI]; exact heavyIn_le hxp j)
      rw [← hHI] at HTK
      have hx20 := hxp.1
      have hx60 := Lib.hid hxp.2
      obtain ⟨cert, paths⟩ := x
      simp only at HPA J1 HTK HIS hx20 hx60
      obtain ⟨f2, f3⟩ := F7.out wr _ (KWD.out.trans KC.out) (fun e => e)
      have i1 := cell_chg (KB.out.trans (KWD.out.trans KC.out)) (fun e => e) J1.out
      clear hcl hx hpa j1 hHI hxp
      go_wp2
      clear f2 f3 i1
      go_loopw [12, 75] (fun nv jv wr => ∃ j : Nat, j ≤ paths.length ∧ nv = .int .i64 ((HT k + HI j : Nat) : Int) ∧ jv = .int .i64 j ∧ Hid (Chg (fun _ => False) wD wr)) (fun _ jv _ => paths.length - (intOf jv).toNat)
      case atStart => exact ⟨0, by omega, by rw [HI0.out, Nat.add_zero], rfl, KC⟩
      case round =>
        obtain ⟨j, hj, rfl, rfl, KJ⟩ := hrel
        by_cases hjl : j < paths.length
        · as_aux_lemma =>
          have g3 : decide ((j : Int) < (paths.length : Int)) = true := decide_eq_true (by omega)
          have g3' : decide (j < paths.length) = true := decide_eq_true hjl
          have hjn : (j : Int) < (paths.length : Int) := by omega
          obtain ⟨l, hl⟩ : ∃ l, paths[j]? = some l := ⟨_, List.getElem?_eq_getElem hjl⟩
          have HN := Lib.hid (HIS.out j l hl)
          have hl60 := hx60.out l (List.mem_of_getElem? hl)
          have hIj := HIL.out j
          obtain ⟨_, _, e1, _, hcl⟩ := HPA.out
          cases e1
          obtain ⟨lb2, lo2, pv2, rfl, _, s0, hst⟩ := hcl j l hl
          obtain ⟨qa, qc, rfl⟩ := hst.shape
          obtain ⟨f2, f3⟩ := F7.out wr _ (KWD.out.trans KJ.out) (fun e => e)
          have i1 := cell_chg (KB.out.trans (KWD.out.trans KJ.out)) (fun e => e) J1.out
          have i2 := cell_chg (KB.out.trans (KWD.out.trans KJ.out)) (fun e => e) s0
          obtain ⟨hi, hhi⟩ : ∃ hi : Nat, hi = HT k + HI j := ⟨_, rfl⟩
          have HN2 := Lib.hid (show HT k + HI (j + 1) = hi + l.length from by rw [HN.out, hhi]; omega)
          have hib : hi ≤ 20000 := by omega
          rw [← hhi]
          clear hhi hcl hl hst s0 HN
          have x1 : IntKind.i64.wrap ((hi : Int) + (l.length : Int)) = (hi : Int) + (l.length : Int) := by rw [IntKind.wrap_i64] <;> omega
          go_wp2
          go_roundw
          case rel => exact ⟨j + 1, by omega, by rw [HN2.out]; first | rfl | simp, by go_num, KJ⟩
          case measure => simp [intOf]; omega
        · as_aux_lemma =>
          obtain rfl : j = paths.length := by omega
          have g3 : decide ((paths.length : Int) < (paths.length : Int)) = false := decide_eq_false (by omega)
          have g3' : decide (paths.length < paths.length) = false := decide_eq_false (by omega)
          go_wp2
          go_roundw
          case rel => exact ⟨k + 1, by omega, by rw [HTK.out], by go_num, KJ⟩
          case measure => simp [intOf]; omega
    obtain rfl : k = p.items.length := by omega
    have g2 : decide ((p.items.length : Int) < (p.items.length : Int)) = false := decide_eq_false (by omega)
    have g2' : decide (p.items.length < p.items.length) = false := decide_eq_false (by omega)
    have K8E := Lib.hid (K8D.out.trans KC.out)
    have K6E := Lib.hid (K6D.out.trans KC.out)
    have KWE := Lib.hid (KWD.out.trans KC.out)
    have OA := Lib.hid (own_chg ROWA.out K8E.out (fun _ _ e => e))
    have NB8 := Lib.hid (show ¬ (Value.slice ba Q.steps.length bc).ownBlock = some b8 from fun e => by have := RLT.out _ e; omega)
    have LOWA := Lib.hid (fun j (hj : (Value.slice ba Q.steps.length bc).ownBlock = some j) => (ROWA.out.lt j hj).1)
    have NB11 := Lib.hid (show ¬ (Value.slice ba Q.steps.length bc).ownBlock = some b11 from fun e => by have := LOWA.out _ e; omega)
    have hsz6 : wb.heap.size ≤ w6.heap.size := E6.out.size
    have NB7 := Lib.hid (show ¬ (Value.slice ba Q.steps.length bc).ownBlock = some b7 from fun e => by have := LOWA.out _ e; omega)
    obtain ⟨f2, f3⟩ := FD.out wr _ K8E.out (fun e => e)
    have qsl : Q.steps.length ≤ 1000000 := Nat.le_trans QL s2
    clear K8D K6D KWD ROWA RLT KC HTS HTL HT0
    obtain ⟨wE, hwE⟩ : ∃ wE, wE = wr := ⟨_, rfl⟩
    subst hwE
    go_wp2
    clear f2 f3
    go_loopw [95] (fun iv wr => ∃ (k : Nat) (xs : List Value), k ≤ Q.steps.length ∧ iv = .int .i64 k ∧ Hid (wr.ownsRow w6.heap.size 45 2 (.slice ba Q.steps.length bc) Q.steps.length xs ∧ Chg (fun j => (Value.slice ba Q.steps.length bc).ownBlock = some j) wE wr)) (fun iv _ => Q.steps.length - (intOf iv).toNat)
    case atStart => exact ⟨0, _, by omega, rfl, Lib.hid ⟨OA.out, Chg.refl _ _⟩⟩
    case round =>
      obtain ⟨k, xs, hk, rfl, HI⟩ := hrel
      have OR := Lib.hid HI.out.1
      have KC := Lib.hid HI.out.2
      clear HI OA
      by_cases hlt : k < Q.steps.length
      · as_aux_lemma =>
        have g3 : decide ((k : Int) < (Q.steps.length : Int)) = true := decide_eq_true (by omega)
        have g3' : decide (k < Q.steps.length) = true := decide_eq_true hlt
        have hkn : (k : Int) < (Q.steps.length : Int) := by omega
        obtain ⟨f2, f3⟩ := FD.out wr _ ((K8E.out.mono (fun _ _ e => e.elim)).trans KC.out) NB8.out
        obtain ⟨g, rfl⟩ := own_some OR.out (by omega)
        have hxl := OR.out.1
        obtain ⟨v0, hv0⟩ : ∃ v, xs[k * 2]? = some v := ⟨_, List.getElem?_eq_getElem (by omega)⟩
        have x0 : wr.cell? ⟨g, k * 2, none⟩ = some v0 := by
          rw [OR.out.cellAt (j := k * 2) (by omega)]; exact hv0
        obtain ⟨cs, hcs⟩ := own_cells OR.out rfl
        have fz := frozen_of (o := k * 2) hcs
        have NX := Lib.hid (own_store OR.out (i := k * 2) (.int .i64 99))
        have KN := Lib.hid (KC.out.trans ((chg_cell wr g (k * 2) (.int .i64 99)).mono (fun j _ e => show (Value.slice (some ⟨g, 0, none⟩) Q.steps.length bc).ownBlock = some j from by rw [e]; rfl)))
        clear hcs hv0 hxl
        go_wp2
        go_roundw
        case rel => exact ⟨k + 1, _, by omega, by go_num, Lib.hid ⟨NX.out, KN.out⟩⟩
        case measure => simp [intOf]; omega
      · as_aux_lemma =>
        obtain rfl : k = Q.steps.length := by omega
        have g3 : decide ((Q.steps.length : Int) < (Q.steps.length : Int)) = false := decide_eq_false (by omega)
        have g3' : decide (Q.steps.length < Q.steps.length) = false := decide_eq_false (by omega)
        have KK6 := Lib.hid ((K6E.out.mono (fun _ _ e => e.elim)).trans KC.out)
        have KKW := Lib.hid ((KWE.out.mono (fun _ _ e => e.elim)).trans KC.out)
        have KK0 := Lib.hid (((KB.out.trans KWE.out).mono (fun _ _ e => e.elim)).trans KC.out)
        have hsz0 : w.heap.size ≤ w6.heap.size := by have := KB.out.size; omega
        obtain ⟨f2, f3⟩ := FC.out wr _ KK6.out NB11.out
        have HVW := HVY.out wr _ _ (HQ6.out.later KK6.out LOWA.out)
        rw [HTN.out] at HVW
        have HVW := Lib.hid HVW
        have gq2 : ((HT p.items.length : Int) == (HT p.items.length : Int)) = true := by simp
        go_wp2_with fail
        clear f2 f3
        (with_reducible refine (HVW.out).mono ?_)
        rintro e wF ⟨rfl, kF⟩
        have KFH := Lib.hid kF
        obtain ⟨f2, f3⟩ := FC.out wF _ (KK6.out.trans (kF.mono (fun _ _ e => e.elim))) NB11.out
        obtain ⟨f4, f5⟩ := F7.out wF _ (KKW.out.trans (kF.mono (fun _ _ e => e.elim))) NB7.out
        have SM := Lib.hid (same13_any wF _ _ _ _ p _ _ (HQ6.out.later (KK6.out.trans (kF.mono (fun _ _ e => e.elim))) LOWA.out) (HP.out.later (KK0.out.trans (kF.mono (fun _ _ e => e.elim))) (fun j hj => Nat.le_trans hsz0 (LOWA.out j hj))))
        clear HVW kF
        go_wp2_with fail
        clear f2 f3 f4 f5
        (with_reducible refine (SM.out).mono ?_)
        rintro e wG ⟨rfl, kG⟩
        have KFIN := Lib.hid ((KB.out.trans KWE.out).next (KC.out.trans ((KFH.out.trans kG).mono (fun _ _ e => e.elim))) (fun i hi e => by have := LOWA.out i e; omega))
        clear SM kG
        go_wp2
        go_ret
        exact ⟨rfl, KFIN.out⟩
end Go.Proofs.YtjifdfhibkipnaaGreat

namespace Go.Proofs.YtjifdfhibkipnaaGreat.ProofCutsP
open Go.ChangeShapes Go.WideShapes Go.ChangeAt Go.RowKit

set_option maxRecDepth 100000 in
theorem lifted (os : Os) (started : os.Started) (H : Type) (enc : TypeId × Value → H) :
    ReturnsInHanded {} Tryz.checked os 5 .any (Rows.proofCutsSpec.pre6 enc Tryz.prog Tryz.f5 Rows.proofCutsRow.domain false) (Rows.proofCutsSpec.post enc Tryz.prog Tryz.f5 false true false false) := by
  refine returnsInHanded_of_change_sized (C := Tryz.checked) Tryz.own started (by kernel_rfl) Tryz.func5
    (ChangeSpec.witness6 (enc := enc) (C := Tryz.checked) false ⟨#[], #[.int .i64 0, .slice none 0 0, .agg #[.slice none 0 0, .slice none 0 0]], []⟩ 8 (by kernel_rfl) (by kernel_rfl) (by kernel_rfl) (by kernel_rfl)) ?_
  intro W base args ds gs before hval0 hW hcnd hsz _
  have hval : ∀ (j : Nat) t v, Tryz.f5.params[j]? = some t → args[j]? = some v → Value.okWide Tryz.prog W .any base t v := hval0
  have hW' := hW
  obtain ⟨p, q, hA0, hV, rfl, hfz, hnd⟩ := hW
  have hA : DataW.TrodAll enc Tryz.prog W 0 (fun _ => true) true Tryz.f5.params.toList args.toList ds p := hA0
  rw [Tryz.params5] at hA hval
  obtain ⟨v0, vs0, d0, ds0, p0, q0, hargs, rfl, rfl, h0, r0⟩ := trodAll_cons hA
  obtain ⟨v1, vs1, d1, ds1, p1, q1, rfl, rfl, rfl, h1, r1⟩ := trodAll_cons r0
  obtain ⟨v2, vs2, d2, ds2, p2, q2, rfl, rfl, rfl, h2, r2⟩ := trodAll_cons r1
  obtain ⟨rfl, rfl, rfl⟩ := trodAll_nil r2
  obtain rfl : args = #[v0, v1, v2] := by cases args; simp_all
  obtain ⟨rfl, rfl⟩ := trodVars_none hV
  have lt0 : ∀ x ∈ p0, x.block < W.heap.size := by obtain ⟨m, hm⟩ := h0; exact DataW.trod_lt m _ _ _ hm
  have lt1 : ∀ x ∈ p1, x.block < W.heap.size := by obtain ⟨m, hm⟩ := h1; exact DataW.trod_lt m _ _ _ hm
  have lt2 : ∀ x ∈ p2, x.block < W.heap.size := by obtain ⟨m, hm⟩ := h2; exact DataW.trod_lt m _ _ _ hm
  have k0 := h0
  have k1 := h1
  have k2 := h2
  obtain ⟨n0, rfl, rfl, rfl, wn0⟩ := open_int Tryz.underlying3 (hval 0 3 v0 rfl rfl) h0
  obtain ⟨a1, len1, cap1, rfl⟩ := okWide_slice Tryz.underlying23 (hval 1 23 v1 rfl rfl)
  obtain ⟨l1, hl1, hw1⟩ := certsArg_of h1
  have hf1 := hw1 (fun x hx => by have := List.all_eq_true.1 hsz x (DataW.weights_mem_each (j := 1) rfl rfl x hx); simpa using this)
  obtain ⟨cs2, rfl, _⟩ := okWide_struct Tryz.underlying30 (hval 2 30 v2 rfl rfl)
  obtain ⟨l2, hl2⟩ := proofArg_of h2
  clear hA0 hval0
  refine (cuts_law W n0 _ _ l1 l2 wn0 hl1 hf1 hl2).mono fun e W' ⟨he, hc⟩ => ?_
  subst he
  have bel : Below W.heap.size W W' := hc.below (fun _ _ e => e) (Nat.le_refl _)
  exact ⟨_, rfl, _, _, _, [], _, [], hW', trodAll_mk1 (shut_bool Tryz.underlying4 _), (trodAll_cons_mk (Below.trod Tryz.laidOut (by kernel_rfl) (of_decide_eq_true (by kernel_rfl)) k0 bel lt0) (trodAll_cons_mk (Below.trod Tryz.laidOut (by kernel_rfl) (of_decide_eq_true (by kernel_rfl)) k1 bel lt1) (trodAll_cons_mk (Below.trod Tryz.laidOut (by kernel_rfl) (of_decide_eq_true (by kernel_rfl)) k2 bel lt2) trodAll_mk0))), rfl, bel.frame _, fun h => by cases h⟩

theorem over : Rows.proofCutsRow.holds Tryz.pinned (OpenSpec.ofChange Rows.proofCutsSpec) :=
  OpenClaim.holds_of_wide 5 Tryz.f5 rfl rfl rfl rfl rfl rfl rfl ⟨rfl, rfl, rfl, rfl, rfl⟩ rfl rfl rfl rfl rfl (by kernel_rfl) Tryz.func5 (by kernel_rfl)
    (of_decide_eq_true (by kernel_rfl)) (by unfold Func.isWrapper; first | (rw [if_pos (by decide +kernel)]; kernel_rfl) | (rw [if_neg (by decide +kernel)]; exact ⟨rfl, rfl⟩))
    (fun os started H enc _ => lifted os started H enc)
end Go.Proofs.YtjifdfhibkipnaaGreat.ProofCutsP
namespace Go.Proofs.YtjifdfhibkipnaaGreat
theorem proofCuts_holds : Rows.ProofCutsSaid := ProofCutsP.over
end Go.Proofs.YtjifdfhibkipnaaGreat
