/-
  The law AcceptTells, walked.
  AcceptTells returns true for every roots, certificates and bound, and leaves its arguments as they were. No condition.
-/
import Derived.Test.YtdgmjablkdemmaaGreatDRun
import Derived.Test.YtdgmjablkdemmaaGreatUAwake
import Derived.Test.YtdgmjablkdemmaaGreatULarge
import Derived.Test.YtdgmjablkdemmaaGreatUArgs
import Derived.SizedLaws
namespace Go.Proofs.YtdgmjablkdemmaaGreat
open Go.RowKit Go.Maps

/-- 'ints', of lists that are the same. -/
theorem ints_same (w : World) (va vb : Value) (a : List Int) (G G' : Nat → Prop) (ha : IntsAt w va G a) (hb : IntsAt w vb G' a) :
    Calls Tryz.prog 31 #[va, vb] w fun e w' => e = .returned (.bool true) ∧ Chg (fun _ => False) w w' := by
  obtain ⟨la, ca, rfl, hl1, hl3⟩ := ha
  obtain ⟨lb, cb, rfl, hm1, hm3⟩ := hb
  have HL3 := Lib.hid hl3
  have HM3 := Lib.hid hm3
  unfold maxLen at hl1 hm1
  clear hl3 hm3
  have hne : ((a.length : Int) != (a.length : Int)) = false := by simp
  go_enter Tryz.func31, Tryz.ntmps31
  go_wp2
  go_loopw [13] (fun iv wr => ∃ k : Nat, k ≤ a.length ∧ iv = .int .i64 k ∧ Chg (fun _ => False) w wr) (fun iv _ => a.length - (intOf iv).toNat)
  case atStart => exact ⟨0, by omega, rfl, Chg.refl _ _⟩
  case round =>
    obtain ⟨k, hk, rfl, hc⟩ := hrel
    by_cases hlt : k < a.length
    · obtain ⟨x, hx⟩ : ∃ x, a[k]? = some x := ⟨_, List.getElem?_eq_getElem hlt⟩
      obtain ⟨ga, oa, rfl, _, a0⟩ := HL3.out k _ hx
      obtain ⟨gb, ob, rfl, _, b0⟩ := HM3.out k _ hx
      have c0 := cell_chg hc (fun e => e) a0
      have e0 := cell_chg hc (fun e => e) b0
      have HC := Lib.hid hc
      have g1 : (x == x) = true := by simp
      clear a0 b0 hc hx
      go_wp2
      go_quiet (fail)
      rename_i nq
      have HC2 := Lib.hid (HC.out.drewN nq)
      go_wp2
      go_roundw
      case rel => exact ⟨k + 1, by omega, by go_num, HC2.out⟩
      case measure => simp [intOf]; omega
    · obtain rfl : k = a.length := by omega
      go_wp2
      go_ret
      exact ⟨rfl, hc⟩
/-! a run's answer, error or not -/
def runK (R : List BRul) (C : List BCert) (b : Int) : Int := match acceptE R C b with
  | .ok _ => 0
  | .error k => k
def runO (R : List BRul) (C : List BCert) (b : Int) : List Nat := match acceptE R C b with
  | .ok s => s.order
  | .error _ => []
def runR (R : List BRul) (C : List BCert) (b : Int) : List BRul := match acceptE R C b with
  | .ok s => s.rules
  | .error _ => []
def RunU (w : World) (K : Int) (O : List Nat) (L : List BRul) (e : Ending) (w' : World) : Prop :=
  ∃ (oa va : Option Addr) (oc vc : Nat), e = .returned (.tuple #[.agg #[.slice oa O.length oc, .slice va L.length vc], .int .i64 K]) ∧
    w'.ownsRow w.heap.size 3 1 (.slice oa O.length oc) O.length (ints O) ∧ w'.ownsRow w.heap.size 73 2 (.slice va L.length vc) L.length (ruleCells L) ∧ Chg (fun _ => False) w w'
theorem runU_of {w w' : World} {R : List BRul} {C : List BCert} {b : Int} {e : Ending} (h : RunRes w R C b e w') : RunU w (runK R C b) (runO R C b) (runR R C b) e w' := by
  obtain ⟨hc, ⟨k, _, hk, rfl⟩ | ⟨s, oa, va, oc, vc, hs, rfl, h1, h2⟩⟩ := h
  · refine ⟨none, none, 0, 0, ?_, ?_, ?_, hc⟩
    · unfold runO runR runK; rw [hk]; rfl
    · unfold runO; rw [hk]; exact World.ownsRow_nil _ _ _ _
    · unfold runR; rw [hk]; exact World.ownsRow_nil _ _ _ _
  · refine ⟨oa, va, oc, vc, ?_, ?_, ?_, hc⟩
    · unfold runO runR runK; rw [hs]
    · unfold runO; rw [hs]; exact h1
    · unfold runR; rw [hs]; exact h2
theorem runO_lt {R : List BRul} {C : List BCert} {b : Int} : (runO R C b).length ≤ C.length := by
  unfold runO
  cases h : acceptE R C b with
  | error k => exact Nat.zero_le _
  | ok s => exact (accept_fin h).1.len
theorem runR_few {R : List BRul} {C : List BCert} {b : Int} (hR : R.length ≤ 400 → ∀ r ∈ R, r.1.size ≤ 400 ∧ r.2.size ≤ maxLen) : (runR R C b).length ≤ 400 ∧ ∀ r ∈ runR R C b, r.1.size ≤ maxLen ∧ r.2.size ≤ maxLen := by
  unfold runR
  cases h : acceptE R C b with
  | error k => exact ⟨Nat.zero_le _, fun r hr => by cases hr⟩
  | ok s =>
    obtain ⟨hall, hneed, _⟩ := accept_ok h
    obtain ⟨h1, h2⟩ := (accept_fin h).1.inv.few hneed (hR (by omega)) (certs_words hall)
    exact ⟨h1, fun r hr => by have := h2 r hr; unfold maxLen at *; omega⟩
set_option maxHeartbeats 16000000 in
set_option maxRecDepth 100000 in
theorem tells12_law (w : World) (v u : Value) (bnd : Int) (R : List BRul) (P : List (BCert × Value)) (hv : RulesArg w v R) (hf : RulesFit R) (hca : CertsArg w u P) (_ : CertsFit P) :
    Calls Tryz.prog 4 #[v, u, .int .i64 bnd] w fun e w' => e = .returned (.bool true) ∧ Chg (fun _ => False) w w' := by
  have hu := hca.at_
  obtain ⟨ra, rc, rfl, hl0, _⟩ := hv.at_
  have HV := Lib.hid hv
  have HF := Lib.hid hf
  have HU := Lib.hid hu
  obtain ⟨la, cap, rfl, hu0, _⟩ := hu
  have AW := Lib.hid (awake12_any w)
  have LG := Lib.hid (fun w1 (k : Chg (fun _ => False) w w1) => large12_any w1 ra R rc _ P bnd _ _ (HV.out.at_.chg k (fun _ _ e => e)) (HU.out.chg k (fun _ _ e => e)))
  clear hv hf hca
  go_enter Tryz.func4, Tryz.ntmps4
  go_wp2_with fail
  (with_reducible refine (AW.out).mono ?_)
  rintro e w1 ⟨rfl, k1⟩
  have K1 := Lib.hid k1
  have L1 := Lib.hid (LG.out w1 k1)
  clear AW LG k1
  go_wp2_with fail
  (with_reducible refine (L1.out).mono ?_)
  rintro e w1' ⟨lg, rfl, rfl, hlg⟩
  clear L1
  cases lg with
  | true =>
    go_wp2
    go_ret
    exact ⟨rfl, K1.out⟩
  | false =>
  have FIT := Lib.hid (hlg rfl)
  have hpl := FIT.out.1
  rw [certsOf_length] at hpl
  clear hlg
  have HR1 := HV.out.at_.chg K1.out (fun _ _ e => e)
  have SRC := Lib.hid (rules_src HR1)
  have RSZ := Lib.hid (show ∀ r ∈ R, r.1.size ≤ maxLen ∧ r.2.size ≤ maxLen from fun r hr => by
    have := HF.out.1 r hr; unfold maxLen; omega)
  have hR32 := HF.out.2
  have hl1 : R.length ≤ 140737488355328 := by omega
  have SMALL := Lib.hid (show R.length ≤ 400 → ∀ r ∈ R, r.1.size ≤ 400 ∧ r.2.size ≤ maxLen from fun h r hr => by
    rcases FIT.out.2.1 with q | q
    · have := q.2 r hr; unfold maxLen; omega
    · omega)
  have FEW := Lib.hid (show (R.length ≤ 400 ∧ ∀ r ∈ R, r.1.size ≤ 400) ∨ 400 < R.length from by
    by_cases h : R.length ≤ 400
    · exact .inl ⟨h, fun r hr => (SMALL.out h r hr).1⟩
    · exact .inr (by omega))
  have CSZ := Lib.hid (show ∀ c ∈ certsOf P, c.sp.size ≤ 140737488355328 ∧ Sizes c.fr from fun c hc => by
    obtain ⟨q1, q2, q3⟩ := FIT.out.2.2 c hc
    exact ⟨by omega, fun x hx => by have := q3 x hx; omega⟩)
  have RLN := Lib.hid (ruleCells_length R)
  have RON := Lib.hid (ruleCells_one R)
  have RNIL := Lib.hid (show ra = none → R.length = 0 ∧ rc = 0 from fun e => HV.out.nil _ _ (by rw [e]))
  clear HR1 hl0
  go_wp2_with (at_builtin; refine wpList_pushS rfl (.tmp 24) (.tmp 25) 58 rfl 73 2 32 Tryz.underlying58 Tryz.elemRule w1.heap.size _ 0 [] rfl (own_empty _ _ _ _ (Nat.le_refl _)) ra R.length rc (ruleCells R) rfl ?a1 ?a2 ?a3 ?a4 ?a5 ?a6 ?a7 ?nx1)
  case a1 => exact RLN.out
  case a2 =>
    intro j u hj
    obtain ⟨g', o', e, c1⟩ := SRC.out j u hj
    exact ⟨g', o', e, cell_chg (chg_alloc (fun _ => False) w1 _) (fun e => e) c1⟩
  case a3 => exact RNIL.out
  case a4 => exact RON.out
  case a5 => omega
  case a6 => unfold maxLen; omega
  case a7 => simp
  intro v2 w2 o2 g2
  obtain ⟨ga, gc, rfl⟩ := own_shape o2
  have k2 : Chg (fun _ => False) w1 w2 := (chg_alloc (fun _ => False) w1 (.cells #[] 73)).next (Chg.of_grown g2) (fun x hx e => by
    have e2 : w1.heap.size = x := by simpa [Value.ownBlock] using e
    omega)
  have K2 := Lib.hid (K1.out.trans k2)
  have OWN := Lib.hid (show w2.ownsRow w1.heap.size 73 2 (.slice ga R.length gc) R.length (ruleCells R) from by simpa using o2)
  have RN := Lib.hid ((run_any w2 ga R gc _ P bnd (· < w2.heap.size) (rulesAt_own OWN.out RSZ.out) (fun e => by subst e; exact own_nil OWN.out) hl1 (fun h r hr => (SMALL.out h r hr).1) ((HU.out.chg K2.out (fun _ _ e => e)).up (fun j hj => Nat.lt_of_lt_of_le hj K2.out.size)) (by omega) (fun k hk => hk)).mono fun e w' h => runU_of h)
  have RR := Lib.hid (fun w3 (q : Chg (fun _ => False) w w3) => (rrun12_any w3 ra R rc _ P bnd (· < w.heap.size) (HV.out.at_.chg q (fun _ _ e => e)) RNIL.out hl1 (fun h r hr => (SMALL.out h r hr).1) (HU.out.chg q (fun _ _ e => e)) (by omega) HF.out.1 CSZ.out).mono fun e w' h => runU_of h)
  have OLEN := Lib.hid (show (runO R (certsOf P) bnd).length ≤ P.length from by have := @runO_lt R (certsOf P) bnd; rwa [certsOf_length] at this)
  have RFEW := Lib.hid (runR_few (C := certsOf P) (b := bnd) SMALL.out)
  unfold RunU at RN RR
  generalize runK R (certsOf P) bnd = K at *
  generalize runO R (certsOf P) bnd = O at *
  generalize runR R (certsOf P) bnd = L at *
  clear o2 g2 k2 SRC RLN RON K1 hR32
  go_wp2_with fail
  (with_reducible refine (RN.out).mono ?_)
  rintro e w3 ⟨oa, va, oc, vc, rfl, ho3, hr3, k3⟩
  have ka := chg_alloc (fun _ => False) w3 (.cells #[.slice oa O.length oc, .slice va L.length vc] 61)
  have RO := Lib.hid (obj_alloc_new w3 (.cells #[.slice oa O.length oc, .slice va L.length vc] 61))
  have K23 := Lib.hid (k3.trans ka)
  have ORD := Lib.hid (own_chg ho3 ka (fun _ _ e => e))
  have RUL := Lib.hid (own_chg hr3 ka (fun _ _ e => e))
  have RR4 := Lib.hid (RR.out _ (K2.out.trans K23.out))
  clear RN ka k3 ho3 hr3 RR
  go_wp2_with fail
  generalize hw4 : w3.alloc (.cells #[.slice oa O.length oc, .slice va L.length vc] 61) = w4 at *
  clear hw4
  generalize w3.heap.size = ba at *
  (with_reducible refine (RR4.out).mono ?_)
  rintro e w5 ⟨pa, qa, pc, qc, rfl, ho5, hr5, k5⟩
  have ka := chg_alloc (fun _ => False) w5 (.cells #[.slice pa O.length pc, .slice qa L.length qc] 64)
  have RB := Lib.hid (obj_alloc_new w5 (.cells #[.slice pa O.length pc, .slice qa L.length qc] 64))
  have K25 := Lib.hid (K23.out.trans (k5.trans ka))
  have k45 := k5.trans ka
  have ORB := Lib.hid (own_chg ho5 ka (fun _ _ e => e))
  have RUB := Lib.hid (own_chg hr5 ka (fun _ _ e => e))
  have ORA := Lib.hid (own_chg ORD.out k45 (fun _ _ e => e))
  have RUA := Lib.hid (own_chg RUL.out k45 (fun _ _ e => e))
  have RA := Lib.hid (k45.obj (fun e => e) RO.out)
  clear ka k5 k45 ho5 hr5 RR4 ORD RUL RO K23
  have hKK : (K != K) = false := by simp
  have hKK2 : (K == K) = true := by simp
  have a0 := cell_of (o := 0) RA.out rfl
  have a1 := cell_of (o := 1) RA.out rfl
  have b0 := cell_of (o := 0) RB.out rfl
  have b1 := cell_of (o := 1) RB.out rfl
  have SI := Lib.hid (show Calls Tryz.prog 31 #[.slice oa O.length oc, .slice pa O.length pc] _ _ from ints_same _ _ _ (natI O) _ _ (intsAt_own ORA.out) (intsAt_own ORB.out))
  have SR := Lib.hid (fun w8 (q : Chg (fun _ => False) (w5.alloc (.cells #[.slice pa O.length pc, .slice qa L.length qc] 64)) w8) => rules_same w8 _ _ L _ _ (rulesAt_own (own_chg RUA.out q (fun _ _ e => e)) RFEW.out.2) (rulesAt_own (own_chg RUB.out q (fun _ _ e => e)) RFEW.out.2))
  have hs2 : w.heap.size ≤ w2.heap.size := K2.out.size
  have SO := Lib.hid (fun w8 (q : Chg (fun k => w2.heap.size ≤ k) w2 w8) => rules_same w8 _ _ R _ _ (rulesAt_own (own_chg OWN.out q (fun k hk e => by have := (OWN.out.lt k hk).2; omega)) RSZ.out) ((HV.out.at_.chg K2.out (fun _ _ e => e)).chg q (fun k hk e => by omega)))
  go_wp2_with fail
  generalize hw6 : w5.alloc (.cells #[.slice pa O.length pc, .slice qa L.length qc] 64) = w6 at *
  clear hw6
  generalize w5.heap.size = bb at *
  (with_reducible refine (SI.out).mono ?_)
  rintro e w7 ⟨rfl, k7⟩
  have KA7 := Lib.hid k7
  have a17 := cell_chg k7 (fun e => e) a1
  have b17 := cell_chg k7 (fun e => e) b1
  have SR7 := Lib.hid (SR.out w7 k7)
  clear SI k7 SR a0 b0 a1 b1
  go_wp2_with fail
  (with_reducible refine (SR7.out).mono ?_)
  rintro e w8 ⟨rfl, k8⟩
  have KA8 := Lib.hid (KA7.out.trans k8)
  have SO8 := Lib.hid (SO.out w8 ((K25.out.trans KA8.out).mono (fun _ _ e => e.elim)))
  clear SR7 k8 KA7 a17 b17
  go_wp2_with fail
  (with_reducible refine (SO8.out).mono ?_)
  rintro e w9 ⟨rfl, k9⟩
  have KA9 := Lib.hid (KA8.out.trans k9)
  clear SO8 k9 KA8
  go_wp2_with fail
  go_loopw [68] (fun iv wz => ∃ i : Nat, i ≤ P.length ∧ iv = .int .i64 i ∧ Hid (Chg (fun _ => False) w6 wz)) (fun iv _ => P.length - (intOf iv).toNat)
  case atStart => exact ⟨0, by omega, rfl, Lib.hid KA9.out⟩
  case round =>
    obtain ⟨i, hi, rfl, HI⟩ := hrel
    have KC := Lib.hid HI.out
    have KW := Lib.hid ((K2.out.trans K25.out).trans HI.out)
    have A1 := Lib.hid (HI.out.obj (fun e => e) RA.out)
    have B1 := Lib.hid (HI.out.obj (fun e => e) RB.out)
    clear HI
    by_cases hil : i < P.length
    rotate_left
    · obtain rfl : i = P.length := by omega
      have a1 := cell_of (o := 1) A1.out rfl
      have Z0 := Lib.hid (show 0 < L.length → ∃ (g : Nat) (cs : Array Value), va = some ⟨g, 0, none⟩ ∧ wr.heap[g]? = some (.cells cs 73 (0, 0)) ∧ L.length * 2 ≤ cs.size from fun h0 => by
        obtain ⟨_, ⟨q, h⟩ | ⟨g, cap, cur, q, _, hob, h1, _, h3, _⟩⟩ := RUA.out
        · omega
        · cases q
          exact ⟨g, cur, rfl, KC.out.obj (fun e => e) hob, by rw [h3]; omega⟩)
      have K6 := Lib.hid (K2.out.trans K25.out)
      have hll := RFEW.out.1
      obtain ⟨wo, hwo⟩ : ∃ wo : World, wo = wr := ⟨_, rfl⟩
      rw [← hwo] at KC KW A1 B1 a1 Z0
      rw [← hwo]
      clear hwo B1
      go_wp2_with fail
      clear a1
      go_loopw [112] (fun iv wq => ∃ j : Nat, j ≤ L.length ∧ iv = .int .i64 j ∧ Hid (Chg (fun k => (Value.slice va L.length vc).ownBlock = some k) w6 wq ∧ (0 < L.length → ∃ (g : Nat) (cs : Array Value), va = some ⟨g, 0, none⟩ ∧ wq.heap[g]? = some (.cells cs 73 (0, 0)) ∧ L.length * 2 ≤ cs.size))) (fun iv _ => L.length - (intOf iv).toNat)
      case atStart => exact ⟨0, by omega, rfl, Lib.hid ⟨KC.out.mono (fun _ _ e => e.elim), Z0.out⟩⟩
      case round =>
        obtain ⟨j, hj, rfl, HJ⟩ := hrel
        have KJ := Lib.hid HJ.out.1
        have ZJ := Lib.hid HJ.out.2
        have AJ := Lib.hid (HJ.out.1.obj (fun e => row_ne RUA.out RA.out (by decide) e) RA.out)
        clear HJ
        by_cases hjl : j < L.length
        · obtain ⟨g, cs, rfl, hob, hsz⟩ := ZJ.out (by omega)
          have a1 := cell_of (o := 1) AJ.out rfl
          have c0 := cell_of (o := j * 2) hob (Array.getElem?_eq_getElem (by omega))
          have c1 := cell_of (o := j * 2 + 1) hob (Array.getElem?_eq_getElem (by omega))
          have f0 := frozen_of (o := j * 2) hob
          have f1 := frozen_of (o := j * 2 + 1) hob
          have N1 := Lib.hid (show ∀ W, W = (wr.setCell ⟨g, j * 2, none⟩ (.string ⟨#[]⟩)).setCell ⟨g, j * 2 + 1, none⟩ (.string ⟨#[]⟩) → Chg (fun k => (Value.slice (some ⟨g, 0, none⟩) L.length vc).ownBlock = some k) w6 W ∧ ∃ ds : Array Value, W.heap[g]? = some (.cells ds 73 (0, 0)) ∧ L.length * 2 ≤ ds.size from fun W hW => by
            subst hW
            have h1 := obj_setCell (o := j * 2) hob (.string ⟨#[]⟩)
            have h2 := obj_setCell (o := j * 2 + 1) h1 (.string ⟨#[]⟩)
            exact ⟨(KJ.out.setCell (p := ⟨g, j * 2, none⟩) (fun _ => rfl) _).setCell (p := ⟨g, j * 2 + 1, none⟩) (fun _ => rfl) _, _, h2, by simpa using hsz⟩)
          clear hob ZJ KJ
          go_wp2
          obtain ⟨W, hW⟩ : ∃ W, W = (wr.setCell ⟨g, j * 2, none⟩ (.string ⟨#[]⟩)).setCell ⟨g, j * 2 + 1, none⟩ (.string ⟨#[]⟩) := ⟨_, rfl⟩
          have N2 := Lib.hid (N1.out W hW)
          rw [← hW]
          clear hW N1
          go_roundw
          case rel => exact ⟨j + 1, by omega, by go_num, Lib.hid ⟨N2.out.1, fun _ => by
            obtain ⟨ds, q1, q2⟩ := N2.out.2
            exact ⟨g, ds, rfl, q1, q2⟩⟩⟩
          case measure => simp [intOf]; omega
        · obtain rfl : j = L.length := by omega
          have hrl : ∀ k, (Value.slice va L.length vc).ownBlock = some k → w2.heap.size ≤ k := fun k hk => (RUA.out.lt k hk).1
          have K2J := Lib.hid (show Chg (fun k => w2.heap.size ≤ k) w2 wr from (K25.out.mono (T := fun k => w2.heap.size ≤ k) (fun _ _ e => e.elim)).trans (KJ.out.mono (fun k _ e => hrl k e)))
          have KJW := Lib.hid (show Chg (fun _ => False) w wr from K6.out.next KJ.out (fun k hk e => by have := hrl k e; omega))
          have SOJ := Lib.hid (SO.out wr K2J.out)
          clear hrl SO
          go_wp2_with fail
          (with_reducible refine (SOJ.out).mono ?_)
          rintro e wz ⟨rfl, kz⟩
          have KZ := Lib.hid (KJW.out.trans kz)
          clear kz SOJ
          go_wp2
          go_ret
          exact ⟨rfl, KZ.out⟩
    obtain ⟨⟨c, sv⟩, hp⟩ : ∃ p, P[i]? = some p := ⟨_, List.getElem?_eq_getElem hil⟩
    have hc := certsOf_get hp
    obtain ⟨_, _, e1, _, hcl⟩ := HU.out
    cases e1
    obtain ⟨g, o, sa, sc, rfl, hgg, hsv, c0, c1, c2, c3, c4, c5, c6, hca⟩ := hcl i _ hp
    simp only at hsv
    subst hsv
    simp only at c0 c1 c2 c3 c4 c5 c6 hca hc
    have hcz := CSZ.out c (List.mem_of_getElem? hc)
    have CELLS := fun w5 (q : Chg (fun _ => False) w w5) => And.intro (cell_chg q (fun e => e) c0) (And.intro (cell_chg q (fun e => e) c1) (And.intro (cell_chg q (fun e => e) c2) (And.intro (cell_chg q (fun e => e) c3) (And.intro (cell_chg q (fun e => e) c4) (And.intro (cell_chg q (fun e => e) c5) (cell_chg q (fun e => e) c6))))))
    have BA := Lib.hid (fun w5 (q : Chg (fun _ => False) w w5) => backed_any w5 ra R rc bnd c sa sc (· < w.heap.size) (rules_up HV.out.at_ q) FEW.out (hca.chg q (fun _ _ e => e)) (fun k hk => Nat.lt_of_lt_of_le hk q.size))
    have BR := Lib.hid (fun w5 (q : Chg (fun _ => False) w w5) => rback12_any w5 ra R rc bnd c sa sc (· < w.heap.size) (rules_up HV.out.at_ q) FEW.out HF.out.1 (hca.chg q (fun _ _ e => e)) hcz.1 hcz.2)
    have HAS := Lib.hid (fun w5 (q : Chg (fun _ => False) w6 w5) => has_own (va := va) (vn := L.length) (vc := vc) (own_chg ORA.out q (fun _ _ e => e)) i i rfl)
    have HBS := Lib.hid (fun w5 (q : Chg (fun _ => False) w6 w5) => has12_own (va := qa) (vn := L.length) (vc := qc) (own_chg ORB.out q (fun _ _ e => e)) i i rfl)
    unfold BackedRes at BA BR
    generalize backedE R bnd c = res at *
    generalize decide (i ∈ O) = hb at *
    obtain ⟨r1, r2⟩ := res
    clear hcl hp hcz c0 c1 c2 c3 c4 c5 c6 hgg hca hc
    obtain ⟨kind, sg, sp, fr, f, t, num⟩ := c
    unfold certV at BA BR
    simp only at CELLS BA BR
    have CELLS := Lib.hid CELLS
    obtain ⟨c0, c1, c2, c3, c4, c5, c6⟩ := CELLS.out wr KW.out
    have BA1 := Lib.hid (BA.out wr KW.out)
    clear BA
    go_wp2_with fail
    (with_reducible refine (BA1.out).mono ?_)
    rintro e wa ⟨rfl, ka⟩
    have KCa := Lib.hid (KC.out.trans ka)
    have KWa := Lib.hid (KW.out.trans ka)
    clear c0 c1 c2 c3 c4 c5 c6 BA1 ka KC KW
    obtain ⟨c0, c1, c2, c3, c4, c5, c6⟩ := CELLS.out wa KWa.out
    have BR1 := Lib.hid (BR.out wa KWa.out)
    clear BR
    go_wp2_with fail
    (with_reducible refine (BR1.out).mono ?_)
    rintro e wb ⟨rfl, kb⟩
    have KCb := Lib.hid (KCa.out.trans kb)
    have KWb := Lib.hid (KWa.out.trans kb)
    clear c0 c1 c2 c3 c4 c5 c6 BR1 kb KCa KWa CELLS
    have hr1 : (r1 != r1) = false := by simp
    have hr1b : (r1 == r1) = true := by simp
    have hr2 : (r2 != r2) = false := by simp
    have hr2b : (r2 == r2) = true := by simp
    have AA := Lib.hid (fun wz (q : Chg (fun _ => False) w6 wz) => q.obj (fun e => e) RA.out)
    have BB := Lib.hid (fun wz (q : Chg (fun _ => False) w6 wz) => q.obj (fun e => e) RB.out)
    have S0 := Lib.hid (fun wz (q : Chg (fun _ => False) w6 wz) => show wz.cell? ⟨ba, 0, none⟩ = some (.slice oa O.length oc) ∧ wz.cell? ⟨ba, 1, none⟩ = some (.slice va L.length vc) ∧ wz.cell? ⟨bb, 0, none⟩ = some (.slice pa O.length pc) ∧ wz.cell? ⟨bb, 1, none⟩ = some (.slice qa L.length qc) from ⟨cell_of (AA.out wz q) rfl, cell_of (AA.out wz q) rfl, cell_of (BB.out wz q) rfl, cell_of (BB.out wz q) rfl⟩)
    clear AA BB A1 B1
    go_wp2_with fail
    refine wp_region_plan (N := 124) [.rd [0, 1, 2, 3, 4, 5, 6, 7, 8, 9, 10, 12, 13], .ef 11, .ef 14, .rd [15, 16]] (fun W => W.cell? ⟨ba, 0, none⟩ = some (.slice oa O.length oc) ∧ W.cell? ⟨ba, 1, none⟩ = some (.slice va L.length vc) ∧ W.cell? ⟨bb, 0, none⟩ = some (.slice pa O.length pc) ∧ W.cell? ⟨bb, 1, none⟩ = some (.slice qa L.length qc)) (by kernel_rfl) (by kernel_rfl) (by kernel_rfl) (by kernel_rfl) (Nat.le_of_ble_eq_true rfl) (S0.out _ KCb.out.drew) ?_
    refine plan_rd (A := ?A1) ?h1 ?h2
    case h1 =>
      rintro w' ⟨z0, z1, z2, z3⟩ K hK
      simp only [opsAt, List.filterMap_cons, List.filterMap_nil, List.getElem?_toArray, List.getElem?_cons_succ, List.getElem?_cons_zero]
      refine WS.out ?_
      repeat (refine ws_step (fun K hK => ?_); go_simp; refine hK _ ?_; clear hK K)
      refine ws_nil ?_
      exact hK
    have KCd := Lib.hid KCb.out.drew
    clear KCb KWb
    generalize wb.drew = wd at *
    have HA := Lib.hid (HAS.out wd KCd.out)
    refine plan_ef rfl ?_
    go_wp2_with fail
    (with_reducible refine (HA.out).mono ?_)
    rintro e we ⟨rfl, ke⟩
    have KCe := Lib.hid (KCd.out.trans ke)
    have HB := Lib.hid (HBS.out we KCe.out)
    clear HA HAS HBS ke KCd
    go_wp2_with fail
    refine ⟨S0.out _ KCe.out, ?_⟩
    refine plan_ef rfl ?_
    go_wp2_with fail
    (with_reducible refine (HB.out).mono ?_)
    rintro e wf ⟨rfl, kf⟩
    have KCf := Lib.hid (KCe.out.trans kf)
    clear HB kf KCe
    go_wp2_with fail
    refine ⟨S0.out _ KCf.out, ?_⟩
    have hhb : (hb != hb) = false := by simp
    have hhb2 : (hb == hb) = true := by simp
    refine plan_rd (A := ?A2) ?h3 ?h4
    case h3 =>
      rintro w' ⟨z0, z1, z2, z3⟩ K hK
      simp only [opsAt, List.filterMap_cons, List.filterMap_nil, List.getElem?_toArray, List.getElem?_cons_succ, List.getElem?_cons_zero]
      refine WS.out ?_
      repeat (refine ws_step (fun K hK => ?_); go_simp; refine hK _ ?_; clear hK K)
      refine ws_nil ?_
      exact hK
    refine plan_nil ?_
    go_wp2
    go_roundw
    case rel => exact ⟨i + 1, by omega, by go_num, Lib.hid KCf.out⟩
    case measure => simp [intOf]; omega
end Go.Proofs.YtdgmjablkdemmaaGreat

namespace Go.Proofs.YtdgmjablkdemmaaGreat.AcceptTellsP
open Go.ChangeShapes Go.WideShapes Go.ChangeAt Go.RowKit

set_option maxRecDepth 100000 in
theorem lifted (os : Os) (started : os.Started) (H : Type) (enc : TypeId × Value → H) :
    ReturnsInHanded {} Tryz.checked os 4 .any (Rows.acceptTellsSpec.pre6 enc Tryz.prog Tryz.f4 Rows.acceptTellsRow.domain false) (Rows.acceptTellsSpec.post enc Tryz.prog Tryz.f4 false true false false) := by
  refine returnsInHanded_of_change_sized (C := Tryz.checked) Tryz.own started (by kernel_rfl) Tryz.func4
    (ChangeSpec.witness6 (enc := enc) (C := Tryz.checked) false ⟨#[], #[.slice none 0 0, .slice none 0 0, .int .i64 0], []⟩ 8 (by kernel_rfl) (by kernel_rfl) (by kernel_rfl) (by kernel_rfl)) ?_
  intro W base args ds gs before hval0 hW hcnd hsz _
  have hval : ∀ (j : Nat) t v, Tryz.f4.params[j]? = some t → args[j]? = some v → Value.okWide Tryz.prog W .any base t v := hval0
  have hW' := hW
  obtain ⟨p, q, hA0, hV, rfl, hfz, hnd⟩ := hW
  have hA : DataW.TrodAll enc Tryz.prog W 0 (fun _ => true) true Tryz.f4.params.toList args.toList ds p := hA0
  rw [Tryz.params4] at hA hval
  obtain ⟨v0, vs0, d0, ds0, p0, q0, hargs, rfl, rfl, h0, r0⟩ := trodAll_cons hA
  obtain ⟨v1, vs1, d1, ds1, p1, q1, rfl, rfl, rfl, h1, r1⟩ := trodAll_cons r0
  obtain ⟨v2, vs2, d2, ds2, p2, q2, rfl, rfl, rfl, h2, r2⟩ := trodAll_cons r1
  obtain ⟨rfl, rfl, rfl⟩ := trodAll_nil r2
  obtain rfl : args = #[v0, v1, v2] := by cases args; simp_all
  obtain ⟨rfl, rfl⟩ := trodVars_none hV
  have lt0 : ∀ x ∈ p0, x.block < W.heap.size := by obtain ⟨m, hm⟩ := h0; exact DataW.trod_lt m _ _ _ hm
  have lt1 : ∀ x ∈ p1, x.block < W.heap.size := by obtain ⟨m, hm⟩ := h1; exact DataW.trod_lt m _ _ _ hm
  have lt2 : ∀ x ∈ p2, x.block < W.heap.size := by obtain ⟨m, hm⟩ := h2; exact DataW.trod_lt m _ _ _ hm
  have k0 := h0
  have k1 := h1
  have k2 := h2
  obtain ⟨a0, len0, cap0, rfl⟩ := okWide_slice Tryz.underlying58 (hval 0 58 v0 rfl rfl)
  obtain ⟨l0, hl0, hw0⟩ := rulesArg_of h0
  have hf0 := hw0 (fun x hx => by have := List.all_eq_true.1 hsz x (DataW.weights_mem_each (j := 0) rfl rfl x hx); simpa using this)
  obtain ⟨a1, len1, cap1, rfl⟩ := okWide_slice Tryz.underlying47 (hval 1 47 v1 rfl rfl)
  obtain ⟨l1, hl1, hw1⟩ := certsArg_of h1
  have hf1 := hw1 (fun x hx => by have := List.all_eq_true.1 hsz x (DataW.weights_mem_each (j := 1) rfl rfl x hx); simpa using this)
  obtain ⟨n2, rfl, rfl, rfl, wn2⟩ := open_int Tryz.underlying3 (hval 2 3 v2 rfl rfl) h2
  clear hA0 hval0
  refine (tells12_law W _ _ n2 l0 l1 hl0 hf0 hl1 hf1).mono fun e W' ⟨he, hc⟩ => ?_
  subst he
  have bel : Below W.heap.size W W' := hc.below (fun _ _ e => e) (Nat.le_refl _)
  exact ⟨_, rfl, _, _, _, [], _, [], hW', trodAll_mk1 (shut_bool Tryz.underlying4 _), (trodAll_cons_mk (Below.trod Tryz.laidOut (by kernel_rfl) (of_decide_eq_true (by kernel_rfl)) k0 bel lt0) (trodAll_cons_mk (Below.trod Tryz.laidOut (by kernel_rfl) (of_decide_eq_true (by kernel_rfl)) k1 bel lt1) (trodAll_cons_mk (Below.trod Tryz.laidOut (by kernel_rfl) (of_decide_eq_true (by kernel_rfl)) k2 bel lt2) trodAll_mk0))), rfl, bel.frame _, fun h => by cases h⟩

theorem over : Rows.acceptTellsRow.holds Tryz.pinned (OpenSpec.ofChange Rows.acceptTellsSpec) :=
  OpenClaim.holds_of_wide 4 Tryz.f4 rfl rfl rfl rfl rfl rfl rfl ⟨rfl, rfl, rfl, rfl, rfl⟩ rfl rfl rfl rfl rfl (by kernel_rfl) Tryz.func4 (by kernel_rfl)
    (of_decide_eq_true (by kernel_rfl)) (by unfold Func.isWrapper; first | (rw [if_pos (by decide +kernel)]; kernel_rfl) | (rw [if_neg (by decide +kernel)]; exact ⟨rfl, rfl⟩))
    (fun os started H enc _ => lifted os started H enc)
end Go.Proofs.YtdgmjablkdemmaaGreat.AcceptTellsP
namespace Go.Proofs.YtdgmjablkdemmaaGreat
theorem acceptTells_holds : Rows.AcceptTellsSaid := AcceptTellsP.over
end Go.Proofs.YtdgmjablkdemmaaGreat
