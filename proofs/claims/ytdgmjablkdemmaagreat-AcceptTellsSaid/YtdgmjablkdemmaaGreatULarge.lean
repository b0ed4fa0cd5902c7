/-
  Layer 12: large, rules, the turn of places.
-/
import Derived.Test.YtdgmjablkdemmaaGreatURunAt
import Derived.Test.YtdgmjablkdemmaaGreatULawP
import Derived.Deep.DeepCutAuto
import Derived.Deep.CutBlock
namespace Go.Proofs.YtdgmjablkdemmaaGreat
open Go.RowKit Go.Maps

def Fit12 (R : List BRul) (C : List BCert) : Prop := C.length ≤ 8 ∧ ((R.length ≤ 12 ∧ ∀ r ∈ R, r.1.size ≤ 100 ∧ r.2.size ≤ 100) ∨ 400 < R.length) ∧ ∀ c ∈ C, c.sp.size ≤ 100 ∧ c.fr.length ≤ 20 ∧ ∀ x ∈ c.fr, x.size ≤ 100
def Large12Res (w : World) (R : List BRul) (C : List BCert) (e : Ending) (w' : World) : Prop := ∃ b : Bool, e = .returned (.bool b) ∧ w = w' ∧ (b = false → Fit12 R C)
set_option maxHeartbeats 4000000 in
set_option maxRecDepth 100000 in
theorem large12_any (w : World) (ra : Option Addr) (R : List BRul) (rc : Nat) (v : Value) (P : List (BCert × Value)) (b : Int) (G G' : Nat → Prop) (hR : RulesAt w (.slice ra R.length rc) G R) (hv : CertsAt w v G' P) :
    Calls Tryz.prog 28 #[.slice ra R.length rc, v, .int .i64 b] w (Large12Res w R (certsOf P)) := by
  have HR := Lib.hid hR
  have HV := Lib.hid hv
  obtain ⟨la, cap, rfl, hl0, _⟩ := hv
  obtain ⟨_, _, e0, hr0, _⟩ := hR
  cases e0
  unfold maxLen at hl0 hr0
  have FIN := Lib.hid (show (P.length ≤ 8 ∧ (R.length ≤ 12 ∨ 400 < R.length)) → (∀ (j : Nat) r, j < R.length → j ≤ 400 → R[j]? = some r → r.1.size ≤ 100 ∧ r.2.size ≤ 100) → (∀ (j : Nat) p, j < P.length → P[j]? = some p → p.1.sp.size ≤ 100 ∧ p.1.fr.length ≤ 20 ∧ ∀ x ∈ p.1.fr, x.size ≤ 100) → Fit12 R (certsOf P) from fun h1 h2 h3 => by
    refine ⟨by rw [certsOf_length]; exact h1.1, h1.2.imp (fun q => ⟨q, fun r hr => ?_⟩) id, fun c hc => ?_⟩
    · obtain ⟨j, hj⟩ := List.mem_iff_getElem?.1 hr
      have := (List.getElem?_eq_some_iff.1 hj).1
      exact h2 j r this (by omega) hj
    · unfold certsOf at hc
      obtain ⟨p, hp, rfl⟩ := List.mem_map.1 hc
      obtain ⟨j, hj⟩ := List.mem_iff_getElem?.1 hp
      exact h3 j p (List.getElem?_eq_some_iff.1 hj).1 hj)
  go_enter Tryz.func28, Tryz.ntmps28
  go_upto_region 1 with fail
  go_cut [30] (fun cv wc => ∃ x : Bool, cv = .bool x ∧ Hid (w = wc) ∧ Hid (x = false → P.length ≤ 8 ∧ (R.length ≤ 12 ∨ 400 < R.length)))
  case first =>
    by_cases h8 : 8 < P.length
    · have g8 : decide (8 < (P.length : Int)) = true := decide_eq_true (by omega)
      have g8' : decide (8 < P.length) = true := decide_eq_true h8
      go_wp2
      go_meet
      case rel => exact ⟨true, rfl, Lib.hid rfl, Lib.hid (fun e => by cases e)⟩
    have g8 : decide (8 < (P.length : Int)) = false := decide_eq_false (by omega)
    have g8' : decide (8 < P.length) = false := decide_eq_false h8
    by_cases h12 : 12 < R.length
    · have g12 : decide (12 < (R.length : Int)) = true := decide_eq_true (by omega)
      have g12' : decide (12 < R.length) = true := decide_eq_true h12
      by_cases h4 : R.length ≤ 400
      · have g4 : decide ((R.length : Int) ≤ 400) = true := decide_eq_true (by omega)
        have g4' : decide (R.length ≤ 400) = true := decide_eq_true h4
        go_wp2
        go_meet
        case rel => exact ⟨true, rfl, Lib.hid rfl, Lib.hid (fun e => by cases e)⟩
      have g4 : decide ((R.length : Int) ≤ 400) = false := decide_eq_false (by omega)
      have g4' : decide (R.length ≤ 400) = false := decide_eq_false h4
      have RR := Lib.hid (show P.length ≤ 8 ∧ (R.length ≤ 12 ∨ 400 < R.length) from ⟨by omega, .inr (by omega)⟩)
      clear h12 h4
      by_cases h40 : 40 < b
      · have g40 : decide (40 < b) = true := decide_eq_true h40
        by_cases h50 : b ≤ 5000
        · have g50 : decide (b ≤ 5000) = true := decide_eq_true h50
          go_wp2
          go_meet
          case rel => exact ⟨true, rfl, Lib.hid rfl, Lib.hid (fun e => by cases e)⟩
        · have g50 : decide (b ≤ 5000) = false := decide_eq_false h50
          go_wp2
          go_meet
          case rel => exact ⟨false, rfl, Lib.hid rfl, Lib.hid (fun _ => RR.out)⟩
      · have g40 : decide (40 < b) = false := decide_eq_false h40
        go_wp2
        go_meet
        case rel => exact ⟨false, rfl, Lib.hid rfl, Lib.hid (fun _ => RR.out)⟩
    · have g12 : decide (12 < (R.length : Int)) = false := decide_eq_false (by omega)
      have g12' : decide (12 < R.length) = false := decide_eq_false h12
      have RR := Lib.hid (show P.length ≤ 8 ∧ (R.length ≤ 12 ∨ 400 < R.length) from ⟨by omega, .inl (by omega)⟩)
      clear h12
      by_cases h40 : 40 < b
      · have g40 : decide (40 < b) = true := decide_eq_true h40
        by_cases h50 : b ≤ 5000
        · have g50 : decide (b ≤ 5000) = true := decide_eq_true h50
          go_wp2
          go_meet
          case rel => exact ⟨true, rfl, Lib.hid rfl, Lib.hid (fun e => by cases e)⟩
        · have g50 : decide (b ≤ 5000) = false := decide_eq_false h50
          go_wp2
          go_meet
          case rel => exact ⟨false, rfl, Lib.hid rfl, Lib.hid (fun _ => RR.out)⟩
      · have g40 : decide (40 < b) = false := decide_eq_false h40
        go_wp2
        go_meet
        case rel => exact ⟨false, rfl, Lib.hid rfl, Lib.hid (fun _ => RR.out)⟩
  case rest =>
    obtain ⟨x, rfl, hw, hx⟩ := hcut
    have hw := hw.out
    subst hw
    cases x with
    | true =>
      go_wp2
      go_ret
      exact ⟨true, rfl, rfl, fun e => by cases e⟩
    | false =>
    have HX := Lib.hid (hx.out rfl)
    clear hx
    go_wp2
    go_loopw [7] (fun iv wr => ∃ k : Nat, k ≤ R.length ∧ k ≤ 401 ∧ iv = .int .i64 k ∧ Hid (w = wr) ∧ Hid (∀ (j : Nat) r, j < k → R[j]? = some r → r.1.size ≤ 100 ∧ r.2.size ≤ 100)) (fun iv _ => 402 - (intOf iv).toNat)
    case atStart => exact ⟨0, by omega, by omega, rfl, Lib.hid rfl, Lib.hid (fun j r hj => by omega)⟩
    case round =>
      obtain ⟨k, hk, hk4, rfl, hw, HI⟩ := hrel
      have hw := hw.out
      subst hw
      by_cases hlt : k < R.length ∧ k ≤ 400
      · have g1 : decide ((k : Int) < (R.length : Int)) = true := decide_eq_true (by omega)
        have g1' : decide (k < R.length) = true := decide_eq_true hlt.1
        have g2 : decide ((k : Int) ≤ 400) = true := decide_eq_true (by omega)
        have g2' : decide (k ≤ 400) = true := decide_eq_true hlt.2
        have hkl := hlt.1
        have hk400 := hlt.2
        obtain ⟨⟨rf, rt⟩, hr⟩ : ∃ r, R[k]? = some r := ⟨_, List.getElem?_eq_getElem hlt.1⟩
        obtain ⟨_, _, e1, _, hcl⟩ := HR.out
        cases e1
        obtain ⟨lb, lo, rfl, _, c0, c1, z1, z2⟩ := hcl k _ hr
        simp only at c0 c1 z1 z2
        unfold maxLen at z1 z2
        have HRR := Lib.hid hr
        clear hcl hr hlt
        by_cases h1 : 100 < rf.size
        · have g3 : decide (100 < (rf.size : Int)) = true := decide_eq_true (by omega)
          have g3' : decide (100 < rf.size) = true := decide_eq_true h1
          go_wp2
          go_ret
          exact ⟨true, rfl, rfl, fun e => by cases e⟩
        have g3 : decide (100 < (rf.size : Int)) = false := decide_eq_false (by omega)
        have g3' : decide (100 < rf.size) = false := decide_eq_false h1
        by_cases h2 : 100 < rt.size
        · have g4 : decide (100 < (rt.size : Int)) = true := decide_eq_true (by omega)
          have g4' : decide (100 < rt.size) = true := decide_eq_true h2
          go_wp2
          go_ret
          exact ⟨true, rfl, rfl, fun e => by cases e⟩
        have g4 : decide (100 < (rt.size : Int)) = false := decide_eq_false (by omega)
        have g4' : decide (100 < rt.size) = false := decide_eq_false h2
        go_wp2
        go_roundw
        case rel => exact ⟨k + 1, by omega, by omega, by go_num, Lib.hid (by first | trivial | rfl), Lib.hid (fun j r hj hjr => by
          rcases Nat.lt_or_ge j k with q | q
          · exact HI.out j r q hjr
          · obtain rfl : j = k := by omega
            rw [HRR.out] at hjr; cases hjr
            exact ⟨by simp only; omega, by simp only; omega⟩)⟩
        case measure => simp [intOf]; omega
      have RF := Lib.hid (show ∀ (j : Nat) r, j < R.length → j ≤ 400 → R[j]? = some r → r.1.size ≤ 100 ∧ r.2.size ≤ 100 from fun j r h1 h2 hj => HI.out j r (by omega) hj)
      clear HI
      have GO : (decide (k < R.length) = false ∧ decide ((k : Int) < (R.length : Int)) = false) ∨ (decide (k < R.length) = true ∧ decide ((k : Int) < (R.length : Int)) = true ∧ decide ((k : Int) ≤ 400) = false ∧ decide (k ≤ 400) = false) := by
        by_cases hq : k < R.length
        · exact .inr ⟨decide_eq_true hq, decide_eq_true (by omega), decide_eq_false (by omega), decide_eq_false (by omega)⟩
        · exact .inl ⟨decide_eq_false hq, decide_eq_false (by omega)⟩
      clear hlt
      rcases GO with ⟨g1, g2⟩ | ⟨g1, g2, g3, g4⟩
      all_goals
        go_wp2
        go_loopw [59] (fun iv wq => ∃ i : Nat, i ≤ P.length ∧ iv = .int .i64 i ∧ Hid (w = wq) ∧ Hid (∀ (j : Nat) p, j < i → P[j]? = some p → p.1.sp.size ≤ 100 ∧ p.1.fr.length ≤ 20 ∧ ∀ x ∈ p.1.fr, x.size ≤ 100)) (fun iv _ => P.length - (intOf iv).toNat)
        case atStart => exact ⟨0, by omega, rfl, Lib.hid rfl, Lib.hid (fun j r hj => by omega)⟩
        case round =>
          obtain ⟨i, hi, rfl, hw, HI⟩ := hrel
          have hw := hw.out
          subst hw
          by_cases hil : i < P.length
          rotate_left
          · obtain rfl : i = P.length := by omega
            go_wp2
            go_ret
            exact ⟨false, rfl, rfl, fun _ => FIN.out HX.out RF.out HI.out⟩
          obtain ⟨⟨c, sv⟩, hp⟩ : ∃ p, P[i]? = some p := ⟨_, List.getElem?_eq_getElem hil⟩
          obtain ⟨_, _, e1, _, hcl⟩ := HV.out
          cases e1
          obtain ⟨g, o, sa, sc, rfl, hgg, hsv, c0, c1, c2, c3, c4, c5, c6, hca⟩ := hcl i _ hp
          simp only at hsv
          subst hsv
          have HP := Lib.hid hp
          have hsp := hca.sp
          have HS := Lib.hid hca.set.at_
          have hfl : c.fr.length ≤ maxLen := by obtain ⟨_, _, _, q, _⟩ := hca.set.at_; exact q
          simp only at c2 c3
          unfold maxLen at hsp hfl
          clear hcl hp hca c0 c1 c4 c5 c6 hgg
          have NX := Lib.hid (show (c.sp.size ≤ 100 ∧ c.fr.length ≤ 20 ∧ ∀ x ∈ c.fr, x.size ≤ 100) → ∀ (j : Nat) p, j < i + 1 → P[j]? = some p → p.1.sp.size ≤ 100 ∧ p.1.fr.length ≤ 20 ∧ ∀ x ∈ p.1.fr, x.size ≤ 100 from fun z j p hj hjp => by
            rcases Nat.lt_or_ge j i with q | q
            · exact HI.out j p q hjp
            · obtain rfl : j = i := by omega
              rw [HP.out] at hjp; cases hjp
              exact z)
          clear HI HP
          obtain ⟨kind, sg, sp, fr, f, t, num⟩ := c
          simp only at c2 c3 hsp hfl HS NX
          by_cases h1 : 100 < sp.size
          · have m3 : decide (100 < (sp.size : Int)) = true := decide_eq_true (by omega)
            have m3' : decide (100 < sp.size) = true := decide_eq_true h1
            go_wp2
            go_ret
            exact ⟨true, rfl, rfl, fun e => by cases e⟩
          have m3 : decide (100 < (sp.size : Int)) = false := decide_eq_false (by omega)
          have m3' : decide (100 < sp.size) = false := decide_eq_false h1
          by_cases h2 : 20 < fr.length
          · have m4 : decide (20 < (fr.length : Int)) = true := decide_eq_true (by omega)
            have m4' : decide (20 < fr.length) = true := decide_eq_true h2
            go_wp2
            go_ret
            exact ⟨true, rfl, rfl, fun e => by cases e⟩
          have m4 : decide (20 < (fr.length : Int)) = false := decide_eq_false (by omega)
          have m4' : decide (20 < fr.length) = false := decide_eq_false h2
          go_wp2
          go_loopw [84] (fun iv wz => ∃ q : Nat, q ≤ fr.length ∧ iv = .int .i64 q ∧ Hid (w = wz) ∧ Hid (∀ (j : Nat) x, j < q → fr[j]? = some x → x.size ≤ 100)) (fun iv _ => fr.length - (intOf iv).toNat)
          case atStart => exact ⟨0, by omega, rfl, Lib.hid rfl, Lib.hid (fun j r hj => by omega)⟩
          case round =>
            obtain ⟨q, hq, rfl, hw, HQ⟩ := hrel
            have hw := hw.out
            subst hw
            by_cases hql : q < fr.length
            rotate_left
            · obtain rfl : q = fr.length := by omega
              have NX2 := Lib.hid (NX.out ⟨by omega, by omega, fun x hx => by
                obtain ⟨j, hj⟩ := List.mem_iff_getElem?.1 hx
                exact HQ.out j x (List.getElem?_eq_some_iff.1 hj).1 hj⟩)
              go_wp2
              go_roundw
              case rel => exact ⟨i + 1, by omega, by go_num, Lib.hid (by first | trivial | rfl), NX2⟩
              case measure => simp [intOf]; omega
            obtain ⟨x, hx⟩ : ∃ x, fr[q]? = some x := ⟨_, List.getElem?_eq_getElem hql⟩
            obtain ⟨_, _, e1, _, hcl⟩ := HS.out
            cases e1
            obtain ⟨lb, lo, rfl, _, x0, hxs⟩ := hcl q x hx
            unfold maxLen at hxs
            have HXX := Lib.hid hx
            clear hcl hx
            by_cases h3 : 100 < x.size
            · have m5 : decide (100 < (x.size : Int)) = true := decide_eq_true (by omega)
              have m5' : decide (100 < x.size) = true := decide_eq_true h3
              go_wp2
              go_ret
              exact ⟨true, rfl, rfl, fun e => by cases e⟩
            have m5 : decide (100 < (x.size : Int)) = false := decide_eq_false (by omega)
            have m5' : decide (100 < x.size) = false := decide_eq_false h3
            go_wp2
            go_roundw
            case rel => exact ⟨q + 1, by omega, by go_num, Lib.hid (by first | trivial | rfl), Lib.hid (fun j y hj hjy => by
              rcases Nat.lt_or_ge j q with z | z
              · exact HQ.out j y z hjy
              · obtain rfl : j = q := by omega
                rw [HXX.out] at hjy; cases hjy
                omega)⟩
            case measure => simp [intOf]; omega
/-- 'rules', of lists that are the same. -/
theorem rules_same (w : World) (va vb : Value) (a : List BRul) (G G' : Nat → Prop) (ha : RulesAt w va G a) (hb : RulesAt w vb G' a) :
    Calls Tryz.prog 32 #[va, vb] w fun e w' => e = .returned (.bool true) ∧ Chg (fun _ => False) w w' := by
  obtain ⟨la, ca, rfl, hl1, hl3⟩ := ha
  obtain ⟨lb, cb, rfl, hm1, hm3⟩ := hb
  have HL3 := Lib.hid hl3
  have HM3 := Lib.hid hm3
  unfold maxLen at hl1 hm1
  clear hl3 hm3
  have hne : ((a.length : Int) != (a.length : Int)) = false := by simp
  go_enter Tryz.func32, Tryz.ntmps32
  go_wp2
  go_loopw [13] (fun iv wr => ∃ k : Nat, k ≤ a.length ∧ iv = .int .i64 k ∧ Chg (fun _ => False) w wr) (fun iv _ => a.length - (intOf iv).toNat)
  case atStart => exact ⟨0, by omega, rfl, Chg.refl _ _⟩
  case round =>
    obtain ⟨k, hk, rfl, hc⟩ := hrel
    by_cases hlt : k < a.length
    · obtain ⟨⟨x1, x2⟩, hx⟩ : ∃ x, a[k]? = some x := ⟨_, List.getElem?_eq_getElem hlt⟩
      obtain ⟨ga, oa, rfl, _, a0, a1, _⟩ := HL3.out k _ hx
      obtain ⟨gb, ob, rfl, _, b0, b1, _⟩ := HM3.out k _ hx
      have c0 := cell_chg hc (fun e => e) a0
      have c1 := cell_chg hc (fun e => e) a1
      have e0 := cell_chg hc (fun e => e) b0
      have e1 := cell_chg hc (fun e => e) b1
      have HC := Lib.hid hc
      simp only at c0 c1 e0 e1
      have g1 : (x1.toList == x1.toList) = true := by simp
      have g2 : (x2.toList == x2.toList) = true := by simp
      clear a0 b0 a1 b1 hc hx
      go_wp2
      go_quiet (fail)
      rename_i nq
      have HC2 := Lib.hid (HC.out.drewN nq)
      go_wp2
      go_roundw
      case rel => exact ⟨k + 1, by omega, by go_num, HC2.out⟩
      case measure => simp [intOf]; omega
    · obtain rfl : k = a.length := by omega
      go_wp2
      go_ret
      exact ⟨rfl, hc⟩
end Go.Proofs.YtdgmjablkdemmaaGreat
