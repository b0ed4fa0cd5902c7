/-
  Layer 16: many, same; what the arguments' readings say.
-/
import Derived.Test.YtbjdndialiddpaaALaw
import Derived.Test.YtbjdndialiddpaaRArgs
namespace Go.Proofs.Ytbjdndialiddpaa
open Go.RowKit Go.Maps

def EntOk (x : BEnt) : Prop := SetOk x.2
structure NotMany (l : List BEnt) : Prop where
  few : l.length ≤ 30
  sets : ∀ x ∈ l, SetOk x.2
theorem setOk_sizes {s : List ByteArray} (h : SetOk s) : Sizes s := fun x hx => by have := h.2 x hx; omega
set_option maxHeartbeats 1000000 in
set_option maxRecDepth 100000 in
theorem many_any (w : World) (v : Value) (l : List BEnt) (G : Nat → Prop) (hl : EntsAt w v G l) :
    Calls Try.prog 9 #[v] w (LargeRes w (NotMany l)) := by
  obtain ⟨la, cap, rfl, hcap, hcm⟩ := hl.shape
  have HL := Lib.hid hl
  unfold maxLen at hcm
  clear hl
  have BAD := Lib.hid (fun w' k => large_yes w w' (NotMany l) k)
  have GOOD := Lib.hid (show ∀ w', Chg (fun _ => False) w w' → NotMany l → LargeRes w (NotMany l) (.returned (.bool false)) w' from fun w' k h => ⟨false, rfl, fun _ => h, k⟩)
  by_cases h1 : 30 < l.length
  · have g1 : decide (30 < (l.length : Int)) = true := decide_eq_true (by omega)
    go_enter Try.func9, Try.ntmps9
    go_wp2
    go_ret
    exact BAD.out _ (Chg.refl _ _)
  have g1 : decide (30 < (l.length : Int)) = false := decide_eq_false (by omega)
  go_enter Try.func9, Try.ntmps9
  go_wp2
  go_loopw [9] (fun iv wr => ∃ k : Nat, k ≤ l.length ∧ iv = .int .i64 k ∧ Hid ((∀ (j : Nat) x, j < k → l[j]? = some x → EntOk x) ∧ Chg (fun _ => False) w wr)) (fun iv _ => l.length - (intOf iv).toNat)
  case atStart => exact ⟨0, by omega, rfl, Lib.hid ⟨fun j x hj => by omega, Chg.refl _ _⟩⟩
  case round =>
    obtain ⟨k, hk, rfl, HI⟩ := hrel
    by_cases hlt : k < l.length
    · obtain ⟨x, hx⟩ : ∃ x, l[k]? = some x := ⟨_, List.getElem?_eq_getElem hlt⟩
      obtain ⟨g, o, sa, sc, rfl, _, _, d1, hs⟩ := (HL.out.chg HI.out.2 (fun _ _ e => e)).get hx
      have LA := Lib.hid (large16_any _ (.slice none 0 0) _ [] 1 [x.2] G (fun _ => False) ⟨none, 0, rfl, by simp, fun j y hj => by simp at hj⟩ (setsAt_one wr sa x.2.length sc G x.2 hs.at_))
      have HX := Lib.hid hx
      have HS := Lib.hid HI.out.1
      have KC := Lib.hid (HI.out.2.alloc (.cells #[.slice sa x.2.length sc] 34))
      clear hx hs HI
      obtain ⟨op, s⟩ := x
      simp only at d1 LA KC
      go_wp2_with fail
      (with_reducible refine (LA.out).mono ?_)
      rintro e w4 ⟨r, rfl, hr, k4⟩
      have HR := Lib.hid hr
      have K4 := Lib.hid (KC.out.trans k4)
      clear hr k4 LA KC
      cases r with
      | true =>
        go_wp2
        go_ret
        exact BAD.out _ K4.out
      | false =>
        have HS2 := Lib.hid (all_snoc (P := EntOk) HX.out HS.out ((HR.out rfl).sets s (by simp)))
        clear HS HR
        go_wp2
        go_roundw
        case rel => exact ⟨k + 1, by omega, by go_num, Lib.hid ⟨HS2.out, K4.out⟩⟩
        case measure => simp [intOf]; omega
    · obtain rfl : k = l.length := by omega
      have FIN := Lib.hid (GOOD.out _ HI.out.2 ⟨by omega, all_mem HI.out.1⟩)
      go_wp2
      go_ret
      exact FIN.out
/-- Are lists of entries the same? -/
def sameL (l m : List BEnt) : Bool := decide (l = m)
theorem same_ofE {l m : List BEnt} (hl : l.length = m.length) (h : ∀ j, j < l.length → l[j]? = m[j]?) : l = m := by
  apply List.ext_getElem?
  intro j
  rcases Nat.lt_or_ge j l.length with q | q
  · exact h j q
  · rw [List.getElem?_eq_none q, List.getElem?_eq_none (by omega)]
set_option maxHeartbeats 2000000 in
set_option maxRecDepth 100000 in
theorem same_any (w : World) (v u : Value) (l m : List BEnt) (G G' : Nat → Prop) (hv : EntsAt w v G l) (hu : EntsAt w u G' m) :
    Calls Try.prog 17 #[v, u] w fun e w' => e = .returned (.bool (sameL l m)) ∧ Chg (fun _ => False) w w' := by
  obtain ⟨la, cap, rfl, hcap, hcm⟩ := hv.shape
  obtain ⟨ma, mcap, rfl, hmcap, hmcm⟩ := hu.shape
  have HV := Lib.hid hv
  have HU := Lib.hid hu
  unfold maxLen at hcm hmcm
  clear hv hu
  by_cases hlen : l.length = m.length
  · have g : ((l.length : Int) != (m.length : Int)) = false := by rw [bne_eq_false_iff_eq]; omega
    have g2 : ((l.length : Int) == (m.length : Int)) = true := by rw [beq_iff_eq]; omega
    have HL := Lib.hid hlen
    have hle1 : l.length ≤ m.length := by omega
    have hle2 : m.length ≤ l.length := by omega
    clear hlen
    go_enter Try.func17, Try.ntmps17
    go_wp2
    go_loopw [13] (fun iv wr => ∃ k : Nat, k ≤ l.length ∧ iv = .int .i64 k ∧ Hid ((∀ j, j < k → l[j]? = m[j]?) ∧ Chg (fun _ => False) w wr)) (fun iv _ => l.length - (intOf iv).toNat)
    case atStart => exact ⟨0, by omega, rfl, Lib.hid ⟨fun j hj => by omega, Chg.refl _ _⟩⟩
    case round =>
      obtain ⟨k, hk, rfl, HI⟩ := hrel
      by_cases hlt : k < l.length
      · have hltm : k < m.length := by omega
        obtain ⟨x, hx⟩ : ∃ y, l[k]? = some y := ⟨_, List.getElem?_eq_getElem hlt⟩
        obtain ⟨y, hy⟩ : ∃ z, m[k]? = some z := ⟨_, List.getElem?_eq_getElem hltm⟩
        have KC := Lib.hid HI.out.2
        obtain ⟨g, o, sa, sc, rfl, _, c0, c1, hs⟩ := (HV.out.chg KC.out (fun _ _ e => e)).get hx
        obtain ⟨g', o', sb, sd, rfl, _, d0, d1, ht⟩ := (HU.out.chg KC.out (fun _ _ e => e)).get hy
        have SA := Lib.hid (fun w1 (k : Chg (fun _ => False) wr w1) => resame_any w1 x y sa sb x.2.length sc y.2.length sd G G' (hs.at_.chg k (fun _ _ e => e)) (ht.at_.chg k (fun _ _ e => e)))
        have HX := Lib.hid hx
        have HY := Lib.hid hy
        have HN := Lib.hid HI.out.1
        clear hs ht hx hy HI
        generalize hb : eqB x y = r at *
        have HB := Lib.hid hb
        clear hb
        obtain ⟨op, s⟩ := x
        obtain ⟨oq, t⟩ := y
        simp only at c0 c1 d0 d1 SA
        go_wp2_with fail
        refine wp_region_plan (N := 27) [.rd [0, 1, 2, 3, 4, 5, 6, 7], .ef 8, .rd [9]] (fun w' => w'.cell? ⟨g, o + k * 2, none⟩ = some (.int .i64 op) ∧ w'.cell? ⟨g, o + k * 2 + 1, none⟩ = some (.slice sa s.length sc) ∧ w'.cell? ⟨g', o' + k * 2, none⟩ = some (.int .i64 oq) ∧ w'.cell? ⟨g', o' + k * 2 + 1, none⟩ = some (.slice sb t.length sd)) (by kernel_rfl) (by kernel_rfl) (by kernel_rfl) (by kernel_rfl) (Nat.le_of_ble_eq_true rfl) ⟨c0, c1, d0, d1⟩ ?_
        refine plan_rd (A := ?A1) ?h1 ?h2
        case h1 =>
          rintro w' ⟨z0, z1, z2, z3⟩ K hK
          simp only [opsAt, List.filterMap_cons, List.filterMap_nil, List.getElem?_toArray, List.getElem?_cons_succ, List.getElem?_cons_zero]
          refine WS.out ?_
          repeat (refine ws_step (fun K hK => ?_); go_simp; refine hK _ ?_; clear hK K)
          refine ws_nil ?_
          exact hK
        have D := Lib.hid (chg_drew (fun _ => False) wr)
        have f0 := cell_chg D.out (fun e => e) c0
        have f1 := cell_chg D.out (fun e => e) c1
        have f2 := cell_chg D.out (fun e => e) d0
        have f3 := cell_chg D.out (fun e => e) d1
        have S3 := Lib.hid (SA.out wr.drew D.out)
        have KD := Lib.hid (KC.out.drew)
        clear D c0 d0 d1 c1 SA KC
        generalize wr.drew = wd at *
        refine plan_ef rfl ?_
        go_wp2_with fail
        (with_reducible refine (S3.out).mono ?_)
        rintro e w4 ⟨rfl, k4⟩
        have K4 := Lib.hid (KD.out.trans k4)
        have g0 := cell_chg k4 (fun e => e) f0
        have g1 := cell_chg k4 (fun e => e) f1
        have g2 := cell_chg k4 (fun e => e) f2
        have g3 := cell_chg k4 (fun e => e) f3
        clear k4 f0 f1 f2 f3 S3 KD
        go_wp2_with fail
        refine ⟨⟨g0, g1, g2, g3⟩, ?_⟩
        refine plan_rd (A := ?A2) ?h3 ?h4
        case h3 =>
          rintro w' ⟨z0, z1, z2, z3⟩ K hK
          simp only [opsAt, List.filterMap_cons, List.filterMap_nil, List.getElem?_toArray, List.getElem?_cons_succ, List.getElem?_cons_zero]
          refine WS.out ?_
          repeat (refine ws_step (fun K hK => ?_); go_simp; refine hK _ ?_; clear hK K)
          refine ws_nil ?_
          exact hK
        refine plan_nil ?_
        clear g0 g1 g2 g3
        cases r with
        | true =>
          have HI2 := Lib.hid (show ∀ j, j < k + 1 → l[j]? = m[j]? from fun j hj => by
            rcases Nat.lt_or_ge j k with q | q
            · exact HN.out j q
            · obtain rfl : j = k := by omega
              rw [HX.out, HY.out]
              have := of_decide_eq_true HB.out
              rw [this])
          go_wp2
          go_roundw
          case rel => exact ⟨k + 1, by omega, by go_num, Lib.hid ⟨HI2.out, K4.out⟩⟩
          case measure => simp [intOf]; omega
        | false =>
          have R := Lib.hid (show sameL l m = false from decide_eq_false (fun e => by
            have h1 := HX.out
            rw [e, HY.out] at h1
            exact of_decide_eq_false HB.out (Option.some.inj h1).symm))
          go_wp2
          go_ret
          exact ⟨by rw [R.out]; rfl, K4.out⟩
      · obtain rfl : k = l.length := by omega
        have R := Lib.hid (show sameL l m = true from decide_eq_true (same_ofE HL.out HI.out.1))
        go_wp2
        go_ret
        exact ⟨by rw [R.out]; rfl, HI.out.2⟩
  · have g : ((l.length : Int) != (m.length : Int)) = true := by rw [bne_iff_ne]; omega
    have g2 : ((l.length : Int) == (m.length : Int)) = false := by rw [beq_eq_false_iff_ne]; omega
    have R := Lib.hid (show sameL l m = false from decide_eq_false (fun e => hlen (by rw [e])))
    clear hlen
    go_enter Try.func17, Try.ntmps17
    go_wp2
    go_ret
    exact ⟨by rw [R.out]; rfl, Chg.refl _ _⟩
end Go.Proofs.Ytbjdndialiddpaa
