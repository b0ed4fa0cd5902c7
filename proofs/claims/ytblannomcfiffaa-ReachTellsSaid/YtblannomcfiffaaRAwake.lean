/-
  Layer 11: awake.
  What the arguments' readings say, in the words of the walks: rules, steps.
-/
import Derived.Test.YtblannomcfiffaaRTellR
import Derived.Test.YtblannomcfiffaaMRefs
import Derived.Lib.SmallJoins
import Derived.SizedLaws
namespace Go.Proofs.Ytblannomcfiffaa
open Go.RowKit Go.Maps

def awR (a b c d : ByteArray) : List BRul := [(a ++ b, c), (c, d), (b, a), (a, a ++ a)]
def wA : ByteArray := ⟨#[32, 1]⟩
def wB : ByteArray := ⟨#[32, 2]⟩
def wC : ByteArray := ⟨#[32, 3]⟩
def wD : ByteArray := ⟨#[32, 4]⟩
def awRow : List Ent := [((wA ++ wB).data.toList, (-1, (0, 0))), (wC.data.toList, (0, (0, 0))), ((wA ++ wA).data.toList, (0, (1, 2))), (wD.data.toList, (1, (0, 1)))]
theorem aw_err4 : rowErr (awR wA wB wC wD) (wA ++ wB) 4 = 0 := by decide +kernel
theorem aw_row4 : rowB (awR wA wB wC wD) (wA ++ wB) 4 = some awRow := by decide +kernel
theorem aw_err3 : rowErr (awR wA wB wC wD) (wA ++ wB) 3 = 12 := by decide +kernel
theorem aw_err9 : rowErr (awR wA wB wC wD) (wA ++ wB) 9 = 0 := by decide +kernel
theorem aw_row9 : rowB (awR wA wB wC wD) (wA ++ wB) 9 = some awRow := by decide +kernel
theorem aw_in : wD.data.toList ∈ wordsR awRow := by decide +kernel
theorem aw_path : pathOf awRow ((wordsR awRow).idxOf wD.data.toList) = [(0, 0), (0, 1)] := by decide +kernel
theorem aw_erra : rowErr (awR wA wB wC wD) wA 9 = 0 := by decide +kernel
theorem aw_rowa : rowB (awR wA wB wC wD) wA 9 = some [(wA.data.toList, (-1, (0, 0)))] := by decide +kernel
theorem aw_out : wB.data.toList ∉ wordsR [(wA.data.toList, ((-1 : Int), ((0 : Nat), (0 : Nat))))] := by decide +kernel
theorem aw_may1 : mayB (wA ++ wB).data.toList = true := by decide +kernel
theorem aw_may2 : mayB wA.data.toList = true := by decide +kernel
theorem aw_walk1 : walkI ((awR wA wB wC wD).map brul) (wA ++ wB).data.toList [(0, 0), (0, 1)] = some wD.data.toList := by decide +kernel
theorem aw_walk2 : walkI ((awR wA wB wC wD).map brul) wA.data.toList [(0, 3)] = none := by decide +kernel
theorem aw_cnt0 : countsB (brul (wA ++ wB, wC)) = true := by decide +kernel
theorem aw_cnt3 : countsB (brul (wA, wA ++ wA)) = false := by decide +kernel
theorem aw_sizes : ∀ r ∈ awR wA wB wC wD, r.1.size ≤ 4 ∧ r.2.size ≤ 4 := by decide +kernel
theorem aw_cells : rwCells awRow = wcells [wA ++ wB, wC, wA ++ wA, wD] := by
  unfold rwCells awRow wcells
  simp only [List.map_cons, List.map_nil, bar_of]
def awObj (a b c d : ByteArray) : Obj := .cells #[.string (a ++ b), .string c, .string c, .string d, .string b, .string a, .string a, .string (a ++ a)] 38
theorem aw_rules (w : World) (G : Nat → Prop) (hG : G w.heap.size) : RulesAt (w.alloc (awObj wA wB wC wD)) (.slice (some ⟨w.heap.size, 0, none⟩) 4 4) G (awR wA wB wC wD) := by
  refine ⟨_, 4, rfl, by unfold maxLen; decide +kernel, fun j x hj => ⟨w.heap.size, 0, rfl, hG, ?_, ?_, ?_, ?_⟩⟩
  · rw [Nat.zero_add]
    refine cell_of (obj_alloc_new w (awObj wA wB wC wD)) ?_
    have hjl : j < 4 := (List.getElem?_eq_some_iff.1 hj).1
    rcases (by omega : j = 0 ∨ j = 1 ∨ j = 2 ∨ j = 3) with rfl | rfl | rfl | rfl <;> (simp [awR] at hj; subst hj; rfl)
  · rw [Nat.zero_add]
    refine cell_of (obj_alloc_new w (awObj wA wB wC wD)) ?_
    have hjl : j < 4 := (List.getElem?_eq_some_iff.1 hj).1
    rcases (by omega : j = 0 ∨ j = 1 ∨ j = 2 ∨ j = 3) with rfl | rfl | rfl | rfl <;> (simp [awR] at hj; subst hj; rfl)
  · have := (aw_sizes x (List.mem_of_getElem? hj)).1; unfold maxLen; omega
  · have := (aw_sizes x (List.mem_of_getElem? hj)).2; unfold maxLen; omega
theorem aw_asks (w : World) (v : Value) (s : ByteArray) (hs : s.size ≤ 100) (h : RulesAt w v (· < w.heap.size) (awR wA wB wC wD)) : Asks w v (awR wA wB wC wD) s :=
  ⟨h, .inl ⟨by decide +kernel, fun r hr => by have := (aw_sizes r hr).1; omega⟩, by unfold maxLen; omega⟩
theorem of_one (w : World) (k : Nat) (z : Int) (hz : z = k) (x : ByteArray) (hk : k < 65536) (hx : (⟨(ofAtoms [k]).toArray⟩ : ByteArray) = x) : Calls Try.prog 24 #[.slice (some ⟨w.heap.size, 0, none⟩) 1 1] (w.alloc (.cells #[.int .u16 z] 51)) fun e w' => e = .returned (.string x) ∧ Chg (fun _ => False) w w' := by
  subst hz
  have e1 : (w.alloc (.cells #[.int .u16 (k : Int)] 51)).cell? ⟨w.heap.size, 0, none⟩ = some (.int .u16 (k : Int)) := cell_of (obj_alloc_new _ _) rfl
  have := rof_any (w.alloc (.cells #[.int .u16 (k : Int)] 51)) (some ⟨w.heap.size, 0, none⟩) 1 [k] (by simp) (by simp) (fun j x hj => by
    rcases j with _ | j
    · simp at hj; subst hj; exact ⟨hk, _, _, rfl, e1⟩
    · simp at hj)
  rw [hx] at this
  exact this.mono fun e w' ⟨he, hc⟩ => ⟨he, (chg_alloc _ w _).trans hc⟩
theorem stepsAt_own {w : World} {base : Nat} {v : Value} {l : List (Nat × Nat)} (h : w.ownsRow base 53 2 v l.length (hcells l)) : StepsAt w v (fun k => v.ownBlock = some k) (l.map fun h => ((h.1 : Int), (h.2 : Int))) := by
  have h0 := h
  obtain ⟨h1, ⟨rfl, h2⟩ | ⟨g, cap, cur, rfl, hg, hh, q1, q2, q3, q4⟩⟩ := h
  · refine ⟨none, 0, by rw [List.length_map, h2], by rw [List.length_map, h2]; unfold maxLen; omega, fun j x hj => ?_⟩
    have : j < l.length := by have := (List.getElem?_eq_some_iff.1 hj).1; rwa [List.length_map] at this
    omega
  · refine ⟨_, cap, by rw [List.length_map], by rw [List.length_map]; omega, fun j x hj => ?_⟩
    rw [List.getElem?_map] at hj
    cases hq : l[j]? with
    | none => rw [hq] at hj; cases hj
    | some y =>
      rw [hq] at hj
      cases hj
      have hj' : j < l.length := (List.getElem?_eq_some_iff.1 hq).1
      refine ⟨g, 0, rfl, rfl, ?_, ?_⟩
      · rw [Nat.zero_add, h0.cellAt (j := j * 2) (by omega), show j * 2 = 2 * j from by omega]
        exact (hcells_get l j y hq).1
      · rw [Nat.zero_add, h0.cellAt (j := j * 2 + 1) (by omega), show j * 2 + 1 = 2 * j + 1 from by omega]
        exact (hcells_get l j y hq).2
theorem StepsAt.imp {w : World} {v : Value} {G G' : Nat → Prop} {L : List (Int × Int)} (h : StepsAt w v G L) (hg : ∀ k, G k → G' k) : StepsAt w v G' L := by
  obtain ⟨la, cap, h1, h2, h3⟩ := h
  exact ⟨la, cap, h1, h2, fun j r hj => by obtain ⟨lb, lo, q1, q2, q3⟩ := h3 j r hj; exact ⟨lb, lo, q1, hg _ q2, q3⟩⟩
set_option maxHeartbeats 4000000 in
set_option maxRecDepth 100000 in
theorem awake_any (w : World) : Calls Try.prog 9 #[] w fun e w' => e = .returned (.bool true) ∧ Chg (fun _ => False) w w' := by
  obtain ⟨a, ha⟩ : ∃ x, x = wA := ⟨_, rfl⟩
  obtain ⟨b, hb⟩ : ∃ x, x = wB := ⟨_, rfl⟩
  obtain ⟨c, hc⟩ : ∃ x, x = wC := ⟨_, rfl⟩
  obtain ⟨d, hd⟩ : ∃ x, x = wD := ⟨_, rfl⟩
  have OF1 := Lib.hid (fun w => of_one w 8193 8193 rfl a (by omega) (by rw [ha]; rfl))
  have OF2 := Lib.hid (fun w => of_one w 8194 8194 rfl b (by omega) (by rw [hb]; rfl))
  have OF3 := Lib.hid (fun w => of_one w 8195 8195 rfl c (by omega) (by rw [hc]; rfl))
  have OF4 := Lib.hid (fun w => of_one w 8196 8196 rfl d (by omega) (by rw [hd]; rfl))
  have ALL4 := Lib.hid (fun w v h => all_ok (aw_asks w v (wA ++ wB) (by decide +kernel) h) aw_err4 aw_row4)
  have ALL3 := Lib.hid (fun w v h => all_err (aw_asks w v (wA ++ wB) (by decide +kernel) h) aw_err3 (by omega))
  have LEA := Lib.hid (fun w v h => leads_ok (aw_asks w v (wA ++ wB) (by decide +kernel) h) wD (by unfold maxLen; decide +kernel) aw_err9 aw_row9)
  rw [decide_eq_true aw_in] at LEA
  have PA1 := Lib.hid (fun w v h => path_ok (aw_asks w v (wA ++ wB) (by decide +kernel) h) wD (by unfold maxLen; decide +kernel) aw_err9 aw_row9 aw_in)
  rw [aw_path] at PA1
  have WA1 := Lib.hid (fun w v lv h1 h2 => walk_any w v lv (awR wA wB wC wD) [(0, 0), (0, 1)] (wA ++ wB) h1 h2 aw_may1)
  rw [aw_walk1] at WA1
  unfold walkV at WA1
  simp only [bar_of] at WA1
  have PA2 := Lib.hid (fun w v h => path_none (aw_asks w v wA (by decide +kernel) h) wB (by unfold maxLen; decide +kernel) aw_erra aw_rowa aw_out)
  have WA2 := Lib.hid (fun w v lv h1 h2 => walk_any w v lv (awR wA wB wC wD) [(0, 3)] wA h1 h2 aw_may2)
  rw [aw_walk2] at WA2
  unfold walkV at WA2
  simp only at WA2
  have CN0 := Lib.hid (fun w => counts_any w (wA ++ wB, wC) (by unfold maxLen; decide +kernel) (by unfold maxLen; decide +kernel))
  rw [aw_cnt0] at CN0
  have CN3 := Lib.hid (fun w => counts_any w (wA, wA ++ wA) (by unfold maxLen; decide +kernel) (by unfold maxLen; decide +kernel))
  rw [aw_cnt3] at CN3
  unfold ruleV at CN0 CN3
  simp only at CN0 CN3
  have RUL := Lib.hid (fun w G hG => aw_rules w G hG)
  have CEL := Lib.hid aw_cells
  have ALEN := Lib.hid (show awRow.length = 4 from rfl)
  simp only [← ha, ← hb, ← hc, ← hd] at ALL4 ALL3 LEA PA1 WA1 PA2 WA2 CN0 CN3 RUL CEL
  have sa : a.size ≤ 2 := by rw [ha]; decide +kernel
  have sb : b.size ≤ 2 := by rw [hb]; decide +kernel
  have sc : c.size ≤ 2 := by rw [hc]; decide +kernel
  have sd : d.size ≤ 2 := by rw [hd]; decide +kernel
  clear ha hb hc hd
  go_enter Try.func9, Try.ntmps9
  go_wp2_with fail
  (with_reducible refine (OF1.out _).mono ?_)
  rintro e w1 ⟨rfl, k1⟩
  have K1 := Lib.hid k1
  clear k1
  go_wp2_with fail
  (with_reducible refine (OF2.out _).mono ?_)
  rintro e w2 ⟨rfl, k2⟩
  have K2 := Lib.hid (K1.out.trans k2)
  clear k2 K1
  go_wp2_with fail
  (with_reducible refine (OF3.out _).mono ?_)
  rintro e w3 ⟨rfl, k3⟩
  have K3 := Lib.hid (K2.out.trans k3)
  clear k3 K2
  go_wp2_with fail
  (with_reducible refine (OF4.out _).mono ?_)
  rintro e w4 ⟨rfl, k4⟩
  have K4 := Lib.hid (K3.out.trans k4)
  clear k4 K3
  go_wp2_with fail
  have R5 := Lib.hid (RUL.out w4 (fun k => k < (w4.alloc (awObj a b c d)).heap.size) (by simp))
  have K5 := Lib.hid (K4.out.alloc (awObj a b c d))
  have O5 := Lib.hid (obj_alloc_new w4 (awObj a b c d))
  change Calls Try.prog 11 #[.slice (some ⟨w4.heap.size, 0, none⟩) 4 4, .string (a ++ b), .int .i64 4] (w4.alloc (awObj a b c d)) _
  clear RUL K4
  generalize w4.alloc (awObj a b c d) = w5 at *
  generalize w4.heap.size = g5 at *
  have RU := Lib.hid (fun W (k : Chg (fun _ => False) w5 W) => rules_up R5.out k)
  (with_reducible refine (ALL4.out _ _ R5.out).mono ?_)
  rintro e w6 ⟨v6, rfl, o6, k6⟩
  rw [ALEN.out, CEL.out] at o6
  obtain ⟨a6, c6, rfl⟩ := own_shape o6
  have O6 := Lib.hid o6
  have K6 := Lib.hid k6
  have A3 := Lib.hid (ALL3.out w6 _ (RU.out _ k6))
  clear o6 k6 ALL4 ALL3
  go_wp2_with fail
  (with_reducible refine (A3.out).mono ?_)
  rintro e w7 ⟨rfl, k7⟩
  have K7 := Lib.hid (K6.out.trans k7)
  have O7 := Lib.hid (own_chg O6.out k7 (fun _ _ e => e))
  have L7 := Lib.hid (LEA.out w7 _ (RU.out _ K7.out))
  clear k7 A3 LEA K6
  go_wp2_with fail
  (with_reducible refine (L7.out).mono ?_)
  rintro e w8 ⟨rfl, k8⟩
  have K8 := Lib.hid (K7.out.trans k8)
  have O8 := Lib.hid (own_chg O7.out k8 (fun _ _ e => e))
  have P8 := Lib.hid (PA1.out w8 _ (RU.out _ K8.out))
  clear k8 L7 PA1 K7 O7
  go_wp2_with fail
  (with_reducible refine (P8.out).mono ?_)
  rintro e w9 ⟨v9, rfl, o9, k9⟩
  obtain ⟨a9, c9, rfl⟩ := own_shape o9
  obtain ⟨g9, rfl⟩ := own_some o9 (by decide)
  have K9 := Lib.hid (K8.out.trans k9)
  have O9 := Lib.hid (own_chg O8.out k9 (fun _ _ e => e))
  have ST9 := Lib.hid (show StepsAt w9 (.slice (some ⟨g9, 0, none⟩) 2 c9) (· < w9.heap.size) [(0, 0), (0, 1)] from (stepsAt_own o9).imp (fun k hk => (o9.lt k hk).2))
  have P9 := Lib.hid o9
  have W9 := Lib.hid (WA1.out w9 _ _ (RU.out _ K9.out) ST9.out)
  clear k9 P8 K8 O8 o9 WA1 ST9
  go_wp2_with fail
  (with_reducible refine (W9.out).mono ?_)
  rintro e w10 ⟨rfl, k10⟩
  have K10 := Lib.hid (K9.out.trans k10)
  have O10 := Lib.hid (own_chg O9.out k10 (fun _ _ e => e))
  have P10 := Lib.hid (own_chg P9.out k10 (fun _ _ e => e))
  have PB := Lib.hid (PA2.out w10 _ (RU.out _ K10.out))
  clear k10 W9 PA2 K9 O9 P9
  go_wp2_with fail
  (with_reducible refine (PB.out).mono ?_)
  rintro e w11 ⟨rfl, k11⟩
  have k11' := k11.alloc (.cells #[.int .i64 0, .int .i64 3] 53)
  have K11 := Lib.hid (K10.out.trans k11')
  have O11 := Lib.hid (own_chg O10.out k11' (fun _ _ e => e))
  have P11 := Lib.hid (own_chg P10.out k11' (fun _ _ e => e))
  have ST11 := Lib.hid (show StepsAt (w11.alloc (.cells #[.int .i64 0, .int .i64 3] 53)) (.slice (some ⟨w11.heap.size, 0, none⟩) 1 1) (· < (w11.alloc (.cells #[.int .i64 0, .int .i64 3] 53)).heap.size) [(0, 3)] from (stepsAt_own (l := [(0, 3)]) (World.ownsRow_lit (base := 0) w11 #[.int .i64 0, .int .i64 3] 1 (Nat.zero_le _) (by unfold maxLen; omega) rfl)).imp (fun k hk => by
    have e2 : w11.heap.size = k := by simpa [Value.ownBlock] using hk
    simp; omega))
  have W11 := Lib.hid (WA2.out _ _ _ (RU.out _ K11.out) ST11.out)
  clear k11 k11' PB WA2 K10 O10 P10 ST11
  go_wp2_with fail
  (with_reducible refine (W11.out).mono ?_)
  rintro e w12 ⟨rfl, k12⟩
  have k12' := k12.alloc (.cells #[.string (a ++ b), .string c, .string (a ++ a), .string d] 23)
  have K12 := Lib.hid (K11.out.trans k12')
  have P12 := Lib.hid (own_chg P11.out k12' (fun _ _ e => e))
  have hws : ∀ x ∈ [a ++ b, c, a ++ a, d], x.size ≤ 400 := by
    intro x hx
    simp at hx
    rcases hx with rfl | rfl | rfl | rfl
    · rw [ByteArray.size_append]; omega
    · omega
    · rw [ByteArray.size_append]; omega
    · omega
  have WO := Lib.hid (words_any _ _ _ _ _ _ _ (wordsAt_own (l := [a ++ b, c, a ++ a, d]) (own_chg O11.out k12' (fun _ _ e => e)) hws) (wordsAt_own (l := [a ++ b, c, a ++ a, d]) (World.ownsRow_lit (base := 0) w12 #[.string (a ++ b), .string c, .string (a ++ a), .string d] 4 (Nat.zero_le _) (by unfold maxLen; omega) rfl) hws))
  rw [decide_eq_true (rfl : [a ++ b, c, a ++ a, d] = [a ++ b, c, a ++ a, d])] at WO
  clear k12 k12' hws K11 P11 O11 W11
  go_wp2_with fail
  (with_reducible refine (WO.out).mono ?_)
  rintro e w13 ⟨rfl, k13⟩
  have K13 := Lib.hid (K12.out.trans k13)
  have p13 := own_chg P12.out k13 (fun _ _ e => e)
  have z0 : w13.cell? ⟨g9, 2, none⟩ = some (.int .i64 0) := by rw [p13.cellAt 2 (by decide)]; rfl
  have z1 : w13.cell? ⟨g9, 2 + 1, none⟩ = some (.int .i64 1) := by rw [p13.cellAt 3 (by decide)]; rfl
  have o13 := K13.out.obj (fun e => e) O5.out
  have y0 : w13.cell? ⟨g5, 0, none⟩ = some (.string (a ++ b)) := cell_of o13 rfl
  have y1 : w13.cell? ⟨g5, 1, none⟩ = some (.string c) := cell_of o13 rfl
  have O13 := Lib.hid o13
  have n1 : (d.toList == d.toList) = true := by simp
  have KW := Lib.hid (K5.out.trans K13.out)
  clear k13 K12 P12 p13 WO o13
  go_wp2_with fail
  (with_reducible refine (CN0.out _).mono ?_)
  rintro e w14 ⟨rfl, k14⟩
  have o14 := k14.obj (fun e => e) O13.out
  have y6 : w14.cell? ⟨g5, 6, none⟩ = some (.string a) := cell_of o14 rfl
  have y7 : w14.cell? ⟨g5, 6 + 1, none⟩ = some (.string (a ++ a)) := cell_of o14 rfl
  clear o14 z0 z1 y0 y1
  go_wp2_with fail
  (with_reducible refine (CN3.out _).mono ?_)
  rintro e w15 ⟨rfl, k15⟩
  go_wp2
  go_ret
  exact ⟨rfl, (KW.out.trans k14).trans k15⟩
end Go.Proofs.Ytblannomcfiffaa

namespace Go.Proofs.Ytblannomcfiffaa
open Go.ChangeShapes Go.WideShapes Go.ChangeAt Go.RowKit

/-- Rules that came in. -/
structure RulesArg (w : World) (v : Value) (R : List BRul) : Prop where
  at_ : RulesAt w v (· < w.heap.size) R
  nil : ∀ n c, v = .slice none n c → n = 0 ∧ c = 0
def RulesFit (R : List BRul) : Prop := Fit47 R ∧ R.length * 32 ≤ 140737488355328
/-- Steps that came in. -/
structure StepsArg (w : World) (v : Value) (L : List (Int × Int)) : Prop where
  at_ : StepsAt w v (· < w.heap.size) L
  fit : ∀ x ∈ L, -9223372036854775808 ≤ x.1 ∧ x.1 ≤ 9223372036854775807
theorem weightsAll_mem {H : Type} {P : Program} {e : TypeId} : ∀ {l : List (DataW H)} {d : DataW H}, d ∈ l → ∀ n ∈ d.weights P e, n ∈ DataW.weightsAll P e l
  | a :: l, d, h, n, hn => by
    simp only [DataW.weightsAll, List.mem_append]
    rcases List.mem_cons.1 h with rfl | h
    · exact .inl hn
    · exact .inr (weightsAll_mem h n hn)
theorem trod_two {P : Program} {W : World} {H : Type} {enc : TypeId × Value → H} {t : TypeId} {f0 f1 : Field} {fuel : Nat} {cs : List Value} {x : DataW H × List MemPlace} {base : Nat} {spare : Nat → Bool} {held : Bool} (ht : P.underlying t = some (.struct #[f0, f1])) (h : DataW.trod enc P W base spare held fuel t cs = some x) :
    ∃ y0 y1 n, x.1 = .agg [y0.1, y1.1] ∧ cs.length = P.cellsOf t ∧ DataW.trod enc P W base spare held n f0.type ((cs.drop f0.offset).take (P.cellsOf f0.type)) = some y0 ∧ DataW.trod enc P W base spare held n f1.type ((cs.drop f1.offset).take (P.cellsOf f1.type)) = some y1 := by
  obtain ⟨xs, n, _, rfl, hl, hlen, hf⟩ := DataW.trod_struct ht h
  match xs, hlen with
  | [y0, y1], _ => exact ⟨y0, y1, n, rfl, hl, by simpa using hf 0 f0 rfl, by simpa using hf 1 f1 rfl⟩
theorem Try.cellsInt : Try.prog.cellsOf 3 = 1 := by kernel_rfl
theorem Try.cellsWord : Try.prog.cellsOf 23 = 1 := by kernel_rfl
theorem Try.cellsRule : Try.prog.cellsOf 38 = 2 := by kernel_rfl
theorem Try.cellsStep : Try.prog.cellsOf 53 = 2 := by kernel_rfl
theorem Try.bytesRule : Try.prog.bytesOf 38 = 32 := by kernel_rfl
set_option maxRecDepth 100000 in
theorem rule_of {W : World} {H : Type} {enc : TypeId × Value → H} {fuel : Nat} {cs : List Value} {x : DataW H × List MemPlace} (h : DataW.trod enc Try.prog W 0 (fun _ => true) true fuel 38 cs = some x) :
    ∃ r : BRul, cs = [.string r.1, .string r.2] ∧ r.1.size ≤ maxLen ∧ r.2.size ≤ maxLen ∧ x.1 = .agg [.lit (.string r.1.data.toList), .lit (.string r.2.data.toList)] := by
  obtain ⟨y0, y1, n, e, hl, t0, t1⟩ := trod_two Try.underlying38 h
  rw [Try.cellsRule] at hl
  match cs, hl with
  | [c0, c1], _ =>
    simp only [Try.cellsWord, List.drop_zero, List.drop_succ_cons, List.take_succ_cons, List.take_zero] at t0 t1
    obtain ⟨s, e0, f0, hs⟩ := DataW.trod_string Try.underlying23 t0
    obtain ⟨u, e1, f1, hu⟩ := DataW.trod_string Try.underlying23 t1
    simp at e0 e1
    subst e0 e1 f0 f1
    exact ⟨(s, u), rfl, hs, hu, e⟩
theorem rulesArg_of {W : World} {H : Type} {enc : TypeId × Value → H} {a : Option Addr} {n c : Nat} {d : DataW H} {ps : List MemPlace}
    (h : DataW.Trod enc Try.prog W 0 (fun _ => true) true 22 (.slice a n c) d ps) : ∃ l, RulesArg W (.slice a n c) l ∧ ((∀ x ∈ d.weights Try.prog 22, x ≤ reachBytes) → RulesFit l) := by
  obtain ⟨fuel, hf⟩ := h
  have hf' : DataW.trod enc Try.prog W 0 (fun _ => true) true fuel 22 [.slice a n c] = some (d, ps) := hf
  rcases Deep.open_slice Try.underlying22 hf' with ⟨hcs, _⟩ | ⟨x, len, cap, m, k, D, Pl, hcs, _, hl, hm, hmm, hd, hel⟩
  · simp at hcs
    obtain ⟨rfl, rfl, rfl⟩ := hcs
    exact ⟨[], ⟨⟨none, 0, rfl, by simp, fun j x hj => by simp at hj⟩, fun n c e => by cases e; exact ⟨rfl, rfl⟩⟩, fun _ => ⟨(fun r hr => by cases hr), by simp⟩⟩
  · simp at hcs
    obtain ⟨rfl, rfl, rfl⟩ := hcs
    simp at hmm
    obtain rfl : c = m := hmm.symm
    rw [Try.cellsRule] at hel
    have hv : ∀ i, i < c → ∃ v : BRul, W.cells? 0 (x.add (i * 2)) 2 = some [.string v.1, .string v.2] ∧ v.1.size ≤ maxLen ∧ v.2.size ≤ maxLen ∧ D i = .agg [.lit (.string v.1.data.toList), .lit (.string v.2.data.toList)] := by
      intro i hi
      obtain ⟨cs, h1, h2⟩ := hel i hi
      obtain ⟨v, rfl, q⟩ := rule_of h2
      exact ⟨v, h1, q⟩
    have : Inhabited BRul := ⟨(ByteArray.empty, ByteArray.empty)⟩
    obtain ⟨f, hf2⟩ := Deep.choose_lt hv
    have key : ∀ (j : Nat) y, ((List.range n).map f)[j]? = some y → j < n ∧ y = f j := fun j y hj => by
      rw [List.getElem?_map] at hj
      have hjn : j < n := by
        rcases Nat.lt_or_ge j n with h | h
        · exact h
        · rw [List.getElem?_eq_none (by simpa using h)] at hj; simp at hj
      rw [List.getElem?_range hjn] at hj
      simp at hj
      exact ⟨hjn, hj.symm⟩
    refine ⟨(List.range n).map f, ⟨⟨some x, c, by simp, by simp; omega, fun j y hj => ?_⟩, fun n c e => by cases e⟩, fun hw => ?_⟩
    · obtain ⟨hjn, rfl⟩ := key j y hj
      obtain ⟨h1, h2, h3, _⟩ := hf2 j (by omega)
      have g := (World.cells?_some h1).2.2
      have g0 := (World.cells?_some (hf2 0 (by omega)).1).2.2 0 (by decide)
      obtain ⟨b, off, spot⟩ := x
      have hs : spot = none := by simpa [Addr.add] using World.cell?_spot g0
      subst hs
      simp only [addr_add] at g
      have c0 := g 0 (by decide)
      have c1 := g 1 (by decide)
      exact ⟨b, off, rfl, World.block_lt_of_cell? W _ c0, c0, c1, h2, h3⟩
    · have hd2 : d = .slice ((List.range n).map D) ((List.range (c - n)).map fun j => D (n + j)) := congrArg Prod.fst hd
      subst hd2
      simp only [DataW.weights, Try.underlying22, List.mem_cons, List.mem_append] at hw
      have hr := reachBytes_lt
      refine ⟨fun r hr => ?_, ?_⟩
      · obtain ⟨j, hj⟩ := List.mem_iff_getElem?.1 hr
        obtain ⟨hjn, rfl⟩ := key j r hj
        obtain ⟨_, _, _, hD⟩ := hf2 j (by omega)
        have hm : D j ∈ (List.range n).map D := List.mem_map.2 ⟨j, List.mem_range.2 hjn, rfl⟩
        have hw2 := fun x hx => hw x (.inr (.inl (weightsAll_mem hm x hx)))
        rw [hD] at hw2
        simp only [DataW.weights, Try.underlying38] at hw2
        have q1 := hw2 (f j).1.data.toList.length (by simp [DataW.weightsEach, DataW.weights])
        have q2 := hw2 (f j).2.data.toList.length (by simp [DataW.weightsEach, DataW.weights])
        rw [size_list] at q1 q2
        omega
      · have := hw _ (.inl rfl)
        rw [Try.bytesRule] at this
        simp at this ⊢
        have h2 : n * 32 ≤ (n + (c - n)) * 32 := Nat.mul_le_mul_right _ (by omega)
        omega
set_option maxRecDepth 100000 in
theorem step_of {W : World} {H : Type} {enc : TypeId × Value → H} {fuel : Nat} {cs : List Value} {x : DataW H × List MemPlace} (h : DataW.trod enc Try.prog W 0 (fun _ => true) true fuel 53 cs = some x) :
    ∃ r : Int × Int, cs = [.int .i64 r.1, .int .i64 r.2] ∧ -9223372036854775808 ≤ r.1 ∧ r.1 ≤ 9223372036854775807 := by
  obtain ⟨y0, y1, n, e, hl, t0, t1⟩ := trod_two Try.underlying53 h
  rw [Try.cellsStep] at hl
  match cs, hl with
  | [c0, c1], _ =>
    simp only [Try.cellsInt, List.drop_zero, List.drop_succ_cons, List.take_succ_cons, List.take_zero] at t0 t1
    obtain ⟨s, e0, f0, hs⟩ := DataW.trod_int Try.underlying3 t0
    obtain ⟨u, e1, f1, hu⟩ := DataW.trod_int Try.underlying3 t1
    simp at e0 e1
    subst e0 e1
    exact ⟨(s, u), rfl, bounds_i64 hs⟩
theorem stepsArg_of {W : World} {H : Type} {enc : TypeId × Value → H} {a : Option Addr} {n c : Nat} {d : DataW H} {ps : List MemPlace}
    (h : DataW.Trod enc Try.prog W 0 (fun _ => true) true 33 (.slice a n c) d ps) : ∃ l, StepsArg W (.slice a n c) l := by
  obtain ⟨fuel, hf⟩ := h
  have hf' : DataW.trod enc Try.prog W 0 (fun _ => true) true fuel 33 [.slice a n c] = some (d, ps) := hf
  rcases Deep.open_slice Try.underlying33 hf' with ⟨hcs, _⟩ | ⟨x, len, cap, m, k, D, Pl, hcs, _, hl, hm, hmm, hd, hel⟩
  · simp at hcs
    obtain ⟨rfl, rfl, rfl⟩ := hcs
    exact ⟨[], ⟨none, 0, rfl, by simp, fun j x hj => by simp at hj⟩, fun x hx => by cases hx⟩
  · simp at hcs
    obtain ⟨rfl, rfl, rfl⟩ := hcs
    simp at hmm
    obtain rfl : c = m := hmm.symm
    rw [Try.cellsStep] at hel
    have hv : ∀ i, i < c → ∃ v : Int × Int, W.cells? 0 (x.add (i * 2)) 2 = some [.int .i64 v.1, .int .i64 v.2] ∧ -9223372036854775808 ≤ v.1 ∧ v.1 ≤ 9223372036854775807 := by
      intro i hi
      obtain ⟨cs, h1, h2⟩ := hel i hi
      obtain ⟨v, rfl, q⟩ := step_of h2
      exact ⟨v, h1, q⟩
    obtain ⟨f, hf2⟩ := Deep.choose_lt hv
    have key : ∀ (j : Nat) y, ((List.range n).map f)[j]? = some y → j < n ∧ y = f j := fun j y hj => by
      rw [List.getElem?_map] at hj
      have hjn : j < n := by
        rcases Nat.lt_or_ge j n with h | h
        · exact h
        · rw [List.getElem?_eq_none (by simpa using h)] at hj; simp at hj
      rw [List.getElem?_range hjn] at hj
      simp at hj
      exact ⟨hjn, hj.symm⟩
    refine ⟨(List.range n).map f, ⟨some x, c, by simp, by simp; omega, fun j y hj => ?_⟩, fun y hy => ?_⟩
    · obtain ⟨hjn, rfl⟩ := key j y hj
      obtain ⟨h1, h2⟩ := hf2 j (by omega)
      have g := (World.cells?_some h1).2.2
      have g0 := (World.cells?_some (hf2 0 (by omega)).1).2.2 0 (by decide)
      obtain ⟨b, off, spot⟩ := x
      have hs : spot = none := by simpa [Addr.add] using World.cell?_spot g0
      subst hs
      simp only [addr_add] at g
      have c0 := g 0 (by decide)
      have c1 := g 1 (by decide)
      exact ⟨b, off, rfl, World.block_lt_of_cell? W _ c0, c0, c1⟩
    · obtain ⟨j, hj⟩ := List.mem_iff_getElem?.1 hy
      obtain ⟨hjn, rfl⟩ := key j y hj
      exact (hf2 j (by omega)).2
end Go.Proofs.Ytblannomcfiffaa
