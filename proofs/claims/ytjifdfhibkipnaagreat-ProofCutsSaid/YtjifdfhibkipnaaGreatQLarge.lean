/-
  Layer 13: large; append of a slice of another type.
  Layer 13: long.
-/
import Derived.Test.YtjifdfhibkipnaaGreatURun
import Derived.Test.YtjifdfhibkipnaaGreatQAt
import Derived.Deep.DeepCutAuto
import Derived.Deep.CutBlock
import Derived.Test.YtjifdfhibkipnaaGreatQCheck
namespace Go.Proofs.YtjifdfhibkipnaaGreat
open Go.RowKit Go.Maps

theorem append_types {P : Program} {w : World} {t t2 ty e e2 : TypeId} {args : Array Value} (ht : P.underlying t = some (.slice e)) (ht2 : P.underlying t2 = some (.slice e2)) : (Builtin.append_ #[t, t2] ty args).run P w = (Builtin.append_ #[t, t] ty args).run P w := by
  have e0 : (#[t, t2] : Array TypeId)[0]? = some t := rfl
  have e1 : (#[t, t2] : Array TypeId)[1]? = some t2 := rfl
  have e2 : (#[t, t] : Array TypeId)[0]? = some t := rfl
  have e3 : (#[t, t] : Array TypeId)[1]? = some t := rfl
  unfold Builtin.append_
  simp only [e0, e1, e2, e3]
  cases h0 : args[0]? with
  | none => rfl
  | some s =>
    cases h1 : args[1]? with
    | none => rfl
    | some x =>
      simp only [Sem.run_bind, run_underlying ht, Result.andThen_ok]
      cases s with
      | slice a n c =>
        simp only [Sem.run_bind, run_underlying ht, run_underlying ht2, Result.andThen_ok, Sem.run_pure]
      | _ => rfl
/-- 'append(s, x..)', x of another type of slices. -/
theorem wpList_pushT {P : Program} {w : World} {ops : Array Oper} {rest : List Oper} {o : Oper} {a : Act} {Q : Exit → Act → World → Prop} (hgd : o.guard = none) (s x : Operand) (t t2 : TypeId)
    (ho : o.op = .call { callee := .builtin .append, args := #[s, x], argTypes := #[t, t2] }) (e e2 : TypeId) (size bytes : Nat) (ht : P.underlying t = some (.slice e)) (ht2 : P.underlying t2 = some (.slice e2)) (hE : ElemInfo P e size bytes)
    (base : Nat) (v : Value) (n : Nat) (xs : List Value) (hs : a.eval s = v) (hown : w.ownsRow base e size v n xs)
    (xa : Option Addr) (m c : Nat) (news : List Value) (hx : a.eval x = .slice xa m c) (hl : news.length = m * size) (hc : ∀ (j : Nat) u, news[j]? = some u → ∃ g o, xa = some ⟨g, o, none⟩ ∧ w.cell? ⟨g, o + j, none⟩ = some u) (hnil : xa = none → m = 0 ∧ c = 0)
    (h1 : ∀ u ∈ news, u.oneCell' = true) (hbytes : (n + m) * bytes ≤ 140737488355328) (h63 : n + m ≤ maxLen) (hbase : base ≤ w.heap.size)
    (h : ∀ v' w', w'.ownsRow base e size v' (n + m) (xs ++ news) → w.grownBy w' v.ownBlock → wpList P ops Q rest (a.put o.dst v') w') : wpList P ops Q (o :: rest) a w := by
  obtain ⟨i, z, hi, hz, q1, q2, q3, q4⟩ := hE
  refine wpList_plain hgd fun K hK => ?_
  cases xa with
  | none =>
    obtain ⟨rfl, rfl⟩ := hnil rfl
    have : news = [] := List.eq_nil_of_length_eq_zero (by rw [hl]; omega)
    subst this
    have hrun := run_append_owned_none (P := P) (w := w) base t o.type e i size ht hi v n xs hown
    rw [← append_types ht ht2] at hrun
    unfold Oper.wp
    simp [execOp, ho, resolve, invoke, builtin, hs, hx, hrun, Result.andThen]
    exact hK _ _ (h v w (by simpa using hown) ⟨rfl, rfl, rfl, Nat.le_refl _, fun _ _ _ => rfl⟩)
  | some ad =>
    have hnews : ∀ j u, news[j]? = some u → w.cell? (ad.add j) = some u := fun j u hj => by
      obtain ⟨g, oo, e1, hcell⟩ := hc j u hj
      cases e1
      rw [addr_add]; exact hcell
    obtain ⟨v', w', hr, h2, h3, _⟩ := run_append_own (P := P) w base t o.type e i z size bytes ht hi hz q1 q2 q3 q4 v n xs hown ad m c news hl hnews h1 h63 hbytes hbase
    rw [← append_types ht ht2] at hr
    unfold Oper.wp execOp
    simp only [ho, resolve, invoke, builtin, Sem.run_bind, Sem.run_pure, Result.andThen_ok, List.map_toArray, List.map_cons, List.map_nil, hs, hx, hr]
    exact hK _ _ (h v' w' h2 h3)

def wordsL (R : List BRul) : List ByteArray := R.flatMap fun r => [r.1, r.2]
theorem wordsL_succ {R : List BRul} {k : Nat} {r : BRul} (h : R[k]? = some r) : wordsL (R.take (k + 1)) = wordsL (R.take k) ++ [r.1, r.2] := by
  unfold wordsL
  rw [List.take_add_one, h, List.flatMap_append]
  simp
theorem wordsL_length (R : List BRul) : (wordsL R).length = R.length * 2 := by
  unfold wordsL
  induction R with
  | nil => rfl
  | cons r R ih => rw [List.flatMap_cons, List.length_append, ih]; simp; omega
def wordsC (C : List BCert) : List ByteArray := C.flatMap fun c => c.sp :: c.fr
theorem wordsC_succ {C : List BCert} {k : Nat} {c : BCert} (h : C[k]? = some c) : wordsC (C.take (k + 1)) = wordsC (C.take k) ++ (c.sp :: c.fr) := by
  unfold wordsC
  rw [List.take_add_one, h, List.flatMap_append]
  simp
structure Fit13 (R : List BRul) (C : List BCert) (L : List ByteArray) : Prop where
  certs : C.length ≤ 8
  rules : R.length ≤ 12
  word : ∀ r ∈ R, r.1.size ≤ 100 ∧ r.2.size ≤ 100
  cert : ∀ c ∈ C, c.sp.size ≤ 100 ∧ c.fr.length ≤ 20 ∧ ∀ x ∈ c.fr, x.size ≤ 100
  more : ∀ x ∈ L, x.size ≤ 100
theorem fit13_of {R : List BRul} {C : List BCert} {L : List ByteArray} (h1 : C.length ≤ 8) (h2 : R.length ≤ 12) (h3 : ∀ c ∈ C, c.fr.length ≤ 20) (h : ∀ x ∈ (L ++ wordsL R) ++ wordsC C, x.size ≤ 100) : Fit13 R C L := by
  refine ⟨h1, h2, fun r hr => ?_, fun c hc => ⟨?_, h3 c hc, fun x hx => ?_⟩, fun x hx => ?_⟩
  · have q : ∀ x ∈ [r.1, r.2], x.size ≤ 100 := fun x hx => h x (List.mem_append_left _ (List.mem_append_right _ (List.mem_flatMap.2 ⟨r, hr, hx⟩)))
    exact ⟨q _ (by simp), q _ (by simp)⟩
  · exact h _ (List.mem_append_right _ (List.mem_flatMap.2 ⟨c, hc, by simp⟩))
  · exact h _ (List.mem_append_right _ (List.mem_flatMap.2 ⟨c, hc, List.mem_cons_of_mem _ hx⟩))
  · exact h _ (List.mem_append_left _ (List.mem_append_left _ hx))
def Large13Res (w : World) (R : List BRul) (C : List BCert) (L : List ByteArray) (e : Ending) (w' : World) : Prop := ∃ b : Bool, e = .returned (.bool b) ∧ Chg (fun _ => False) w w' ∧ (b = false → Fit13 R C L)
theorem wcells_append (a b : List ByteArray) : wcells (a ++ b) = wcells a ++ wcells b := by unfold wcells; rw [List.map_append]
theorem wcells_length (a : List ByteArray) : (wcells a).length = a.length := by unfold wcells; rw [List.length_map]
theorem own_next {w0 w w' : World} {t : TypeId} {sz n : Nat} {v : Value} {xs : List Value} (h : w.ownsRow w0.heap.size t sz v n xs) (k : Chg (fun _ => False) w0 w) (g : w.grownBy w' v.ownBlock) : Chg (fun _ => False) w0 w' :=
  k.next (Chg.of_grown g) (fun x hx e => by have := (h.lt x e).1; omega)
set_option maxHeartbeats 8000000 in
set_option maxRecDepth 100000 in
theorem large13_any (w0 w : World) (ra : Option Addr) (R : List BRul) (rc : Nat) (v : Value) (P : List (BCert × Value)) (b : Int) (lv : Value) (L : List ByteArray) (hR : RulesAt w0 (.slice ra R.length rc) (· < w0.heap.size) R) (hv : CertsAt w0 v (· < w0.heap.size) P)
    (hl : w.ownsRow w0.heap.size 24 1 lv L.length (wcells L)) (hk : Chg (fun _ => False) w0 w) (hL : L.length ≤ 1000) :
    Calls Tryz.prog 11 #[.slice ra R.length rc, v, .int .i64 b, lv] w (Large13Res w0 R (certsOf P) L) := by
  have HR := Lib.hid hR
  have HV := Lib.hid hv
  have HL := Lib.hid hl
  have HK := Lib.hid hk
  obtain ⟨la, cap, rfl, hl0, _⟩ := hv
  obtain ⟨_, _, e0, hr0, _⟩ := hR
  cases e0
  unfold maxLen at hl0 hr0
  have FIN := Lib.hid (show (P.length ≤ 8 ∧ R.length ≤ 12) → (∀ (j : Nat) p, j < P.length → P[j]? = some p → p.1.fr.length ≤ 20) → (∀ (j : Nat) x, j < ((L ++ wordsL R) ++ wordsC (certsOf P)).length → ((L ++ wordsL R) ++ wordsC (certsOf P))[j]? = some x → x.size ≤ 100) → Fit13 R (certsOf P) L from fun h1 h2 h3 => by
    refine fit13_of (by rw [certsOf_length]; exact h1.1) h1.2 (fun c hc => ?_) (fun x hx => ?_)
    · unfold certsOf at hc
      obtain ⟨p, hp, rfl⟩ := List.mem_map.1 hc
      obtain ⟨j, hj⟩ := List.mem_iff_getElem?.1 hp
      exact h2 j p (List.getElem?_eq_some_iff.1 hj).1 hj
    · obtain ⟨j, hj⟩ := List.mem_iff_getElem?.1 hx
      exact h3 j x (List.getElem?_eq_some_iff.1 hj).1 hj)
  obtain ⟨ln, hln⟩ : ∃ ln, ln = L.length := ⟨_, rfl⟩
  obtain ⟨xa, xc, rfl⟩ := own_shape hl
  clear hl hk
  go_enter Tryz.func11, Tryz.ntmps11
  go_upto_region 1 with fail
  go_cut [27] (fun cv wc => ∃ x : Bool, cv = .bool x ∧ Hid (w = wc) ∧ Hid (x = false → P.length ≤ 8 ∧ R.length ≤ 12))
  case first =>
    by_cases h8 : 8 < P.length
    · have g8 : decide (8 < (P.length : Int)) = true := decide_eq_true (by omega)
      have g8' : decide (8 < P.length) = true := decide_eq_true h8
      go_wp2
      go_meet
      case rel => exact ⟨true, rfl, Lib.hid rfl, Lib.hid (fun e => by cases e)⟩
    have g8 : decide (8 < (P.length : Int)) = false := decide_eq_false (by omega)
    have g8' : decide (8 < P.length) = false := decide_eq_false h8
    by_cases h12 : 12 < R.length
    · have g12 : decide (12 < (R.length : Int)) = true := decide_eq_true (by omega)
      have g12' : decide (12 < R.length) = true := decide_eq_true h12
      go_wp2
      go_meet
      case rel => exact ⟨true, rfl, Lib.hid rfl, Lib.hid (fun e => by cases e)⟩
    have g12 : decide (12 < (R.length : Int)) = false := decide_eq_false (by omega)
    have g12' : decide (12 < R.length) = false := decide_eq_false h12
    have RR := Lib.hid (show P.length ≤ 8 ∧ R.length ≤ 12 from ⟨by omega, by omega⟩)
    clear h12
    by_cases h40 : 40 < b
    · have g40 : decide (40 < b) = true := decide_eq_true h40
      by_cases h50 : b ≤ 5000
      · have g50 : decide (b ≤ 5000) = true := decide_eq_true h50
        go_wp2
        go_meet
        case rel => exact ⟨true, rfl, Lib.hid rfl, Lib.hid (fun e => by cases e)⟩
      · have g50 : decide (b ≤ 5000) = false := decide_eq_false h50
        go_wp2
        go_meet
        case rel => exact ⟨false, rfl, Lib.hid rfl, Lib.hid (fun _ => RR.out)⟩
    · have g40 : decide (40 < b) = false := decide_eq_false h40
      go_wp2
      go_meet
      case rel => exact ⟨false, rfl, Lib.hid rfl, Lib.hid (fun _ => RR.out)⟩
  case rest =>
    obtain ⟨x, rfl, hw, hx⟩ := hcut
    have hw := hw.out
    subst hw
    cases x with
    | true =>
      go_wp2
      go_ret
      exact ⟨true, rfl, HK.out, fun e => by cases e⟩
    | false =>
    have HX := Lib.hid (hx.out rfl)
    have hP8 := HX.out.1
    have hR12 := HX.out.2
    clear hx
    go_wp2
    go_loopw [3, 30] (fun sv iv wr => ∃ k : Nat, k ≤ R.length ∧ iv = .int .i64 k ∧ Hid (wr.ownsRow w0.heap.size 24 1 sv (L ++ wordsL (R.take k)).length (wcells (L ++ wordsL (R.take k))) ∧ Chg (fun _ => False) w0 wr)) (fun _ iv _ => R.length - (intOf iv).toNat)
    case atStart => exact ⟨0, by omega, rfl, Lib.hid ⟨by simpa [wordsL] using HL.out, HK.out⟩⟩
    case round =>
      obtain ⟨k, hk, rfl, HI⟩ := hrel
      obtain ⟨ya, yc, eb⟩ := own_shape HI.out.1
      subst eb
      have hn1 : (L ++ wordsL (R.take k)).length ≤ 2000 := by rw [List.length_append, wordsL_length, List.length_take]; omega
      by_cases hlt : k < R.length
      · have g1 : decide ((k : Int) < (R.length : Int)) = true := decide_eq_true (by omega)
        have g1' : decide (k < R.length) = true := decide_eq_true hlt
        obtain ⟨⟨rf, rt⟩, hr⟩ : ∃ r, R[k]? = some r := ⟨_, List.getElem?_eq_getElem hlt⟩
        obtain ⟨_, _, e1, _, hcl⟩ := (HR.out.chg HI.out.2 (fun _ _ e => e))
        cases e1
        obtain ⟨lb, lo, rfl, hlb, c0, c1, z1, z2⟩ := hcl k _ hr
        simp only at c0 c1 z1 z2
        have NX := Lib.hid (show L ++ wordsL (R.take (k + 1)) = (L ++ wordsL (R.take k)) ++ [rf, rt] by rw [wordsL_succ hr, List.append_assoc])
        clear hcl hr
        have hsz : w0.heap.size ≤ wr.heap.size := HI.out.2.size
        obtain ⟨M, hM⟩ : ∃ M, M = L ++ wordsL (R.take k) := ⟨_, rfl⟩
        rw [← hM] at HI hn1 NX
        rw [← hM]
        clear hM
        go_wp2_with fail
        refine wp_region_plan (N := 86) [.rd [0, 1, 2, 3, 4, 5, 6, 7, 8, 9, 10], .ef 11, .ef 12, .rd [13]] (fun w' => w'.cell? ⟨lb, lo + k * 2, none⟩ = some (.string rf) ∧ w'.cell? ⟨lb, lo + k * 2 + 1, none⟩ = some (.string rt)) (by kernel_rfl) (by kernel_rfl) (by kernel_rfl) (by kernel_rfl) (Nat.le_of_ble_eq_true rfl) ⟨c0, c1⟩ ?_
        refine plan_rd (A := ?A1) ?h1 ?h2
        case h1 =>
          rintro w' ⟨z0, z1⟩ K hK
          simp only [opsAt, List.filterMap_cons, List.filterMap_nil, List.getElem?_toArray, List.getElem?_cons_succ, List.getElem?_cons_zero]
          repeat still_step
          refine wpStill_nil ?_
          exact hK
        have D := Lib.hid (chg_drew (fun _ => False) wr)
        have e0 := cell_chg D.out (fun e => e) c0
        have e1 := cell_chg D.out (fun e => e) c1
        have HM := Lib.hid (own_chg HI.out.1 D.out (fun _ _ e => e))
        have KC := Lib.hid (HI.out.2.trans D.out)
        have hsz2 : w0.heap.size ≤ wr.drew.heap.size := KC.out.size
        clear D c0 c1 HI
        generalize wr.drew = wd at *
        refine plan_ef rfl ?_
        go_wp2_with fail
        have ka := chg_alloc (fun _ => False) wd (.cells #[.string rf, .string rt] 24)
        have ob := obj_alloc_new wd (.cells #[.string rf, .string rt] 24)
        have f0 := cell_chg ka (fun e => e) e0
        have f1 := cell_chg ka (fun e => e) e1
        have HM2 := Lib.hid (own_chg HM.out ka (fun _ _ e => e))
        have KC2 := Lib.hid (KC.out.trans ka)
        have hsz3 : w0.heap.size ≤ (wd.alloc (.cells #[.string rf, .string rt] 24)).heap.size := KC2.out.size
        have SRC := Lib.hid (show ∀ (j : Nat) u, (wcells [rf, rt])[j]? = some u → ∃ g o, some (⟨wd.heap.size, 0, none⟩ : Addr) = some ⟨g, o, none⟩ ∧ (wd.alloc (.cells #[.string rf, .string rt] 24)).cell? ⟨g, o + j, none⟩ = some u from fun j u hj => ⟨wd.heap.size, 0, rfl, by rw [Nat.zero_add]; exact cell_of ob (by simpa [wcells] using hj)⟩)
        clear ka ob HM KC e0 e1
        refine ⟨⟨f0, f1⟩, ?_⟩
        refine plan_ef rfl ?_
        generalize wd.alloc (.cells #[.string rf, .string rt] 24) = we at *
        refine wpList_pushS rfl (.tmp 33) (.tmp 44) 57 rfl 24 1 16 Tryz.underlying57 Tryz.elemWord w0.heap.size (.slice ya M.length yc) M.length (wcells M) rfl HM2.out (some ⟨wd.heap.size, 0, none⟩) 2 2 (wcells [rf, rt]) rfl rfl SRC.out (fun e => by cases e) (wcells_one _) (by omega) (by unfold maxLen; omega) hsz3 ?_
        intro v9 w9 o9 g9
        obtain ⟨a9, c9, rfl⟩ := own_shape o9
        have K9 := Lib.hid (own_next HM2.out KC2.out g9)
        have O9 := Lib.hid (show w9.ownsRow w0.heap.size 24 1 (.slice a9 (M.length + 2) c9) (L ++ wordsL (R.take (k + 1))).length (wcells (L ++ wordsL (R.take (k + 1)))) by rw [NX.out, List.length_append, wcells_append]; exact o9)
        have kg := Chg.of_grown g9
        have nb : ¬ (Value.slice ya M.length yc).ownBlock = some lb := fun e => by have := (HM2.out.lt lb e).1; omega
        refine ⟨⟨cell_chg kg nb f0, cell_chg kg nb f1⟩, ?_⟩
        clear kg nb f0 f1 SRC g9 o9 HM2 KC2 hsz hsz2 hsz3 NX
        refine plan_rd (A := ?A2) ?h3 ?h4
        case h3 =>
          intro w' hS K hK
          clear hS
          simp only [opsAt, List.filterMap_cons, List.filterMap_nil, List.getElem?_toArray, List.getElem?_cons_succ, List.getElem?_cons_zero]
          repeat still_step
          refine wpStill_nil ?_
          exact hK
        refine plan_nil ?_
        go_wp2
        go_roundw
        case rel => exact ⟨k + 1, by omega, by go_num, Lib.hid ⟨O9.out, K9.out⟩⟩
        case measure => simp [intOf]; omega
      · obtain rfl : k = R.length := by omega
        have g1 : decide ((R.length : Int) < (R.length : Int)) = false := decide_eq_false (by omega)
        have g1' : decide (R.length < R.length) = false := decide_eq_false (by omega)
        rw [List.take_length] at HI hn1 ⊢
        obtain ⟨N, hN⟩ : ∃ N, N = L ++ wordsL R := ⟨_, rfl⟩
        rw [← hN] at HI hn1 FIN ⊢
        have hn0 : N.length ≤ 1100 := by rw [hN, List.length_append, wordsL_length]; omega
        clear hN hn1
        go_wp2
        obtain ⟨wo, hwo⟩ : ∃ wo, wo = wr := ⟨_, rfl⟩
        subst hwo
        go_loopw [3, 49] (fun sv iv wr => ∃ k : Nat, k ≤ P.length ∧ iv = .int .i64 k ∧ Hid (wr.ownsRow w0.heap.size 24 1 sv (N ++ wordsC ((certsOf P).take k)).length (wcells (N ++ wordsC ((certsOf P).take k))) ∧ Chg (fun _ => False) w0 wr) ∧ Hid ((∀ (j : Nat) p, j < k → P[j]? = some p → p.1.fr.length ≤ 20) ∧ (N ++ wordsC ((certsOf P).take k)).length ≤ 1100 + 21 * k)) (fun _ iv _ => P.length - (intOf iv).toNat)
        case atStart => exact ⟨0, by omega, rfl, Lib.hid ⟨by simpa [wordsC] using HI.out.1, HI.out.2⟩, Lib.hid ⟨fun j p hj => by omega, by simpa [wordsC] using hn0⟩⟩
        case round =>
          clear HI
          obtain ⟨k, hk, rfl, HI, HJ⟩ := hrel
          obtain ⟨ya, yc, eb⟩ := own_shape HI.out.1
          subst eb
          have hn1 : (N ++ wordsC ((certsOf P).take k)).length ≤ 2000 := by have := HJ.out.2; omega
          by_cases hlt : k < P.length
          · have g1 : decide ((k : Int) < (P.length : Int)) = true := decide_eq_true (by omega)
            have g1' : decide (k < P.length) = true := decide_eq_true hlt
            obtain ⟨⟨c, cv⟩, hr⟩ : ∃ r, P[k]? = some r := ⟨_, List.getElem?_eq_getElem hlt⟩
            obtain ⟨_, _, e1, _, hcl⟩ := (HV.out.chg HI.out.2 (fun _ _ e => e))
            cases e1
            obtain ⟨lb, lo, sa, sc, rfl, hlb, e5, _, _, c2, c3, _, _, _, hset⟩ := hcl k _ hr
            simp only at c2 c3 hset
            obtain ⟨xl, hxl⟩ : ∃ xl, xl = c.fr.length := ⟨_, rfl⟩
            have HCK := Lib.hid (show (certsOf P)[k]? = some c by unfold certsOf; rw [List.getElem?_map, hr]; rfl)
            have HRK := Lib.hid hr
            have NX := Lib.hid (show N ++ wordsC ((certsOf P).take (k + 1)) = (N ++ wordsC ((certsOf P).take k)) ++ (c.sp :: c.fr) by rw [wordsC_succ HCK.out, List.append_assoc])
            clear hcl hr e5 HCK
            have hset := Lib.hid hset
            have hfl : c.fr.length ≤ 9223372036854775807 := by
              obtain ⟨_, _, _, q, _⟩ := hset.out.set.at_
              unfold maxLen at q
              omega
            by_cases h20 : 20 < c.fr.length
            · have m3 : decide (20 < (c.fr.length : Int)) = true := decide_eq_true (by omega)
              have m3' : decide (20 < c.fr.length) = true := decide_eq_true h20
              have KF := Lib.hid HI.out.2
              clear HI
              go_wp2
              go_ret
              exact ⟨true, rfl, KF.out, fun e => by cases e⟩
            have m3 : decide (20 < (c.fr.length : Int)) = false := decide_eq_false (by omega)
            have m3' : decide (20 < c.fr.length) = false := decide_eq_false h20
            have NJ := Lib.hid (show ∀ (j : Nat) p, j < k + 1 → P[j]? = some p → p.1.fr.length ≤ 20 from fun j p hj hp => by
              rcases Nat.lt_or_ge j k with z | z
              · exact HJ.out.1 j p z hp
              · obtain rfl : j = k := by omega
                rw [HRK.out] at hp; cases hp
                simp only; omega)
            have hN2 := HJ.out.2
            have hsz : w0.heap.size ≤ wr.heap.size := HI.out.2.size
            obtain ⟨M, hM⟩ : ∃ M, M = N ++ wordsC ((certsOf P).take k) := ⟨_, rfl⟩
            rw [← hM] at HI hn1 NX hN2
            rw [← hM]
            clear hM HJ HRK
            go_wp2_with fail
            refine wp_region_plan (N := 86) [.rd [0, 1, 2, 3, 4, 5, 8, 9, 10, 11, 12], .ef 6, .ef 7, .ef 13, .rd [14]] (fun w' => w'.cell? ⟨lb, lo + k * 7 + 2, none⟩ = some (.string c.sp) ∧ w'.cell? ⟨lb, lo + k * 7 + 3, none⟩ = some (.slice sa c.fr.length sc)) (by kernel_rfl) (by kernel_rfl) (by kernel_rfl) (by kernel_rfl) (Nat.le_of_ble_eq_true rfl) ⟨c2, c3⟩ ?_
            refine plan_rd (A := ?B1) ?i1 ?i2
            case i1 =>
              rintro w' ⟨z0, z1⟩ K hK
              simp only [opsAt, List.filterMap_cons, List.filterMap_nil, List.getElem?_toArray, List.getElem?_cons_succ, List.getElem?_cons_zero]
              repeat still_step
              refine wpStill_nil ?_
              exact hK
            have D := Lib.hid (chg_drew (fun _ => False) wr)
            have e0 := cell_chg D.out (fun e => e) c2
            have e1 := cell_chg D.out (fun e => e) c3
            have HM := Lib.hid (own_chg HI.out.1 D.out (fun _ _ e => e))
            have KC := Lib.hid (HI.out.2.trans D.out)
            have HS := Lib.hid (hset.out.set.chg D.out (fun _ _ e => e))
            have hsz2 : w0.heap.size ≤ wr.drew.heap.size := KC.out.size
            clear D c2 c3 HI hset
            generalize wr.drew = wd at *
            refine plan_ef rfl ?_
            go_wp2_with fail
            have ka := chg_alloc (fun _ => False) wd (.cells #[.string c.sp] 24)
            have ob := obj_alloc_new wd (.cells #[.string c.sp] 24)
            have f0 := cell_chg ka (fun e => e) e0
            have f1 := cell_chg ka (fun e => e) e1
            have HM2 := Lib.hid (own_chg HM.out ka (fun _ _ e => e))
            have KC2 := Lib.hid (KC.out.trans ka)
            have HS2 := Lib.hid (HS.out.chg ka (fun _ _ e => e))
            have hsz3 : w0.heap.size ≤ (wd.alloc (.cells #[.string c.sp] 24)).heap.size := KC2.out.size
            have SRC := Lib.hid (show ∀ (j : Nat) u, (wcells [c.sp])[j]? = some u → ∃ g o, some (⟨wd.heap.size, 0, none⟩ : Addr) = some ⟨g, o, none⟩ ∧ (wd.alloc (.cells #[.string c.sp] 24)).cell? ⟨g, o + j, none⟩ = some u from fun j u hj => ⟨wd.heap.size, 0, rfl, by rw [Nat.zero_add]; exact cell_of ob (by simpa [wcells] using hj)⟩)
            clear ka ob HM KC e0 e1 HS
            refine ⟨⟨f0, f1⟩, ?_⟩
            refine plan_ef rfl ?_
            generalize wd.alloc (.cells #[.string c.sp] 24) = we at *
            refine wpList_pushS rfl (.tmp 59) (.tmp 65) 57 rfl 24 1 16 Tryz.underlying57 Tryz.elemWord w0.heap.size (.slice ya M.length yc) M.length (wcells M) rfl HM2.out (some ⟨wd.heap.size, 0, none⟩) 1 1 (wcells [c.sp]) rfl rfl SRC.out (fun e => by cases e) (wcells_one _) (by omega) (by unfold maxLen; omega) hsz3 ?_
            intro v9 w9 o9 g9
            obtain ⟨a9, c9, rfl⟩ := own_shape o9
            have K9 := Lib.hid (own_next HM2.out KC2.out g9)
            have O9 := Lib.hid (show w9.ownsRow w0.heap.size 24 1 (.slice a9 (M.length + 1) c9) (M.length + 1) (wcells M ++ wcells [c.sp]) from o9)
            have kg := Chg.of_grown g9
            have nb : ∀ j, j < w0.heap.size → ¬ (Value.slice ya M.length yc).ownBlock = some j := fun j hj e => by have := (HM2.out.lt j e).1; omega
            have f2 := cell_chg kg (nb lb hlb) f0
            have f3 := cell_chg kg (nb lb hlb) f1
            have HS3 := Lib.hid (HS2.out.chg kg nb)
            have hsz4 : w0.heap.size ≤ w9.heap.size := K9.out.size
            refine ⟨⟨f2, f3⟩, ?_⟩
            clear kg nb f0 f1 SRC g9 o9 HM2 KC2 hsz hsz2 hsz3 HS2
            refine plan_ef rfl ?_
            have SRC2 := Lib.hid (show ∀ (j : Nat) u, (wcells c.fr)[j]? = some u → ∃ g o, sa = some ⟨g, o, none⟩ ∧ w9.cell? ⟨g, o + j, none⟩ = some u from fun j u hj => by
              obtain ⟨_, _, q1, _, q2⟩ := HS3.out.at_
              cases q1
              unfold wcells at hj
              rw [List.getElem?_map] at hj
              cases hx : c.fr[j]? with
              | none => rw [hx] at hj; cases hj
              | some x =>
                rw [hx] at hj; cases hj
                obtain ⟨q3, q4, q5, _, q6⟩ := q2 j x hx
                exact ⟨q3, q4, q5, q6.1⟩)
            have NIL2 := Lib.hid (show sa = none → c.fr.length = 0 ∧ sc = 0 from fun e => HS3.out.nil _ _ (by rw [e]))
            refine wpList_pushT rfl (.tmp 66) (.tmp 71) 57 58 rfl 24 24 1 16 Tryz.underlying57 Tryz.underlying58 Tryz.elemWord w0.heap.size (.slice a9 (M.length + 1) c9) (M.length + 1) (wcells M ++ wcells [c.sp]) rfl O9.out sa c.fr.length sc (wcells c.fr) rfl (by rw [wcells_length, Nat.mul_one]) SRC2.out NIL2.out (wcells_one _) (by omega) (by unfold maxLen; omega) hsz4 ?_
            intro v8 w8 o8 g8
            obtain ⟨a8, c8, rfl⟩ := own_shape o8
            have K8 := Lib.hid (own_next O9.out K9.out g8)
            have O8 := Lib.hid (show w8.ownsRow w0.heap.size 24 1 (.slice a8 (M.length + 1 + c.fr.length) c8) (N ++ wordsC ((certsOf P).take (k + 1))).length (wcells (N ++ wordsC ((certsOf P).take (k + 1)))) by
              rw [NX.out, wcells_append, List.length_append, List.length_cons]
              have e7 : M.length + (c.fr.length + 1) = M.length + 1 + c.fr.length := by omega
              rw [e7]
              have e8 : wcells M ++ wcells (c.sp :: c.fr) = wcells M ++ wcells [c.sp] ++ wcells c.fr := by rw [List.append_assoc]; rfl
              rw [e8]
              exact o8)
            have LN := Lib.hid (show (N ++ wordsC ((certsOf P).take (k + 1))).length ≤ 1100 + 21 * (k + 1) by rw [NX.out, List.length_append, List.length_cons]; omega)
            have kg := Chg.of_grown g8
            have nb : ∀ j, j < w0.heap.size → ¬ (Value.slice a9 (M.length + 1) c9).ownBlock = some j := fun j hj e => by have := (O9.out.lt j e).1; omega
            refine ⟨⟨cell_chg kg (nb lb hlb) f2, cell_chg kg (nb lb hlb) f3⟩, ?_⟩
            clear kg nb f2 f3 SRC2 NIL2 g8 o8 K9 O9 hsz4 NX HS3
            refine plan_rd (A := ?B2) ?i3 ?i4
            case i3 =>
              intro w' hS K hK
              clear hS
              simp only [opsAt, List.filterMap_cons, List.filterMap_nil, List.getElem?_toArray, List.getElem?_cons_succ, List.getElem?_cons_zero]
              repeat still_step
              refine wpStill_nil ?_
              exact hK
            refine plan_nil ?_
            go_wp2
            go_roundw
            case rel => exact ⟨k + 1, by omega, by go_num, Lib.hid ⟨O8.out, K8.out⟩, Lib.hid ⟨NJ.out, LN.out⟩⟩
            case measure => simp [intOf]; omega
          · obtain rfl : k = P.length := by omega
            have g1 : decide ((P.length : Int) < (P.length : Int)) = false := decide_eq_false (by omega)
            have g1' : decide (P.length < P.length) = false := decide_eq_false (by omega)
            have et : (certsOf P).take P.length = certsOf P := by rw [← certsOf_length P, List.take_length]
            rw [et] at HI HJ hn1 ⊢
            have FIN2 := Lib.hid (FIN.out HX.out HJ.out.1)
            obtain ⟨M, hM⟩ : ∃ M, M = N ++ wordsC (certsOf P) := ⟨_, rfl⟩
            rw [← hM] at HI hn1 FIN2 ⊢
            clear hM HJ FIN et
            have HM := Lib.hid HI.out.1
            have KM := Lib.hid HI.out.2
            clear HI
            go_wp2
            obtain ⟨wo2, hwo⟩ : ∃ wo2, wo2 = wr := ⟨_, rfl⟩
            subst hwo
            go_loopw [76] (fun iv wr => ∃ k : Nat, k ≤ M.length ∧ iv = .int .i64 k ∧ Hid (wo2 = wr) ∧ Hid (∀ (j : Nat) x, j < k → M[j]? = some x → x.size ≤ 100)) (fun iv _ => M.length - (intOf iv).toNat)
            case atStart => exact ⟨0, by omega, rfl, Lib.hid rfl, Lib.hid (fun j r hj => by omega)⟩
            case round =>
              obtain ⟨k, hk, rfl, hw, HI⟩ := hrel
              have hw := hw.out
              subst hw
              by_cases hlt : k < M.length
              rotate_left
              · obtain rfl : k = M.length := by omega
                have g1 : decide ((M.length : Int) < (M.length : Int)) = false := decide_eq_false (by omega)
                have g1' : decide (M.length < M.length) = false := decide_eq_false (by omega)
                go_wp2
                go_ret
                exact ⟨false, rfl, KM.out, fun _ => FIN2.out HI.out⟩
              have g1 : decide ((k : Int) < (M.length : Int)) = true := decide_eq_true (by omega)
              have g1' : decide (k < M.length) = true := decide_eq_true hlt
              obtain ⟨x, hx⟩ : ∃ x, M[k]? = some x := ⟨_, List.getElem?_eq_getElem hlt⟩
              obtain ⟨_, _, e1, _, hcs⟩ := own_get HM.out
              cases e1
              obtain ⟨g, rfl, _, c0⟩ := hcs k (.string x) (by unfold wcells; rw [List.getElem?_map, hx]; rfl)
              have c0' : wo2.cell? ⟨g, k, none⟩ = some (.string x) := c0
              have NX := Lib.hid (show x.size ≤ 100 → ∀ (j : Nat) y, j < k + 1 → M[j]? = some y → y.size ≤ 100 from fun z j y hj hjy => by
                rcases Nat.lt_or_ge j k with q | q
                · exact HI.out j y q hjy
                · obtain rfl : j = k := by omega
                  rw [hx] at hjy; cases hjy
                  exact z)
              clear hcs hx c0 HI
              by_cases h100 : 100 < x.size
              · have m3 : decide (100 < (x.size : Int)) = true := decide_eq_true (by omega)
                have m3' : decide (100 < x.size) = true := decide_eq_true h100
                go_wp2
                go_ret
                exact ⟨true, rfl, KM.out, fun e => by cases e⟩
              have m3 : decide (100 < (x.size : Int)) = false := decide_eq_false (by omega)
              have m3' : decide (100 < x.size) = false := decide_eq_false h100
              have NX2 := Lib.hid (NX.out (by omega))
              go_wp2
              go_roundw
              case rel => exact ⟨k + 1, by omega, by go_num, Lib.hid (by first | trivial | rfl), NX2⟩
              case measure => simp [intOf]; omega
end Go.Proofs.YtjifdfhibkipnaaGreat

namespace Go.Proofs.YtjifdfhibkipnaaGreat
open Go.RowKit Go.Maps

structure Short13 (p : BProof) : Prop where
  items : p.items.length ≤ 12
  steps : p.steps.length ≤ 60
  path : ∀ x ∈ p.items, x.paths.length ≤ 20 ∧ ∀ l ∈ x.paths, l.length ≤ 60
def Long13Res (w : World) (p : BProof) (e : Ending) (w' : World) : Prop := ∃ b : Bool, e = .returned (.bool b) ∧ Chg (fun _ => False) w w' ∧ (b = false → Short13 p)
end Go.Proofs.YtjifdfhibkipnaaGreat
