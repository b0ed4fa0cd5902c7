/-
  AcceptOrder, walked.
-/
import Derived.Test.YtdgmjablkdemmaaUAwake
import Derived.Test.YtdgmjablkdemmaaUTurn
namespace Go.Proofs.Ytdgmjablkdemmaa
open Go.RowKit Go.Maps

theorem Try.certInfo : ∃ i, Try.prog.info? 37 = some i ∧ i.zero = some (.agg #[.int .i64 0, .int .u16 0, .string ⟨#[]⟩, .slice none 0 0, .int .i64 0, .int .i64 0, .int .i64 0]) ∧ i.size = 7 ∧ i.bytes = 80 := by
  have h : (Try.prog.info? 37).map (fun i => (i.zero, i.size, i.bytes)) = some (some (.agg #[.int .i64 0, .int .u16 0, .string ⟨#[]⟩, .slice none 0 0, .int .i64 0, .int .i64 0, .int .i64 0]), 7, 80) := by kernel_rfl
  cases hq : Try.prog.info? 37 with
  | none => rw [hq] at h; cases h
  | some i =>
    rw [hq] at h
    simp at h
    exact ⟨i, rfl, h.1, h.2.1, h.2.2⟩
def RunAny (w : World) (e : Ending) (w' : World) : Prop := ∃ (a1 a2 : Option Addr) (n1 c1 n2 c2 : Nat) (x : Int), e = .returned (.tuple #[.agg #[.slice a1 n1 c1, .slice a2 n2 c2], .int .i64 x]) ∧ Chg (fun _ => False) w w'
theorem run_some {w : World} {ra : Option Addr} {R : List BRul} {rc : Nat} {v : Value} {P : List (BCert × Value)} {G : Nat → Prop} (h : RunArgs w ra R rc v P G) (b : Int) : Calls Try.prog 26 #[.slice ra R.length rc, v, .int .i64 b] w (RunAny w) :=
  (run_any w ra R rc v P b G h.rules h.nil h.many h.size h.certs h.few h.low).mono fun e w' ⟨hc, hr⟩ => by
    rcases hr with ⟨j, _, _, he⟩ | ⟨t, oa, va, oc, vc, _, he, _, _⟩
    · exact ⟨_, _, _, _, _, _, _, he, hc⟩
    · exact ⟨_, _, _, _, _, _, _, he, hc⟩
theorem Fit12.small' {R : List BRul} {C : List BCert} (h : Fit12 R C) (hr : R.length ≤ 400) : R.length ≤ 12 ∧ ∀ r ∈ R, r.1.size ≤ 100 ∧ r.2.size ≤ 100 := by
  rcases h.2.1 with q | q
  · exact q
  · omega
theorem run_args' {w w1 : World} {ra : Option Addr} {R : List BRul} {rc : Nat} {v : Value} {P : List (BCert × Value)} (hv : RulesArg w (.slice ra R.length rc) R) (hf : RulesFit R) (hu : CertsAt w v (· < w.heap.size) P) (h12 : Fit12 R (certsOf P)) (k : Chg (fun _ => False) w w1) : RunArgs w1 ra R rc v P (· < w1.heap.size) :=
  ⟨(hv.at_.chg k (fun _ _ e => e)).imp (fun j hj => Nat.lt_of_lt_of_le hj k.size), fun e => hv.nil _ _ (by rw [e]), by have := hf.2; omega, fun hr r hrr => by have := ((h12.small' hr).2 r hrr).1; omega, (hu.chg k (fun _ _ e => e)).up (fun j hj => Nat.lt_of_lt_of_le hj k.size), by have := h12.1; rw [certsOf_length] at this; omega, fun j hj => hj⟩
set_option maxHeartbeats 16000000 in
set_option maxRecDepth 100000 in
theorem order_law (w : World) (v u : Value) (bnd : Int) (turn : Int) (R : List BRul) (P : List (BCert × Value)) (wt : (Lit.int .u8 turn).wf = true) (hv : RulesArg w v R) (hf : RulesFit R) (hca : CertsArg w u P) (_ : CertsFit P) :
    Calls Try.prog 8 #[v, u, .int .i64 bnd, .int .u8 turn] w fun e w' => e = .returned (.bool true) ∧ Chg (fun _ => False) w w' := by
  simp only [Lit.wf, Bool.and_eq_true, decide_eq_true_eq] at wt
  have ht0 : 0 ≤ turn := wt.1
  have ht1 : turn ≤ 255 := wt.2
  clear wt
  obtain ⟨t, rfl⟩ : ∃ t : Nat, turn = (t : Int) := ⟨turn.toNat, by omega⟩
  have ht : t < 256 := by omega
  clear ht0 ht1
  have hu := hca.at_
  obtain ⟨ra, rc, rfl, hl0, _⟩ := hv.at_
  have HV := Lib.hid hv
  have HF := Lib.hid hf
  have HU := Lib.hid hu
  obtain ⟨la, cap, rfl, hu0, _⟩ := hu
  have ka := chg_alloc (fun _ => False) w (.cells #[.int .u8 (t : Int)] 5)
  have BT := Lib.hid (obj_alloc_new w (.cells #[.int .u8 (t : Int)] 5))
  have KA := Lib.hid ka
  have AW := Lib.hid (awake12_any (w.alloc (.cells #[.int .u8 (t : Int)] 5)))
  have LG := Lib.hid (fun w1 (k : Chg (fun _ => False) w w1) => large12_any w1 ra R rc _ P bnd _ _ (HV.out.at_.chg k (fun _ _ e => e)) (HU.out.chg k (fun _ _ e => e)))
  have hmf : ∀ (fn : Fn) (first cap : Array Value) (w : World), (Instr.makeFunc fn first cap).run Try.prog w = .ok (.func fn first cap) w := fun _ _ _ _ => rfl
  have e2 : ∀ args w, (callFunc 31 args).run Try.prog w = .ok (.enter 31 args) w := enters_of Try.func31 (by kernel_rfl) rfl
  clear hv hf ka
  go_enter Try.func8, Try.ntmps8
  go_wp2_with fail
  generalize w.alloc (.cells #[.int .u8 (t : Int)] 5) = wa at *
  (with_reducible refine (AW.out).mono ?_)
  rintro e w1 ⟨rfl, k1⟩
  have K1 := Lib.hid (KA.out.trans k1)
  have BT1 := Lib.hid (k1.obj (fun e => e) BT.out)
  have L1 := Lib.hid (LG.out w1 K1.out)
  clear AW LG k1 KA BT
  go_wp2_with fail
  (with_reducible refine (L1.out).mono ?_)
  rintro e w1' ⟨lg, rfl, rfl, hlg⟩
  clear L1
  cases lg with
  | true =>
    go_wp2
    go_ret
    exact ⟨rfl, K1.out⟩
  | false =>
  have FIT := Lib.hid (hlg rfl)
  clear hlg
  by_cases hp0 : P.length = 0
  · have g0 : ((P.length : Int) == 0) = true := beq_iff_eq.2 (by omega)
    have g0' : decide (P.length = 0) = true := decide_eq_true hp0
    clear hp0
    go_wp2
    go_ret
    exact ⟨rfl, K1.out⟩
  have g0 : ((P.length : Int) == 0) = false := beq_eq_false_iff_ne.2 (by omega)
  have g0' : decide (P.length = 0) = false := decide_eq_false hp0
  have hpl : P.length ≤ 8 := by have := FIT.out.1; rw [certsOf_length] at this; exact this
  have hp1 : 0 < P.length := by omega
  have kb := chg_alloc (fun _ => False) w1 (.cells #[.int .i64 (P.length : Int)] 3)
  have K2 := Lib.hid (K1.out.trans kb)
  have BT2 := Lib.hid (kb.obj (fun e => e) BT1.out)
  have BN2 := Lib.hid (obj_alloc_new w1 (.cells #[.int .i64 (P.length : Int)] 3))
  have hs1 : w.heap.size < w1.heap.size := lt_of_obj BT1.out
  have c0 := cell_of (o := 0) BN2.out rfl
  have hz2 : (w1.alloc (.cells #[.int .i64 (P.length : Int)] 3)).heap.size = w1.heap.size + 1 := by rw [World.size_alloc]
  obtain ⟨ci, hci, hcz, hc1, hc2⟩ := Try.certInfo
  clear kb K1 BT1 hp0
  go_wp2_with (at_make; refine wpList_make_full _ rfl (.tmp 34) (.tmp 34) 54 rfl w.heap.size 37 ci _ 7 Try.underlying54 hci hcz hc1 .i64 .i64 (P.length : Int) (P.length : Int) P.length rfl rfl rfl rfl ?b2 ?b3 ?b4 ?next)
  case b2 => rw [hc2]; omega
  case b3 => unfold maxLen; omega
  case b4 => first | omega | (rw [World.size_alloc]; omega)
  case next =>
    intro w4 own4 g4
    have k4 := (Chg.of_grown g4).mono (T := fun _ => False) (fun _ _ e => by cases e)
    have own5 : w4.ownsRow w.heap.size 37 7 (.slice (some ⟨w1.heap.size + 1, 0, none⟩) P.length P.length) P.length (pcellsL (turnedTo P t 0)) := by
      rw [turnedTo_zero, ← cells_none _ hpl]
      simpa using own4
    have OB4 := Lib.hid (own_obj own5).1
    have K4 := Lib.hid (K2.out.trans k4)
    have BT4 := Lib.hid (k4.obj (fun e => e) BT2.out)
    have BN4 := Lib.hid (k4.obj (fun e => e) BN2.out)
    clear own4 own5 g4 k4 K2 BT2 BN2 c0 hz2
    generalize hgo : w1.heap.size + 1 = go at *
    generalize hbn : w1.heap.size = bn at *
    go_wp2_with fail
    go_loopw [38] (fun iv wr => ∃ k : Nat, k ≤ P.length ∧ iv = .int .i64 k ∧ Hid (wr.heap[go]? = some (.cells (pcellsL (turnedTo P t k)).toArray 37 (0, 0)) ∧ Chg (· = go) w4 wr)) (fun iv _ => P.length - (intOf iv).toNat)
    case atStart => exact ⟨0, by omega, rfl, Lib.hid ⟨OB4.out, Chg.refl _ _⟩⟩
    case round =>
      obtain ⟨k, hk, rfl, HI⟩ := hrel
      have OB := Lib.hid HI.out.1
      have KC := Lib.hid HI.out.2
      have KW := Lib.hid (K4.out.next HI.out.2 (fun j hj e => by omega))
      have BNR := Lib.hid (HI.out.2.obj (show bn ≠ go by omega) BN4.out)
      have BTR := Lib.hid (HI.out.2.obj (show w.heap.size ≠ go by omega) BT4.out)
      clear HI
      by_cases hlt : k < P.length
      · obtain ⟨⟨c, sv⟩, hp⟩ : ∃ p, P[k]? = some p := ⟨_, List.getElem?_eq_getElem hlt⟩
        obtain ⟨_, _, e1, _, hcl⟩ := HU.out
        cases e1
        obtain ⟨g, o, sa, sc, rfl, hgg, hsv, c0, c1, c2, c3, c4, c5, c6, hca⟩ := hcl k _ hp
        simp only at hsv
        subst hsv
        simp only at c0 c1 c2 c3 c4 c5 c6 hca
        have d0 := cell_chg KW.out (fun e => e) c0
        have d1 := cell_chg KW.out (fun e => e) c1
        have d2 := cell_chg KW.out (fun e => e) c2
        have d3 := cell_chg KW.out (fun e => e) c3
        have d4 := cell_chg KW.out (fun e => e) c4
        have d5 := cell_chg KW.out (fun e => e) c5
        have d6 := cell_chg KW.out (fun e => e) c6
        have PL := Lib.hid (place_any wr.drew bn w.heap.size P.length t k ((chg_drew (fun _ => False) wr).obj (fun e => e) BNR.out) ((chg_drew (fun _ => False) wr).obj (fun e => e) BTR.out) hlt hpl ht)
        have hpt := turn_lt (t := t) (i := k) hp1
        have NX := Lib.hid (show pcellsL (turnedTo P t (k + 1)) = splice (pcellsL (turnedTo P t k)) (turnN P.length t k * 7) (pcells (c, .slice sa c.fr.length sc)) by
          rw [turnedTo_succ hlt, pcellsL_set _ (by rw [turnedTo_length]; exact hpt), List.getD_eq_getElem?_getD, hp]; rfl)
        have hln : (pcellsL (turnedTo P t k)).length = P.length * 7 := by rw [pcellsL_length, turnedTo_length]
        have hln1 : P.length * 7 ≤ (pcellsL (turnedTo P t k)).length := by omega
        clear hcl hp hca c0 c1 c2 c3 c4 c5 c6 hgg hln
        generalize pcellsL (turnedTo P t k) = cells at *
        generalize turnN P.length t k = m at *
        obtain ⟨kind, sg, sp, fr, f, ft, num⟩ := c
        unfold pcells at NX
        simp only at d0 d1 d2 d3 d4 d5 d6 NX
        go_wp2_with fail
        refine wp_region_planL (N := 107) [.rd [0, 1, 2, 4, 5, 6, 7], .ef 3, .ef 8, .ef 9] 9 (fun w' => w'.cell? ⟨g, o + k * 7, none⟩ = some (.int .i64 kind) ∧ w'.cell? ⟨g, o + k * 7 + 1, none⟩ = some (.int .u16 (sg : Int)) ∧ w'.cell? ⟨g, o + k * 7 + 2, none⟩ = some (.string sp) ∧ w'.cell? ⟨g, o + k * 7 + 3, none⟩ = some (.slice sa fr.length sc) ∧ w'.cell? ⟨g, o + k * 7 + 4, none⟩ = some (.int .i64 f) ∧ w'.cell? ⟨g, o + k * 7 + 5, none⟩ = some (.int .i64 ft) ∧ w'.cell? ⟨g, o + k * 7 + 6, none⟩ = some (.int .i64 num)) (by kernel_rfl) (by kernel_rfl) (by kernel_rfl) (by kernel_rfl) (by kernel_rfl) (Nat.le_of_ble_eq_true rfl) ⟨d0, d1, d2, d3, d4, d5, d6⟩ ?_
        refine planL_rd (A := ?A1) ?h1 ?h2
        case h1 =>
          rintro w' ⟨z0, z1, z2, z3, z4, z5, z6⟩ K hK
          simp only [opsAt, List.filterMap_cons, List.filterMap_nil, List.getElem?_toArray, List.getElem?_cons_succ, List.getElem?_cons_zero]
          repeat still_step
          refine wpStill_nil ?_
          exact hK
        have OBD := Lib.hid ((chg_drew (fun _ => False) wr).obj (fun e => e) OB.out)
        have KD := Lib.hid (KC.out.drew)
        have f0 : wr.drew.cell? ⟨g, o + k * 7, none⟩ = some (.int .i64 kind) := d0
        have f1 : wr.drew.cell? ⟨g, o + k * 7 + 1, none⟩ = some (.int .u16 (sg : Int)) := d1
        have f2 : wr.drew.cell? ⟨g, o + k * 7 + 2, none⟩ = some (.string sp) := d2
        have f3 : wr.drew.cell? ⟨g, o + k * 7 + 3, none⟩ = some (.slice sa fr.length sc) := d3
        have f4 : wr.drew.cell? ⟨g, o + k * 7 + 4, none⟩ = some (.int .i64 f) := d4
        have f5 : wr.drew.cell? ⟨g, o + k * 7 + 5, none⟩ = some (.int .i64 ft) := d5
        have f6 : wr.drew.cell? ⟨g, o + k * 7 + 6, none⟩ = some (.int .i64 num) := d6
        clear d0 d1 d2 d3 d4 d5 d6 OB KC KW BNR BTR
        generalize wr.drew = wd at *
        refine planL_ef rfl ?_
        go_wp2_with fail
        (with_reducible refine (PL.out).mono ?_)
        rintro e w6 ⟨rfl, rfl⟩
        clear PL
        go_wp2_with fail
        refine ⟨.inr ⟨f0, f1, f2, f3, f4, f5, f6⟩, ?_⟩
        refine planL_ef rfl ?_
        go_wp2_with fail
        refine ⟨.inr ⟨f0, f1, f2, f3, f4, f5, f6⟩, ?_⟩
        refine planL_ef rfl ?_
        refine wpList_store_seg rfl 37 (.tmp 49) (.tmp 48) rfl go (m * 7) 7 rfl [.int .i64 kind, .int .u16 (sg : Int), .string sp, .slice sa fr.length sc, .int .i64 f, .int .i64 ft, .int .i64 num] rfl 37 cells OBD.out Try.sizeCert rfl (by omega) ?_ ?_
        · intro u hu
          simp at hu
          rcases hu with rfl | rfl | rfl | rfl | rfl | rfl | rfl <;> rfl
        intro w7 hr7
        rw [← NX.out] at hr7
        have OB7 := Lib.hid hr7.row
        have K7 := Lib.hid (KD.out.trans hr7.chg)
        clear hr7 f0 f1 f2 f3 f4 f5 f6 OBD KD
        refine ⟨.inl rfl, planL_nil ?_⟩
        go_wp2
        go_roundw
        case rel => exact ⟨k + 1, by omega, by go_num, Lib.hid ⟨OB7.out, K7.out⟩⟩
        case measure => simp [intOf]; omega
      · obtain rfl : k = P.length := by omega
        clear KC BT4 BN4 K4 OB4
        have hgz : go < wr.heap.size := lt_of_obj OB.out
        generalize wr = w5 at *
        go_wp2_with fail
        go_loopw [13, 54] (fun bv iv wz => ∃ k : Nat, k ≤ R.length ∧ iv = .int .i64 k ∧ Hid (wz.ownsRow w5.heap.size 64 2 bv (R.take k).reverse.length (ruleCells (R.take k).reverse) ∧ Chg (fun _ => False) w5 wz)) (fun _ iv _ => R.length - (intOf iv).toNat)
        case atStart => exact ⟨0, by omega, rfl, Lib.hid ⟨own_empty _ _ _ _ (Nat.le_refl _), chg_alloc _ _ _⟩⟩
        case round =>
          obtain ⟨k, hk, rfl, HI⟩ := hrel
          obtain ⟨ab, cb, eb⟩ := own_shape HI.out.1
          subst eb
          have HO := Lib.hid HI.out.1
          have KC := Lib.hid HI.out.2
          clear HI
          have RSZ := Lib.hid (show ∀ r ∈ R, r.1.size ≤ maxLen ∧ r.2.size ≤ maxLen from fun r hr => by
            obtain ⟨_, _, _, _, q⟩ := HV.out.at_
            obtain ⟨j, hj⟩ := List.mem_iff_getElem?.1 hr
            obtain ⟨_, _, _, _, _, _, q1, q2⟩ := q j r hj
            exact ⟨q1, q2⟩)
          have MANY := HF.out.2
          by_cases hlt : k < R.length
          · obtain ⟨⟨rf, rt⟩, hr⟩ : ∃ r, R[k]? = some r := ⟨_, List.getElem?_eq_getElem hlt⟩
            obtain ⟨_, _, e1, _, hcl⟩ := HV.out.at_
            cases e1
            obtain ⟨lb, lo, rfl, _, r0, r1, _, _⟩ := hcl k _ hr
            simp only at r0 r1
            have s0 := cell_chg (KW.out.trans KC.out) (fun e => e) r0
            have s1 := cell_chg (KW.out.trans KC.out) (fun e => e) r1
            have NX := Lib.hid (show (R.take (k + 1)).reverse = (rf, rt) :: (R.take k).reverse by rw [List.take_add_one, hr]; simp)
            have RVS := Lib.hid (show ∀ r ∈ (R.take k).reverse, r.1.size ≤ maxLen ∧ r.2.size ≤ maxLen from fun r hr => RSZ.out r (List.mem_of_mem_take (List.mem_reverse.1 hr)))
            have hrl : (R.take k).reverse.length ≤ k := by rw [List.length_reverse, List.length_take]; omega
            have ka := chg_alloc (fun _ => False) wr (.cells #[.string rf, .string rt] 64)
            have OWN := Lib.hid (show (wr.alloc (.cells #[.string rf, .string rt] 64)).ownsRow w5.heap.size 64 2 (.slice (some ⟨wr.heap.size, 0, none⟩) 1 1) 1 [.string rf, .string rt] from own_base (own_lit rfl (by decide)) KC.out.size)
            have hsz5 : w5.heap.size ≤ wr.heap.size := KC.out.size
            clear hcl hr r0 r1
            generalize (R.take k).reverse = RV at *
            have SRC := Lib.hid (rules_src (rulesAt_blk (own_chg HO.out ka (fun _ _ e => e)) RVS.out))
            go_wp2_with (at_builtin; refine wpList_pushS rfl (.tmp 61) (.tmp 62) 53 rfl 64 2 32 Try.underlying53 Try.elemRule w5.heap.size _ 1 [.string rf, .string rt] rfl OWN.out ab RV.length cb (ruleCells RV) rfl ?e1 ?e2 ?e3 ?e4 ?e5 ?e6 ?e7 ?enx)
            case e1 => exact ruleCells_length RV
            case e2 => exact SRC.out
            case e3 => intro e; subst e; have := own_nil HO.out; first | exact this | exact ⟨List.eq_nil_of_length_eq_zero this.1, this.2⟩
            case e4 => exact ruleCells_one RV
            case e5 => omega
            case e6 => unfold maxLen; omega
            case e7 => first | omega | (rw [World.size_alloc]; omega)
            intro v8 w8 o8 g8
            have k8 : Chg (fun _ => False) wr w8 := ka.next (Chg.of_grown g8) (fun x hx e => by
              have e2 : wr.heap.size = x := by simpa [Value.ownBlock] using e
              omega)
            have O8 := Lib.hid (show w8.ownsRow w5.heap.size 64 2 v8 ((rf, rt) :: RV).length (ruleCells ((rf, rt) :: RV)) from by
              rw [List.length_cons, Nat.add_comm]; exact o8)
            have K8 := Lib.hid (KC.out.trans k8)
            clear o8 g8 k8 ka OWN SRC HO KC s0 s1
            go_wp2
            go_roundw
            case rel => exact ⟨k + 1, by omega, by go_num, Lib.hid ⟨by rw [NX.out]; exact O8.out, K8.out⟩⟩
            case measure => simp [intOf]; omega
          · obtain rfl : k = R.length := by omega
            have e9 : (R.take R.length).reverse = R.reverse := by rw [List.take_length]
            rw [e9] at HO ⊢
            have MEM := Lib.hid (show ∀ r, r ∈ R ↔ r ∈ R.reverse from fun r => List.mem_reverse.symm)
            have hrr1 : R.reverse.length ≤ R.length := by rw [List.length_reverse]; exact Nat.le_refl _
            have hrr2 : R.length ≤ R.reverse.length := by rw [List.length_reverse]; exact Nat.le_refl _
            generalize R.reverse = RR at *
            have OBR := KC.out.obj (fun e => e) OB.out
            have KWR := Lib.hid (KW.out.trans KC.out)
            have CE := Lib.hid (turnedTo_all P t)
            have OWC : wr.ownsRow w.heap.size 37 7 (.slice (some ⟨go, 0, none⟩) P.length P.length) (turnedTo P t P.length).length (pcellsL (turnedTo P t P.length)) := by
              rw [turnedTo_length]
              exact own_of_obj OBR (by omega) (by unfold maxLen; omega) (by rw [pcellsL_length, turnedTo_length])
            have SETS := turnedTo_sets (HU.out.chg KWR.out (fun _ _ e => e)).sets t P.length
            have hpp1 : (turnedTo P t P.length).length ≤ 8 := by rw [turnedTo_length]; exact hpl
            have RA1 := Lib.hid (run_args' HV.out HF.out HU.out FIT.out KWR.out)
            have RA2 := Lib.hid (show RunArgs wr ab RR cb (.slice (some ⟨go, 0, none⟩) P.length P.length) (turnedTo P t P.length) (· < wr.heap.size) from
              ⟨(rulesAt_blk HO.out (fun r hr => RSZ.out r ((MEM.out r).2 hr))).imp (fun j hj => (HO.out.lt j hj).2), (fun e => by subst e; exact own_nil HO.out), (by omega), (fun h4 r hr => by have := ((FIT.out.small' (by omega)).2 r ((MEM.out r).2 hr)).1; omega),
                (certsAt_own OWC SETS).up (fun j hj => hj.elim (fun q => by have := KWR.out.size; omega) (fun e => (OWC.lt j e).2)), by omega, fun j hj => hj⟩)
            have BNQ := Lib.hid (KC.out.obj (fun e => e) BNR.out)
            have BTQ := Lib.hid (KC.out.obj (fun e => e) BTR.out)
            clear OWC SETS OBR KW KC HO OB BNR BTR
            generalize turnedTo P t P.length = PP at *
            cases hacc1 : acceptE R (certsOf P) bnd with
            | error k =>
              have RN1 := Lib.hid (run_err RA1.out hacc1)
              clear hacc1
              go_wp2_with fail
              (with_reducible refine (RN1.out).mono ?_)
              rintro e w6 ⟨hk, rfl, k6⟩
              have g : (k != 0) = true := by rw [bne_iff_ne]; exact hk
              have ka := chg_alloc (fun _ => False) w6 (.cells #[.slice none 0 0, .slice none 0 0] 57)
              have RN2 := Lib.hid (run_some (RA2.out.chg (k6.trans ka)) bnd)
              have K6 := Lib.hid ((KWR.out.trans k6).trans ka)
              clear k6 ka RN1 hk
              go_wp2_with fail
              generalize w6.alloc (.cells #[.slice none 0 0, .slice none 0 0] 57) = w7 at *
              (with_reducible refine (RN2.out).mono ?_)
              rintro e w8 ⟨a1, a2, n1, c1, n2, c2, x, rfl, k8⟩
              have kb := chg_alloc (fun _ => False) w8 (.cells #[.slice a1 n1 c1, .slice a2 n2 c2] 57)
              have K8 := Lib.hid ((K6.out.trans k8).trans kb)
              clear k8 kb RN2
              go_wp2
              go_ret
              exact ⟨rfl, K8.out⟩
            | ok s =>
            have RN1 := Lib.hid (run_ok RA1.out hacc1)
            cases hacc2 : acceptE RR (certsOf PP) bnd with
            | error k =>
              clear hacc1
              go_wp2_with fail
              (with_reducible refine (RN1.out).mono ?_)
              rintro e w6 ⟨oa, va, oc, vc, rfl, _, _, k6⟩
              have ka := chg_alloc (fun _ => False) w6 (.cells #[.slice oa s.order.length oc, .slice va s.rules.length vc] 57)
              have RN2 := Lib.hid (run_err (RA2.out.chg (k6.trans ka)) hacc2)
              have K6 := Lib.hid ((KWR.out.trans k6).trans ka)
              clear k6 ka RN1 hacc2
              go_wp2_with fail
              generalize w6.alloc (.cells #[.slice oa s.order.length oc, .slice va s.rules.length vc] 57) = w7 at *
              (with_reducible refine (RN2.out).mono ?_)
              rintro e w8 ⟨hk, rfl, k8⟩
              have g : (k != 0) = true := by rw [bne_iff_ne]; exact hk
              have kb := chg_alloc (fun _ => False) w8 (.cells #[.slice none 0 0, .slice none 0 0] 57)
              have K8 := Lib.hid ((K6.out.trans k8).trans kb)
              clear k8 kb RN2 hk
              go_wp2
              go_ret
              exact ⟨rfl, K8.out⟩
            | ok s2 =>
            obtain ⟨hlen, hsame⟩ := order_same (t := t) (accept_fin hacc1).1 (by rw [← CE.out]; exact (accept_fin hacc2).1) MEM.out
            have SAME := Lib.hid hsame
            have hle : ((s.order.length : Int) != (s2.order.length : Int)) = false := by rw [bne_eq_false_iff_eq]; omega
            have RN2 := Lib.hid (fun w7 (k : Chg (fun _ => False) wr w7) => run_ok (RA2.out.chg k) hacc2)
            rw [certsOf_length] at SAME
            clear hacc1 hacc2 hsame hlen
            go_wp2_with fail
            (with_reducible refine (RN1.out).mono ?_)
            rintro e w6 ⟨oa, va, oc, vc, rfl, ho6, _, k6⟩
            have ka := chg_alloc (fun _ => False) w6 (.cells #[.slice oa s.order.length oc, .slice va s.rules.length vc] 57)
            have RO7 := Lib.hid (obj_alloc_new w6 (.cells #[.slice oa s.order.length oc, .slice va s.rules.length vc] 57))
            have ORD7 := Lib.hid (own_chg ho6 ka (fun _ _ e => e))
            have R2 := Lib.hid (RN2.out _ (k6.trans ka))
            have K7 := Lib.hid ((KWR.out.trans k6).trans ka)
            have BN7 := Lib.hid ((k6.trans ka).obj (fun e => e) BNQ.out)
            have BT7 := Lib.hid ((k6.trans ka).obj (fun e => e) BTQ.out)
            clear k6 ka ho6 RN1 RN2 KWR BNQ BTQ RA1 RA2
            go_wp2_with fail
            generalize hr7 : w6.heap.size = r7 at *
            generalize w6.alloc (.cells #[.slice oa s.order.length oc, .slice va s.rules.length vc] 57) = w7 at *
            clear hr7
            (with_reducible refine (R2.out).mono ?_)
            rintro e w8 ⟨ob, vb, oc2, vc2, rfl, ho8, _, k8⟩
            have kb := chg_alloc (fun _ => False) w8 (.cells #[.slice ob s2.order.length oc2, .slice vb s2.rules.length vc2] 57)
            have RO9 := Lib.hid (obj_alloc_new w8 (.cells #[.slice ob s2.order.length oc2, .slice vb s2.rules.length vc2] 57))
            have RP9 := Lib.hid ((k8.trans kb).obj (fun e => e) RO7.out)
            have ORA := Lib.hid (own_chg ORD7.out (k8.trans kb) (fun _ _ e => e))
            have ORB := Lib.hid (own_chg ho8 kb (fun _ _ e => e))
            have BN9 := Lib.hid ((k8.trans kb).obj (fun e => e) BN7.out)
            have BT9 := Lib.hid ((k8.trans kb).obj (fun e => e) BT7.out)
            have K9 := Lib.hid ((K7.out.trans k8).trans kb)
            have c0 := cell_of (o := 0) RO9.out rfl
            have c1 := cell_of (o := 0) RP9.out rfl
            clear R2 ho8 k8 kb RO7 ORD7 BN7 BT7 K7
            go_wp2_with fail
            clear c0 c1
            generalize hr9 : w8.heap.size = r9 at *
            generalize w8.alloc (.cells #[.slice ob s2.order.length oc2, .slice vb s2.rules.length vc2] 57) = w9 at *
            clear hr9
            go_loopw [94] (fun iv wz => ∃ i : Nat, i ≤ P.length ∧ iv = .int .i64 i ∧ Hid (Chg (fun _ => False) w9 wz)) (fun iv _ => P.length - (intOf iv).toNat)
            case atStart => exact ⟨0, by omega, rfl, Lib.hid (Chg.refl _ _)⟩
            case round =>
              obtain ⟨i, hi, rfl, HI⟩ := hrel
              have KC := Lib.hid HI.out.drew
              have KE := Lib.hid HI.out
              clear HI
              by_cases hil : i < P.length
              rotate_left
              · obtain rfl : i = P.length := by omega
                have KF := Lib.hid (K9.out.trans KE.out)
                go_wp2
                go_ret
                exact ⟨rfl, KF.out⟩
              have SI := SAME.out i hil
              have FACT := Lib.hid (fun (W : World) (k : Chg (fun _ => False) w9 W) => And.intro (show W.cell? ⟨r7, 0, none⟩ = some (.slice oa s.order.length oc) from cell_of (o := 0) (k.obj (fun e => e) RP9.out) rfl) (And.intro (show W.cell? ⟨r7, 1, none⟩ = some (.slice va s.rules.length vc) from cell_of (o := 1) (k.obj (fun e => e) RP9.out) rfl) (And.intro (show W.cell? ⟨r9, 0, none⟩ = some (.slice ob s2.order.length oc2) from cell_of (o := 0) (k.obj (fun e => e) RO9.out) rfl) (show W.cell? ⟨r9, 1, none⟩ = some (.slice vb s2.rules.length vc2) from cell_of (o := 1) (k.obj (fun e => e) RO9.out) rfl))))
              have HA := Lib.hid (fun (W : World) (k : Chg (fun _ => False) w9 W) => has_own (va := va) (vn := s.rules.length) (vc := vc) (own_chg ORA.out k (fun _ _ e => e)) i i rfl)
              have HB := Lib.hid (fun (W : World) (k : Chg (fun _ => False) w9 W) => has_own (va := vb) (vn := s2.rules.length) (vc := vc2) (own_chg ORB.out k (fun _ _ e => e)) (turnN P.length t i) ((turnN P.length t i : Nat) : Int) rfl)
              have PL := Lib.hid (fun (W : World) (k : Chg (fun _ => False) w9 W) => place_any W bn w.heap.size P.length t i (k.obj (fun e => e) BN9.out) (k.obj (fun e => e) BT9.out) hil hpl ht)
              rw [SI] at HA
              clear SI
              generalize turnN P.length t i = m at *
              generalize decide (m ∈ s2.order) = x at *
              have gx : (x != x) = false := by simp
              have fa := FACT.out wr.drew KC.out
              go_wp2_with fail
              refine wp_region_plan (N := 107) [.rd [0, 1, 3, 4, 5], .ef 2, .ef 6, .ef 7, .rd [8]] (fun w' => w'.cell? ⟨r7, 0, none⟩ = some (.slice oa s.order.length oc) ∧ w'.cell? ⟨r7, 1, none⟩ = some (.slice va s.rules.length vc) ∧ w'.cell? ⟨r9, 0, none⟩ = some (.slice ob s2.order.length oc2) ∧ w'.cell? ⟨r9, 1, none⟩ = some (.slice vb s2.rules.length vc2)) (by kernel_rfl) (by kernel_rfl) (by kernel_rfl) (by kernel_rfl) (Nat.le_of_ble_eq_true rfl) fa ?_
              refine plan_rd (A := ?B1) ?i1 ?i2
              case i1 =>
                rintro w' ⟨f0, f1, f2, f3⟩ K hK
                simp only [opsAt, List.filterMap_cons, List.filterMap_nil, List.getElem?_toArray, List.getElem?_cons_succ, List.getElem?_cons_zero]
                repeat still_step
                refine wpStill_nil ?_
                exact hK
              clear fa KE
              generalize wr.drew = wd at *
              have H1 := Lib.hid (HA.out wd KC.out)
              clear HA
              refine plan_ef rfl ?_
              go_wp2_with fail
              (with_reducible refine (H1.out).mono ?_)
              rintro e w10 ⟨rfl, k10⟩
              have KX := Lib.hid (KC.out.trans k10)
              have PX := Lib.hid (PL.out w10 KX.out)
              clear k10 KC H1 PL
              go_wp2_with fail
              refine ⟨FACT.out _ KX.out, ?_⟩
              refine plan_ef rfl ?_
              go_wp2_with fail
              (with_reducible refine (PX.out).mono ?_)
              rintro e w11 ⟨rfl, rfl⟩
              have H2 := Lib.hid (HB.out w10 KX.out)
              clear PX HB
              go_wp2_with fail
              refine ⟨FACT.out _ KX.out, ?_⟩
              refine plan_ef rfl ?_
              go_wp2_with fail
              (with_reducible refine (H2.out).mono ?_)
              rintro e w12 ⟨rfl, k12⟩
              have KY := Lib.hid (KX.out.trans k12)
              clear k12 KX H2
              go_wp2_with fail
              refine ⟨FACT.out _ KY.out, ?_⟩
              refine plan_rd (A := ?B2) ?i3 ?i4
              case i3 =>
                intro w' hS K hK
                clear hS
                simp only [opsAt, List.filterMap_cons, List.filterMap_nil, List.getElem?_toArray, List.getElem?_cons_succ, List.getElem?_cons_zero]
                repeat still_step
                refine wpStill_nil ?_
                exact hK
              refine plan_nil ?_
              clear FACT
              go_wp2
              go_roundw
              case rel => exact ⟨i + 1, by omega, by go_num, Lib.hid KY.out⟩
              case measure => simp [intOf]; omega
end Go.Proofs.Ytdgmjablkdemmaa
