/-
  AcceptBacked, walked.
-/
import Derived.Test.YtdgmjablkdemmaaUAwake
import Derived.Test.YtdgmjablkdemmaaRLeadR
import Derived.Test.YtdgmjablkdemmaaUArgs
namespace Go.Proofs.Ytdgmjablkdemmaa
open Go.RowKit Go.Maps

theorem of_sg (w : World) (k : Nat) (hk : k < 65536) : Calls Try.prog 28 #[.slice (some ⟨w.heap.size, 0, none⟩) 1 1] (w.alloc (.cells #[.int .u16 (k : Int)] 32)) fun e w' => e = .returned (.string (atomW k)) ∧ Chg (fun _ => False) w w' :=
  of_one w k k rfl (atomW k) hk rfl
theorem Fit12.small {R : List BRul} {C : List BCert} (h : Fit12 R C) (hr : R.length ≤ 400) : R.length ≤ 12 ∧ ∀ r ∈ R, r.1.size ≤ 100 ∧ r.2.size ≤ 100 := by
  rcases h.2.1 with q | q
  · exact q
  · omega
theorem run_args {w w1 : World} {ra : Option Addr} {R : List BRul} {rc : Nat} {v : Value} {P : List (BCert × Value)} (hv : RulesArg w (.slice ra R.length rc) R) (hf : RulesFit R) (hu : CertsAt w v (· < w.heap.size) P) (h12 : Fit12 R (certsOf P)) (k : Chg (fun _ => False) w w1) : RunArgs w1 ra R rc v P (· < w1.heap.size) :=
  ⟨(hv.at_.chg k (fun _ _ e => e)).imp (fun j hj => Nat.lt_of_lt_of_le hj k.size), fun e => hv.nil _ _ (by rw [e]), by have := hf.2; omega, fun hr r hrr => by have := ((h12.small hr).2 r hrr).1; omega, (hu.chg k (fun _ _ e => e)).up (fun j hj => Nat.lt_of_lt_of_le hj k.size), by have := h12.1; rw [certsOf_length] at this; omega, fun j hj => hj⟩
/-- Are the first words of a list backed? -/
def backTo (R : List BRul) (b : Int) (t : ByteArray) (l : List ByteArray) (q : Nat) : Bool := (l.take q).all fun x => tellB R x t b && decide (rowErr R x b = 0)
theorem backTo_succ {R : List BRul} {b : Int} {t : ByteArray} {l : List ByteArray} {q : Nat} {x : ByteArray} (h : l[q]? = some x) : backTo R b t l (q + 1) = (backTo R b t l q && (tellB R x t b && decide (rowErr R x b = 0))) := by
  unfold backTo
  rw [List.take_add_one, h, List.all_append]
  simp
theorem backTo_all {R : List BRul} {b : Int} {t : ByteArray} {l : List ByteArray} (h : backTo R b t l l.length = true) : backE R b t l = (true, 0) := by
  unfold backTo at h
  rw [List.take_length, List.all_eq_true] at h
  refine back_yes.2 (fun x hx => ?_)
  have := h x hx
  simp only [Bool.and_eq_true, decide_eq_true_eq] at this
  exact ⟨this.2, this.1⟩
theorem rules_to {C : List BCert} {l : List Nat} {k i : Nat} {c : BCert} (h : l[k]? = some i) (hc : C[i]? = some c) : rulesOf C (l.take (k + 1)) = rulesOf C (l.take k) ++ crules c := by
  rw [List.take_add_one, h]
  exact rulesOf_snoc hc
set_option maxHeartbeats 16000000 in
set_option maxRecDepth 100000 in
theorem backed_law (w : World) (v u : Value) (bnd : Int) (R : List BRul) (P : List (BCert × Value)) (hv : RulesArg w v R) (hf : RulesFit R) (hca : CertsArg w u P) (_ : CertsFit P) :
    Calls Try.prog 7 #[v, u, .int .i64 bnd] w fun e w' => e = .returned (.bool true) ∧ Chg (fun _ => False) w w' := by
  have hu := hca.at_
  obtain ⟨ra, rc, rfl, hl0, _⟩ := hv.at_
  have HV := Lib.hid hv
  have HF := Lib.hid hf
  have HU := Lib.hid hu
  obtain ⟨la, cap, rfl, hu0, _⟩ := hu
  have AW := Lib.hid (awake12_any w)
  have LG := Lib.hid (fun w1 (k : Chg (fun _ => False) w w1) => large12_any w1 ra R rc _ P bnd _ _ (HV.out.at_.chg k (fun _ _ e => e)) (HU.out.chg k (fun _ _ e => e)))
  clear hv hf
  go_enter Try.func7, Try.ntmps7
  go_wp2_with fail
  (with_reducible refine (AW.out).mono ?_)
  rintro e w1 ⟨rfl, k1⟩
  have K1 := Lib.hid k1
  have L1 := Lib.hid (LG.out w1 k1)
  clear AW LG k1
  go_wp2_with fail
  (with_reducible refine (L1.out).mono ?_)
  rintro e w1' ⟨lg, rfl, rfl, hlg⟩
  clear L1
  cases lg with
  | true =>
    go_wp2
    go_ret
    exact ⟨rfl, K1.out⟩
  | false =>
  have FIT := Lib.hid (hlg rfl)
  have RA := Lib.hid (run_args HV.out HF.out HU.out FIT.out K1.out)
  clear hlg
  cases hacc : acceptE R (certsOf P) bnd with
  | error k =>
    have RN := Lib.hid (run_err RA.out hacc)
    clear hacc RA
    go_wp2_with fail
    (with_reducible refine (RN.out).mono ?_)
    rintro e w2 ⟨hk, rfl, k2⟩
    have g : (k != 0) = true := by rw [bne_iff_ne]; exact hk
    have ka := chg_alloc (fun _ => False) w2 (.cells #[.slice none 0 0, .slice none 0 0] 57)
    have oa := obj_alloc_new w2 (.cells #[.slice none 0 0, .slice none 0 0] 57)
    have c0 := cell_of (o := 0) oa rfl
    have c1 := cell_of (o := 1) oa rfl
    have K2 := Lib.hid ((K1.out.trans k2).trans ka)
    clear k2 ka oa hk RN
    go_wp2
    go_ret
    exact ⟨rfl, K2.out⟩
  | ok s =>
  have RN := Lib.hid (run_ok RA.out hacc)
  obtain ⟨hall, hneed, hb1, hb2⟩ := accept_ok hacc
  have FIN := Lib.hid (accept_fin hacc).1
  have SM := Lib.hid (FIT.out.small (by omega))
  have RFEW := Lib.hid (show ∀ r ∈ R, r.1.size ≤ 400 ∧ r.2.size ≤ maxLen from fun r hr => by have := SM.out.2 r hr; unfold maxLen; omega)
  have FEW := Lib.hid (FIN.out.inv.few hneed RFEW.out (certs_words hall))
  have F47 := Lib.hid (show Fit47 s.rules from fun r hr => by
    rw [FIN.out.inv.rules] at hr
    rcases List.mem_append.1 hr with q | q
    · have := SM.out.2 r q; omega
    · unfold rulesOf at q
      obtain ⟨i, _, q⟩ := List.mem_flatMap.1 q
      cases hc : (certsOf P)[i]? with
      | none => rw [hc] at q; cases q
      | some c =>
        rw [hc] at q
        simp only [crules, List.mem_map] at q
        obtain ⟨x, hx, rfl⟩ := q
        have hb := certB_may (List.all_eq_true.1 hall c (List.mem_of_getElem? hc))
        have h1 := (may_size (setB_mayC hb.fr hx)).1
        have h2 := (may_size hb.sp).1
        simp only; omega)
  have CW := Lib.hid (certs_words hall)
  have HL := Lib.hid (show ∀ c ∈ certsOf P, c.fr.length ≤ 16 from fun c hc => (certB_len (List.all_eq_true.1 hall c hc)).2)
  have hol := FIN.out.len
  have hpl := FIT.out.1
  rw [certsOf_length] at hol hpl
  have hrl := FEW.out.1
  clear hacc hall hneed RA
  go_wp2_with fail
  (with_reducible refine (RN.out).mono ?_)
  rintro e w2 ⟨oa, va, oc, vc, rfl, ho2, hr2, k2⟩
  have ka := chg_alloc (fun _ => False) w2 (.cells #[.slice oa s.order.length oc, .slice va s.rules.length vc] 57)
  have RO := Lib.hid (obj_alloc_new w2 (.cells #[.slice oa s.order.length oc, .slice va s.rules.length vc] 57))
  have K2 := Lib.hid ((K1.out.trans k2).trans ka)
  have ORD := Lib.hid (own_chg ho2 ka (fun _ _ e => e))
  have RUL := Lib.hid (own_chg hr2 ka (fun _ _ e => e))
  clear k2 ka ho2 hr2 RN K1
  go_upto_region 8 with fail
  generalize hro : w2.heap.size = ro at *
  generalize w2.alloc (.cells #[.slice oa s.order.length oc, .slice va s.rules.length vc] 57) = w3 at *
  clear hro
  go_wp2_with (at_builtin; refine wpList_pushS rfl (.tmp 51) (.tmp 52) 53 rfl 64 2 32 Try.underlying53 Try.elemRule w3.heap.size _ 0 [] rfl (own_empty _ _ _ _ (Nat.le_refl _)) ra R.length rc (ruleCells R) rfl ?a1 ?a2 ?a3 ?a4 ?a5 ?a6 ?a7 ?nx1)
  case a1 => exact ruleCells_length R
  case a2 => exact rules_src (HV.out.at_.chg (K2.out.alloc _) (fun _ _ e => e))
  case a3 => intro e; exact HV.out.nil _ _ (by rw [e])
  case a4 => exact ruleCells_one R
  case a5 => have := SM.out.1; omega
  case a6 => have := SM.out.1; unfold maxLen; omega
  case a7 => simp
  intro v4 w4 o4 g4
  obtain ⟨a4, c4, rfl⟩ := own_shape o4
  have k4 : Chg (fun _ => False) w3 w4 := (chg_alloc (fun _ => False) w3 (.cells #[] 64)).next (Chg.of_grown g4) (fun x hx e => by
    have e2 : w3.heap.size = x := by simpa [Value.ownBlock] using e
    omega)
  have h4 : w4.ownsRow w3.heap.size 64 2 (.slice a4 (0 + R.length) c4) R.length (ruleCells R) := by simpa using o4
  rw [Nat.zero_add] at h4
  have H4 := Lib.hid h4
  have K34 := Lib.hid k4
  have z0 := cell_of (o := 0) (k4.obj (fun e => e) RO.out) rfl
  clear o4 g4 k4 h4
  go_wp2_with fail
  clear z0
  go_loopw [9, 57] (fun hvv iv wr => ∃ k : Nat, k ≤ s.order.length ∧ iv = .int .i64 k ∧ Hid (wr.ownsRow w3.heap.size 64 2 hvv (R ++ rulesOf (certsOf P) (s.order.take k)).length (ruleCells (R ++ rulesOf (certsOf P) (s.order.take k))) ∧ Chg (fun _ => False) w3 wr)) (fun _ iv _ => s.order.length - (intOf iv).toNat)
  case atStart => exact ⟨0, by omega, rfl, Lib.hid ⟨by simpa [rulesOf] using H4.out, K34.out⟩⟩
  case round =>
    obtain ⟨k, hk, rfl, HI⟩ := hrel
    obtain ⟨ab, cb, eb⟩ := own_shape HI.out.1
    subst eb
    have HO := Lib.hid HI.out.1
    have KC := Lib.hid HI.out.2
    clear HI
    by_cases hlt : k < s.order.length
    · obtain ⟨i, hi⟩ : ∃ i, s.order[k]? = some i := ⟨_, List.getElem?_eq_getElem hlt⟩
      have hil := FIN.out.inv.lt i (List.mem_of_getElem? hi)
      rw [certsOf_length] at hil
      obtain ⟨⟨c, sv⟩, hp⟩ : ∃ p, P[i]? = some p := ⟨_, List.getElem?_eq_getElem hil⟩
      have hc := certsOf_get hp
      have J := FIN.out.inv.just k i c hi hc
      have TK := Lib.hid (show R ++ rulesOf (certsOf P) (s.order.take (k + 1)) = (R ++ rulesOf (certsOf P) (s.order.take k)) ++ crules c by rw [rules_to (C := certsOf P) hi hc, List.append_assoc])
      have hfl := HL.out c (List.mem_of_getElem? hc)
      have SUBR := Lib.hid (show (R ++ rulesOf (certsOf P) (s.order.take k)).length ≤ 400 ∧ (∀ r ∈ R ++ rulesOf (certsOf P) (s.order.take k), r ∈ s.rules) ∧ (R ++ rulesOf (certsOf P) (s.order.take (k + 1))).length ≤ 400 from by
        have hsub : ∀ m, ∀ r ∈ R ++ rulesOf (certsOf P) (s.order.take m), r ∈ s.rules := fun m r hr => by
          rw [FIN.out.inv.rules]
          rcases List.mem_append.1 hr with q | q
          · exact List.mem_append_left _ q
          · refine List.mem_append_right _ ?_
            unfold rulesOf at q ⊢
            obtain ⟨j, hj, q⟩ := List.mem_flatMap.1 q
            exact List.mem_flatMap.2 ⟨j, List.mem_of_mem_take hj, q⟩
        have hlen : ∀ m, (R ++ rulesOf (certsOf P) (s.order.take m)).length ≤ 400 := fun m => by
          have e : s.rules = (R ++ rulesOf (certsOf P) (s.order.take m)) ++ rulesOf (certsOf P) (s.order.drop m) := by
            rw [FIN.out.inv.rules, List.append_assoc]
            congr 1
            conv => lhs; rw [← List.take_append_drop m s.order]
            unfold rulesOf
            rw [List.flatMap_append]
          have := congrArg List.length e
          rw [List.length_append] at this
          omega
        exact ⟨hlen k, hsub k, hlen (k + 1)⟩)
      have JU := Lib.hid (show ∀ x ∈ c.fr, rowErr (R ++ rulesOf (certsOf P) (s.order.take k)) x bnd = 0 ∧ tellB (R ++ rulesOf (certsOf P) (s.order.take k)) x (atomW c.sg) bnd = true from back_yes.1 J)
      obtain ⟨_, _, e1, _, hcl⟩ := HU.out
      cases e1
      obtain ⟨g, o, sa, sc, rfl, hgg, hsv, c0, c1, c2, c3, c4, c5, c6, hca⟩ := hcl i _ hp
      simp only at hsv
      subst hsv
      simp only at c0 c1 c2 c3 c4 c5 c6 hca
      have KW := Lib.hid (K2.out.trans KC.out)
      have d0 := cell_chg KW.out (fun e => e) c0
      have d1 := cell_chg KW.out (fun e => e) c1
      have d2 := cell_chg KW.out (fun e => e) c2
      have d3 := cell_chg KW.out (fun e => e) c3
      have d4 := cell_chg KW.out (fun e => e) c4
      have d5 := cell_chg KW.out (fun e => e) c5
      have d6 := cell_chg KW.out (fun e => e) c6
      have HCA := Lib.hid hca
      obtain ⟨_, _, eo, _, hol2⟩ := own_get ORD.out
      cases eo
      obtain ⟨go, rfl, _, o0'⟩ := hol2 k (.int .i64 (i : Int)) (by unfold ints; rw [List.getElem?_map, hi]; rfl)
      have o0 := cell_chg KC.out (fun e => e) o0'
      have hsg := hca.sg
      have XS := Lib.hid (FIT.out.2.2 c (List.mem_of_getElem? hc)).2.2
      have hsp := hca.sp
      have CR := Lib.hid (show crules c = crulesTo c c.fr.length by unfold crules crulesTo; rw [List.take_length])
      have SU := Lib.hid (fun q x => @crulesTo_succ c q x)
      have LE := Lib.hid (fun q => @crulesTo_length c q)
      have Z := Lib.hid (show crulesTo c 0 = [] by unfold crulesTo; simp)
      clear hcl hp hca c0 c1 c2 c3 c4 c5 c6 hgg J hol2 o0' hi hc
      generalize R ++ rulesOf (certsOf P) (s.order.take k) = RK at *
      generalize crules c = CC at *
      generalize crulesTo c = T at *
      obtain ⟨kind, sg, sp, fr, f, t, num⟩ := c
      simp only at d0 d1 d2 d3 d4 d5 d6 HCA hsg hsp hfl JU CR SU LE XS
      have kb := chg_alloc (fun _ => False) wr (.cells #[.int .i64 kind, .int .u16 (sg : Int), .string sp, .slice sa fr.length sc, .int .i64 f, .int .i64 t, .int .i64 num] 37)
      have BX := Lib.hid (obj_alloc_new wr (.cells #[.int .i64 kind, .int .u16 (sg : Int), .string sp, .slice sa fr.length sc, .int .i64 f, .int .i64 t, .int .i64 num] 37))
      have KB := Lib.hid (KC.out.trans kb)
      have HB := Lib.hid (own_chg HO.out kb (fun _ _ e => e))
      have hsb : wr.heap.size < (wr.alloc (.cells #[.int .i64 kind, .int .u16 (sg : Int), .string sp, .slice sa fr.length sc, .int .i64 f, .int .i64 t, .int .i64 num] 37)).heap.size := by rw [World.size_alloc]; omega
      have b3 := cell_of (o := 3) BX.out rfl
      clear kb KC HO KW
      go_wp2_with fail
      clear d0 d1 d2 d3 d4 d5 d6 o0 b3
      generalize hbx : wr.heap.size = bx at *
      generalize wr.alloc (.cells #[.int .i64 kind, .int .u16 (sg : Int), .string sp, .slice sa fr.length sc, .int .i64 f, .int .i64 t, .int .i64 num] 37) = wb at *
      clear hbx
      go_loopw [68] (fun iv wq => ∃ q : Nat, q ≤ fr.length ∧ iv = .int .i64 q ∧ Hid (Chg (fun _ => False) wb wq)) (fun iv _ => fr.length - (intOf iv).toNat)
      case atStart => exact ⟨0, by omega, rfl, Lib.hid (Chg.refl _ _)⟩
      case round =>
        obtain ⟨q, hq, rfl, HQ⟩ := hrel
        have KQ := Lib.hid (KB.out.trans HQ.out)
        have KWQ := Lib.hid (K2.out.trans KQ.out)
        have BQ := Lib.hid (HQ.out.obj (fun e => e) BX.out)
        have OQ := Lib.hid (own_chg HB.out HQ.out (fun _ _ e => e))
        by_cases hql : q < fr.length
        · obtain ⟨x, hx⟩ : ∃ x, fr[q]? = some x := ⟨_, List.getElem?_eq_getElem hql⟩
          obtain ⟨_, _, e1, _, hcl⟩ := (HCA.out.chg KWQ.out (fun _ _ e => e)).set.at_
          cases e1
          obtain ⟨lb, lo, rfl, _, x0, hxs⟩ := hcl q x hx
          obtain ⟨je, jt⟩ := JU.out x (List.mem_of_getElem? hx)
          have hxx := XS.out x (List.mem_of_getElem? hx)
          have OFW := Lib.hid (of_sg wr sg hsg)
          have LEAD := Lib.hid (fun w5 (k5 : Chg (fun _ => False) wr w5) => (show Calls Try.prog 27 #[.slice ab RK.length cb, .string x, .string (atomW sg), .int .i64 bnd] w5 fun e w' => e = .returned (.tuple #[.bool true, .int .i64 0]) ∧ Chg (fun _ => False) w5 w' from by
            have := rleads_any (w := w5) (v := .slice ab RK.length cb) (R := RK) (s := x) (b := bnd) ⟨rulesAt_own (own_chg OQ.out k5 (fun _ _ e => e)) (fun r hr => by have := FEW.out.2 r (SUBR.out.2.1 r hr); unfold maxLen at *; omega), .inl ⟨SUBR.out.1, fun r hr => (FEW.out.2 r (SUBR.out.2.1 r hr)).1⟩, hxs⟩ (fun r hr => F47.out r (SUBR.out.2.1 r hr)) (by omega) (atomW sg)
            rwa [je, jt] at this))
          have b1 := cell_of (o := 1) BQ.out rfl
          have HQC := Lib.hid HQ.out
          clear hcl hx je jt hxs HQ
          generalize atomW sg = tw at *
          go_wp2_with fail
          (with_reducible refine (OFW.out).mono ?_)
          rintro e w5 ⟨rfl, k5⟩
          have L5 := Lib.hid (LEAD.out w5 k5)
          have HQ5 := Lib.hid (HQC.out.trans k5)
          clear LEAD OFW k5 x0 b1
          go_wp2_with fail
          (with_reducible refine (L5.out).mono ?_)
          rintro e w6 ⟨rfl, k6⟩
          have HQ6 := Lib.hid (HQ5.out.trans k6)
          clear k6 L5 HQ5
          go_wp2
          go_roundw
          case rel => exact ⟨q + 1, by omega, by go_num, HQ6⟩
          case measure => simp [intOf]; omega
        · obtain rfl : q = fr.length := by omega
          have b3 := cell_of (o := 3) BQ.out rfl
          clear HQ KB HB BX KWQ JU
          go_wp2_with fail
          clear b3
          obtain ⟨F, hF⟩ : ∃ F : Nat → List BRul, ∀ q, F q = RK ++ T q := ⟨_, fun _ => rfl⟩
          have F0 := Lib.hid (show F 0 = RK by rw [hF, Z.out, List.append_nil])
          have FN := Lib.hid (show ∀ q x, fr[q]? = some x → F (q + 1) = F q ++ [(x, sp)] from fun q x h => by rw [hF, hF, SU.out q x h, List.append_assoc])
          have FL := Lib.hid (show ∀ q, q ≤ fr.length → (F q).length = RK.length + q from fun q h => by rw [hF, List.length_append, LE.out q h])
          have FE := Lib.hid (show R ++ rulesOf (certsOf P) (s.order.take (k + 1)) = F fr.length by rw [TK.out, CR.out, hF])
          clear hF
          go_loopw [9, 93] (fun hvv iv wz => ∃ q : Nat, q ≤ fr.length ∧ iv = .int .i64 q ∧ Hid (wz.ownsRow w3.heap.size 64 2 hvv (F q).length (ruleCells (F q)) ∧ Chg (fun _ => False) w3 wz ∧ wz.heap[bx]? = some (.cells #[.int .i64 kind, .int .u16 (sg : Int), .string sp, .slice sa fr.length sc, .int .i64 f, .int .i64 t, .int .i64 num] 37 (0, 0)))) (fun _ iv _ => fr.length - (intOf iv).toNat)
          case atStart => exact ⟨0, by omega, rfl, Lib.hid ⟨by rw [F0.out]; exact OQ.out, KQ.out, BQ.out⟩⟩
          case round =>
            obtain ⟨q, hq, rfl, HI⟩ := hrel
            obtain ⟨hho, hkz, hbz⟩ := HI.out
            obtain ⟨ab2, cb2, eb⟩ := own_shape hho
            subst eb
            have HO := Lib.hid hho
            have KZ := Lib.hid hkz
            have BZ := Lib.hid hbz
            clear HI hho hkz hbz OQ KQ BQ
            have tl := FL.out q hq
            have tl1 : (F q).length ≤ RK.length + 16 := by omega
            clear tl
            by_cases hlt2 : q < fr.length
            · obtain ⟨x, hx⟩ : ∃ x, fr[q]? = some x := ⟨_, List.getElem?_eq_getElem hlt2⟩
              obtain ⟨_, _, e1, _, hcl⟩ := (HCA.out.chg (K2.out.trans KZ.out) (fun _ _ e => e)).set.at_
              cases e1
              obtain ⟨lb, lo, rfl, _, x0, hxs⟩ := hcl q x hx
              have NX := Lib.hid (FN.out q x hx)
              have b2 := cell_of (o := 2) BZ.out rfl
              have hb4 : w3.heap.size ≤ wr.heap.size := KZ.out.size
              have hrk := SUBR.out.1
              have hll : (F q).length ≤ 500 := by omega
              clear hcl hx
              go_wp2_with (at_builtin; refine wpList_push rfl (.tmp 97) (.tmp 102) 53 rfl 64 2 32 Try.underlying53 Try.elemRule w3.heap.size _ _ _ rfl (HO.out.alloc _) _ [.string x, .string sp] 64 (0, 0) rfl (obj_alloc_new _ _) rfl ?b1 ?b2 ?b3 ?b4 ?b5)
              case b1 => first | exact ⟨rfl, rfl⟩ | (intro u hu; simp at hu; rcases hu with rfl | rfl <;> rfl)
              case b2 => omega
              case b3 => unfold maxLen; omega
              case b4 => first | omega | (rw [World.size_alloc]; omega)
              intro v5 w5 o5 g5
              have kk := (chg_alloc (fun j => (Value.slice ab2 (F q).length cb2).ownBlock = some j) wr (.cells #[.string x, .string sp] 64)).grown g5 (fun j hj _ => hj)
              have O5 := Lib.hid (show w5.ownsRow w3.heap.size 64 2 v5 (F (q + 1)).length (ruleCells (F (q + 1))) from by
                rw [NX.out, List.length_append, ruleCells_append]; exact o5)
              have K5 := Lib.hid (show Chg (fun _ => False) w3 w5 from KZ.out.next kk (fun j hj e => by have := (HO.out.lt j e).1; omega))
              have B5 := Lib.hid (kk.obj (fun e => row_ne HO.out BZ.out (by decide) e) BZ.out)
              clear kk o5 g5 x0 b2 HO KZ BZ
              go_wp2
              go_roundw
              case rel => exact ⟨q + 1, by omega, by go_num, Lib.hid ⟨O5.out, K5.out, B5.out⟩⟩
              case measure => simp [intOf]; omega
            · obtain rfl : q = fr.length := by omega
              have HN := Lib.hid (show wr.ownsRow w3.heap.size 64 2 (.slice ab2 (F fr.length).length cb2) (R ++ rulesOf (certsOf P) (s.order.take (k + 1))).length (ruleCells (R ++ rulesOf (certsOf P) (s.order.take (k + 1)))) from by
                rw [FE.out]; exact HO.out)
              clear HO
              go_wp2
              go_roundw
              case rel => exact ⟨k + 1, by omega, by go_num, Lib.hid ⟨HN.out, KZ.out⟩⟩
              case measure => simp [intOf]; omega
    · obtain rfl : k = s.order.length := by omega
      have HS := Lib.hid (show wr.ownsRow w3.heap.size 64 2 (.slice ab (R ++ rulesOf (certsOf P) (s.order.take s.order.length)).length cb) s.rules.length (ruleCells s.rules) from by
        have e : R ++ rulesOf (certsOf P) (s.order.take s.order.length) = s.rules := by rw [List.take_length, FIN.out.inv.rules]
        have := HO.out
        rwa [e] at this ⊢)
      rw [show (R ++ rulesOf (certsOf P) (s.order.take s.order.length)).length = s.rules.length by rw [List.take_length, FIN.out.inv.rules]] at HS ⊢
      clear HO
      have RO4 := Lib.hid (KC.out.obj (fun e => e) RO.out)
      have RUL4 := Lib.hid (own_chg RUL.out KC.out (fun _ _ e => e))
      have ORD4 := Lib.hid (own_chg ORD.out KC.out (fun _ _ e => e))
      have K4 := Lib.hid (K2.out.trans KC.out)
      have c1 := cell_of (o := 1) RO4.out rfl
      have sz : ∀ r ∈ s.rules, r.1.size ≤ maxLen ∧ r.2.size ≤ maxLen := fun r hr => by have := FEW.out.2 r hr; unfold maxLen at *; omega
      have SAME := Lib.hid (rules_same wr _ _ s.rules _ _ (rulesAt_own HS.out sz) (rulesAt_own RUL4.out sz))
      clear KC sz RO RUL ORD K2 H4 K34
      go_wp2_with fail
      (with_reducible refine (SAME.out).mono ?_)
      rintro e w5 ⟨rfl, k5⟩
      have HS5 := Lib.hid (own_chg HS.out k5 (fun _ _ e => e))
      have RO5 := Lib.hid (k5.obj (fun e => e) RO4.out)
      have ORD5 := Lib.hid (own_chg ORD4.out k5 (fun _ _ e => e))
      have K5 := Lib.hid (K4.out.trans k5)
      clear k5 SAME c1 HS RO4 RUL4 ORD4 K4
      go_wp2_with fail
      go_loopw [113] (fun iv wz => ∃ i : Nat, i ≤ P.length ∧ iv = .int .i64 i ∧ Hid (Chg (fun _ => False) w5 wz)) (fun iv _ => P.length - (intOf iv).toNat)
      case atStart => exact ⟨0, by omega, rfl, Lib.hid (Chg.refl _ _)⟩
      case round =>
        obtain ⟨i, hi, rfl, HI⟩ := hrel
        have KC := Lib.hid HI.out
        have KW := Lib.hid (K5.out.trans HI.out)
        clear HI
        by_cases hil : i < P.length
        rotate_left
        · obtain rfl : i = P.length := by omega
          go_wp2
          go_ret
          exact ⟨rfl, KW.out⟩
        obtain ⟨⟨c, sv⟩, hp⟩ : ∃ p, P[i]? = some p := ⟨_, List.getElem?_eq_getElem hil⟩
        have hc := certsOf_get hp
        obtain ⟨_, _, e1, _, hcl⟩ := HU.out
        cases e1
        obtain ⟨g, o, sa, sc, rfl, hgg, hsv, c0, c1, c2, c3, c4, c5, c6, hca⟩ := hcl i _ hp
        simp only at hsv
        subst hsv
        simp only at c0 c1 c2 c3 c4 c5 c6 hca
        have d0 := cell_chg KW.out (fun e => e) c0
        have d1 := cell_chg KW.out (fun e => e) c1
        have d2 := cell_chg KW.out (fun e => e) c2
        have d3 := cell_chg KW.out (fun e => e) c3
        have d4 := cell_chg KW.out (fun e => e) c4
        have d5 := cell_chg KW.out (fun e => e) c5
        have d6 := cell_chg KW.out (fun e => e) c6
        have HCA := Lib.hid (hca.chg KW.out (fun _ _ e => e))
        have hsg := hca.sg
        have XS := Lib.hid (FIT.out.2.2 c (List.mem_of_getElem? hc)).2.2
        have hfl := HL.out c (List.mem_of_getElem? hc)
        have YES := Lib.hid (show backTo s.rules bnd (atomW c.sg) c.fr c.fr.length = true → decide (i ∈ s.order) = true from fun q => by
          rw [decide_eq_true_iff]
          refine Decidable.byContradiction fun hn => ?_
          have h1 := FIN.out.full i c hc hn
          have h2 : backC s.rules bnd c = (true, 0) := backTo_all q
          rw [h2] at h1
          cases h1)
        have HAS := Lib.hid (fun w6 (k6 : Chg (fun _ => False) w5 w6) => has_own (va := va) (vn := s.rules.length) (vc := vc) (own_chg ORD5.out k6 (fun _ _ e => e)) i i rfl)
        clear hcl hp hca c0 c1 c2 c3 c4 c5 c6 hgg
        have BS := Lib.hid (fun q x (h : c.fr[q]? = some x) => backTo_succ (R := s.rules) (b := bnd) (t := atomW c.sg) h)
        have B0 := Lib.hid (show backTo s.rules bnd (atomW c.sg) c.fr 0 = true by unfold backTo; simp)
        obtain ⟨kind, sg, sp, fr, f, t, num⟩ := c
        simp only at d0 d1 d2 d3 d4 d5 d6 HCA hsg hfl XS YES BS B0
        clear hc
        have kb := chg_alloc (fun _ => False) wr (.cells #[.int .i64 kind, .int .u16 (sg : Int), .string sp, .slice sa fr.length sc, .int .i64 f, .int .i64 t, .int .i64 num] 37)
        have BX := Lib.hid (obj_alloc_new wr (.cells #[.int .i64 kind, .int .u16 (sg : Int), .string sp, .slice sa fr.length sc, .int .i64 f, .int .i64 t, .int .i64 num] 37))
        have KB := Lib.hid (KC.out.trans kb)
        have HCB := Lib.hid (HCA.out.chg kb (fun _ _ e => e))
        have b3 := cell_of (o := 3) BX.out rfl
        clear kb KC KW HCA
        go_wp2_with fail
        clear d0 d1 d2 d3 d4 d5 d6 b3
        generalize hbx : wr.heap.size = bx at *
        generalize wr.alloc (.cells #[.int .i64 kind, .int .u16 (sg : Int), .string sp, .slice sa fr.length sc, .int .i64 f, .int .i64 t, .int .i64 num] 37) = wb at *
        clear hbx
        generalize hT : backTo s.rules bnd (atomW sg) fr = T at *
        clear hT
        go_loopw [21, 121] (fun av iv wq => ∃ (q : Nat) (x : Bool), q ≤ fr.length ∧ av = .bool x ∧ iv = .int .i64 q ∧ Hid (x = T q ∧ Chg (fun _ => False) wb wq)) (fun _ iv _ => fr.length - (intOf iv).toNat)
        case atStart => exact ⟨0, true, by omega, rfl, rfl, Lib.hid ⟨B0.out.symm, Chg.refl _ _⟩⟩
        case round =>
          obtain ⟨q, av, hq, rfl, rfl, HQ⟩ := hrel
          have KQ := Lib.hid (KB.out.trans HQ.out.2)
          have BQ := Lib.hid (HQ.out.2.obj (fun e => e) BX.out)
          have HK := Lib.hid HQ.out.2
          have AV := Lib.hid HQ.out.1
          clear HQ
          by_cases hql : q < fr.length
          · obtain ⟨x, hx⟩ : ∃ x, fr[q]? = some x := ⟨_, List.getElem?_eq_getElem hql⟩
            obtain ⟨_, _, e1, _, hcl⟩ := (HCB.out.chg HK.out (fun _ _ e => e)).set.at_
            cases e1
            obtain ⟨lb, lo, rfl, _, x0, hxs⟩ := hcl q x hx
            have hxx := XS.out x (List.mem_of_getElem? hx)
            have NX := Lib.hid (BS.out q x hx)
            have OFW := Lib.hid (of_sg wr sg hsg)
            have LEAD := Lib.hid (fun w6 (k6 : Chg (fun _ => False) wr w6) => rleads_any (w := w6) (v := .slice ab s.rules.length cb) (R := s.rules) (s := x) (b := bnd) ⟨rulesAt_own (own_chg HS5.out (KQ.out.trans k6) (fun _ _ e => e)) (fun r hr => by have := FEW.out.2 r hr; unfold maxLen at *; omega), .inl ⟨FEW.out.1, fun r hr => (FEW.out.2 r hr).1⟩, hxs⟩ F47.out (by omega) (atomW sg))
            have b1 := cell_of (o := 1) BQ.out rfl
            clear hcl hx hxs
            generalize tellB s.rules x (atomW sg) bnd = tb at *
            generalize rowErr s.rules x bnd = re at *
            generalize atomW sg = tw at *
            go_wp2_with fail
            (with_reducible refine (OFW.out).mono ?_)
            rintro e w6 ⟨rfl, k6⟩
            have L6 := Lib.hid (LEAD.out w6 k6)
            have HQ6 := Lib.hid (HK.out.trans k6)
            clear LEAD OFW k6 x0 b1 HK
            go_wp2_with fail
            (with_reducible refine (L6.out).mono ?_)
            rintro e w7 ⟨rfl, k7⟩
            have HQ7 := Lib.hid (HQ6.out.trans k7)
            clear k7 L6 HQ6
            cases av with
            | false =>
              have TN := Lib.hid (show false = T (q + 1) by rw [NX.out, ← AV.out]; rfl)
              clear NX AV
              go_wp2
              go_roundw
              case rel => exact ⟨q + 1, false, by omega, by first | trivial | rfl, by go_num, Lib.hid ⟨TN.out, HQ7.out⟩⟩
              case measure => simp [intOf]; omega
            | true =>
            cases tb with
            | false =>
              have TN := Lib.hid (show false = T (q + 1) by rw [NX.out, ← AV.out]; rfl)
              clear NX AV
              go_wp2
              go_roundw
              case rel => exact ⟨q + 1, false, by omega, by first | trivial | rfl, by go_num, Lib.hid ⟨TN.out, HQ7.out⟩⟩
              case measure => simp [intOf]; omega
            | true =>
            by_cases hre : re = 0
            · have TN := Lib.hid (show true = T (q + 1) by rw [NX.out, ← AV.out, decide_eq_true hre]; rfl)
              have g : (re == 0) = true := beq_iff_eq.2 hre
              clear NX AV hre
              go_wp2
              go_roundw
              case rel => exact ⟨q + 1, true, by omega, by first | trivial | rfl, by go_num, Lib.hid ⟨TN.out, HQ7.out⟩⟩
              case measure => simp [intOf]; omega
            · have TN := Lib.hid (show false = T (q + 1) by rw [NX.out, ← AV.out, decide_eq_false hre]; rfl)
              have g : (re == 0) = false := beq_eq_false_iff_ne.2 hre
              clear NX AV hre
              go_wp2
              go_roundw
              case rel => exact ⟨q + 1, false, by omega, by first | trivial | rfl, by go_num, Lib.hid ⟨TN.out, HQ7.out⟩⟩
              case measure => simp [intOf]; omega
          · obtain rfl : q = fr.length := by omega
            cases av with
            | false =>
              clear AV
              go_wp2
              go_roundw
              case rel => exact ⟨i + 1, by omega, by go_num, Lib.hid KQ.out⟩
              case measure => simp [intOf]; omega
            | true =>
              have IN := YES.out AV.out.symm
              have RO6 := Lib.hid (KQ.out.obj (fun e => e) RO5.out)
              have r0 := cell_of (o := 0) RO6.out rfl
              have r1 := cell_of (o := 1) RO6.out rfl
              have HA := HAS.out wr KQ.out
              rw [IN] at HA
              have HA := Lib.hid HA
              clear AV IN RO6
              go_wp2_with fail
              (with_reducible refine (HA.out).mono ?_)
              rintro e w6 ⟨rfl, k6⟩
              have KQ6 := Lib.hid (KQ.out.trans k6)
              clear k6 HA r0 r1
              go_wp2
              go_roundw
              case rel => exact ⟨i + 1, by omega, by go_num, Lib.hid KQ6.out⟩
              case measure => simp [intOf]; omega
end Go.Proofs.Ytdgmjablkdemmaa
